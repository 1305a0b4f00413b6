/- What the law needs of plain Lean, and the law itself over it. -/
import Derived.Test.YtkhjemahenkdiaaGreatDoorVF3
import Derived.Test.YtkhjemahenkdiaaGreatDoorVBase
import Derived.IntWalk
import Derived.Test.YtkhjemahenkdiaaGreatDoorVZ
namespace Go.Proofs.YtkhjemahenkdiaaGreatDoor.V
open Go Go.RowKit
set_option synthInstance.maxSize 2000
set_option synthInstance.maxHeartbeats 200000
set_option linter.unusedVariables false
set_option linter.unusedSimpArgs false
set_option maxRecDepth 10000
theorem wsucc (i : Nat) (h : i < 1000000) : IntKind.i64.wrap ((i : Int) + 1) = ((i + 1 : Nat) : Int) := by rw [IntWalk.i64_in _ (by omega)]; omega
theorem att_n {e : Ty} (xs : List e.T) (i : Nat) (h : i < xs.length) : att e xs (i : Int) = xs[i] := by
  unfold att
  rw [Int.toNat_natCast, List.getElem?_eq_getElem h]
  rfl
theorem loop_at {R : Type} (B : Nat → Nat → Option R) (j : Nat) (r : Option R) (step : ∀ m i, i < j → B (m + 1) i = B m (i + 1)) (fin : ∀ m, B (m + 1) j = r) : ∀ d i m, i + d = j → d < m → B m i = r
  | 0, i, m + 1, h, _ => by rw [show i = j by omega]; exact fin m
  | d + 1, i, m + 1, h, hm => by rw [step m i (by omega)]; exact loop_at B j r step fin d (i + 1) m (by omega) (by omega)
theorem loop {R : Type} (B : Nat → Nat → Option R) (j : Nat) (r : Option R) (step : ∀ m i, i < j → B (m + 1) i = B m (i + 1)) (fin : ∀ m, B (m + 1) j = r) (m : Nat) (hm : j < m) : B m 0 = r := loop_at B j r step fin j 0 m (by omega) hm
theorem fi_not {α : Type} {p : α → Bool} {xs : List α} {i : Nat} (hi : i < xs.findIdx p) (hl : i < xs.length) : p xs[i] = false := by simpa using List.not_of_lt_findIdx hi
abbrev Rl := T1383.T
abbrev Vr := T814c.T
def hasTag (tag : Int) (v : Vr) : Bool := v.1 == tag
def tagAt (t : List Vr) (tag : Int) : Nat := t.findIdx (hasTag tag)
def bnd (n : Int) : Int := if 32 < (if 0 > n then 0 else n) then 32 else if 0 > n then 0 else n
theorem bnd_range (n : Int) : 0 ≤ bnd n ∧ bnd n ≤ 32 := by unfold bnd; split <;> split <;> omega
noncomputable def mask (n : Int) : Int := IntKind.i64.wrap (IntKind.u32.wrap (IntKind.u64.wrap (4294967295 * (2 ^ (min (IntKind.i64.wrap (32 - bnd n)).toNat IntKind.u64.bits)))))
theorem mask_eq (k : Nat) (n : Int) : f_bits_Mask.f k n = some (mask n, ()) := by
  have h := bnd_range n
  unfold f_bits_Mask.f f_bits_bound.f
  simp only [Option.bind_some]
  change (if 0 ≤ IntKind.i64.wrap (32 - bnd n) then _ else _) = _
  rw [if_pos (by rw [IntWalk.i64_in _ (by omega)]; omega)]
  rfl
noncomputable def pmay (p : T713d.T) : Bool := decide (p.2 ≥ 0) && (decide (p.2 ≤ 32) && (decide (p.1 ≥ 0) && (decide (p.1 ≤ 4294967295) && IntKind.i64.wrap (((BitVec.ofInt IntKind.i64.bits p.1 &&& ~~~ BitVec.ofInt IntKind.i64.bits (mask p.2)).toNat : Int)) == (0 : Int))))
theorem pmay_eq (k : Nat) (p : T713d.T) : f_bits_May.f k p = some (pmay p, ()) := by
  unfold f_bits_May.f pmay
  simp only [mask_eq, Option.bind_some]
  by_cases h1 : decide (p.2 ≥ 0) = true <;> by_cases h2 : decide (p.2 ≤ 32) = true <;> by_cases h3 : decide (p.1 ≥ 0) = true <;> by_cases h4 : decide (p.1 ≤ 4294967295) = true <;> simp only [h1, h2, h3, h4, if_true, if_false, Bool.true_and, Bool.false_and, Bool.false_eq_true]
def port (r : Rl) : Bool := if ((r.2.2.2.1 == (0 : Int)) && ((r.2.2.2.2 == (0 : Int)) && true)) = true then true else (r.2.2.2.1 == (1 : Int)) && (decide (r.2.2.2.2 ≥ 0) && decide (r.2.2.2.2 ≤ 7))
noncomputable def rmay (r : Rl) : Bool := port r && (pmay r.1 && (decide (r.2.1 ≥ -1) && (decide (r.2.1 ≤ 7) && (decide (r.2.2.1 ≥ 0) && decide (r.2.2.1 ≤ 255)))))
theorem rmay_eq (k : Nat) (r : Rl) : f_rule_May.f k r = some (rmay r, ()) := by
  have hj : ∀ b, f_rule_May.j1 k b r = some (b && (pmay r.1 && (decide (r.2.1 ≥ -1) && (decide (r.2.1 ≤ 7) && (decide (r.2.2.1 ≥ 0) && decide (r.2.2.1 ≤ 255))))), ()) := by
    intro b
    unfold f_rule_May.j1
    simp only [pmay_eq, Option.bind_some]
    cases b <;> cases pmay r.1 <;> by_cases h2 : decide (r.2.1 ≥ -1) = true <;> by_cases h3 : decide (r.2.1 ≤ 7) = true <;> by_cases h4 : decide (r.2.2.1 ≥ 0) = true <;> simp only [h2, h3, h4, if_true, if_false, Bool.true_and, Bool.false_and, Bool.false_eq_true]
  unfold f_rule_May.f rmay port
  simp only [hj]
  by_cases h1 : ((r.2.2.2.1 == (0 : Int)) && ((r.2.2.2.2 == (0 : Int)) && true)) = true
  · rw [if_pos h1, if_pos h1]
  · rw [if_neg h1, if_neg h1]
    by_cases h2 : (r.2.2.2.1 == (1 : Int)) = true <;> by_cases h3 : decide (r.2.2.2.2 ≥ 0) = true <;> simp only [h2, h3, if_true, if_false, Bool.true_and, Bool.false_and, Bool.false_eq_true]
noncomputable def of (t : List Vr) (tag : Int) : List Rl × Bool := if h : tagAt t tag < t.length then (t[tagAt t tag].2, true) else ([], false)
theorem loop_or {R : Type} (B : Nat → Nat → Option R) (n : Nat) (Q : Nat → Prop) (r a : Option R) (step : ∀ m i, i < n → (Q i ∧ B (m + 1) i = B m (i + 1)) ∨ B (m + 1) i = a) (fin : (∀ i, i < n → Q i) → ∀ m, B (m + 1) n = r) : ∀ m, n < m → ((∀ i, i < n → Q i) ∧ B m 0 = r) ∨ B m 0 = a := by
  have key : ∀ d i m, i + d = n → d < m → (∀ j, j < i → Q j) → ((∀ i, i < n → Q i) ∧ B m i = r) ∨ B m i = a := by
    intro d
    induction d with
    | zero => intro i m h hm hq; obtain rfl : i = n := by omega
              obtain ⟨m, rfl⟩ : ∃ m', m = m' + 1 := ⟨m - 1, by omega⟩
              exact .inl ⟨hq, fin hq m⟩
    | succ d ih =>
      intro i m h hm hq
      obtain ⟨m, rfl⟩ : ∃ m', m = m' + 1 := ⟨m - 1, by omega⟩
      rcases step m i (by omega) with ⟨h1, h2⟩ | h2
      · rw [h2]
        exact ih (i + 1) m (by omega) (by omega) (fun j hj => by rcases Nat.lt_or_eq_of_le (Nat.le_of_lt_succ hj) with h | rfl; exact hq j h; exact h1)
      · exact .inr h2
  intro m hm
  exact key n 0 m (by omega) hm (fun j hj => absurd hj (Nat.not_lt_zero j))
abbrev Mg := T4414.T
abbrev Ss := Tb104.T
theorem own_s (k : Nat) (S U : Ss) (m : Mg) (x y : Int) (h : S.2.2.length < 1000000) : i_sess_own_b60.f k S U m x y = some (S.1, (S.2.1, (S.2.2, ()))) := by
  unfold i_sess_own_b60.f
  rw [if_pos (by omega), if_pos (by simp)]
theorem own_d (k : Nat) (S U : Ss) (n x y : Int) (h : S.2.2.length < 1000000) : i_sess_own_9f5.f k S U n x y = some (S.1, (S.2.1, (S.2.2, ()))) := by
  unfold i_sess_own_9f5.f
  rw [if_pos (by omega), if_pos (by simp)]
def fresh (n : Int) (m : Mg) : Bool := !decide (m.2.2.1 ≤ n)
theorem index_s (k : Nat) (v c n x y : Int) (xs : List Mg) (hk : xs.length < k) (hs : xs.length < 1000000) :
    i_slices_IndexFunc_Msg_c91.f k v c n x y xs = some (if xs.findIdx (fun m => decide (m.2.2.1 ≤ n)) < xs.length then (xs.findIdx (fun m => decide (m.2.2.1 ≤ n)) : Int) else -1, (v, (c, (n, (x, (y, (xs, ()))))))) := by
  have hle : xs.findIdx (fun m => decide (m.2.2.1 ≤ n)) ≤ xs.length := List.findIdx_le_length
  refine loop (fun m i => i_slices_IndexFunc_Msg_c91.l1 k m (xs.length : Int) (i : Int) v c n x y xs) (xs.findIdx (fun m => decide (m.2.2.1 ≤ n))) _ (fun m i hi => ?_) (fun m => ?_) k (by omega)
  · have hl : i < xs.length := by omega
    have hn : decide (xs[i].2.2.1 ≤ n) = false := fi_not (p := fun m : Mg => decide (m.2.2.1 ≤ n)) hi hl
    simp only [i_slices_IndexFunc_Msg_c91.l1, i_slices_IndexFunc_Msg_c91.b1, i_sess_Done_1_0ff.f, att_n xs i hl, Option.bind_some, hn]
    rw [if_pos (by (first | omega | (dsimp only [Ty.T]; omega) | (simp only [decide_eq_true_eq, decide_eq_false_iff_not, Bool.not_eq_true, Ty.T]; omega) | (simp only [decide_eq_true_eq, decide_eq_false_iff_not, Ty.T]; omega) | (simp only [beq_iff_eq, bne_iff_ne, ne_eq, decide_eq_true_eq, Ty.T]; omega))), if_pos (by omega), if_pos (by omega), wsucc i (by omega)]
    simp
  · by_cases hl : xs.findIdx (fun m => decide (m.2.2.1 ≤ n)) < xs.length
    · have hn : decide (xs[xs.findIdx (fun m => decide (m.2.2.1 ≤ n))].2.2.1 ≤ n) = true := List.findIdx_getElem (p := fun m : Mg => decide (m.2.2.1 ≤ n)) (w := hl)
      simp only [i_slices_IndexFunc_Msg_c91.l1, i_slices_IndexFunc_Msg_c91.b1, i_sess_Done_1_0ff.f, att_n xs _ hl, Option.bind_some, hn]
      rw [if_pos (by (first | omega | (dsimp only [Ty.T]; omega) | (simp only [decide_eq_true_eq, decide_eq_false_iff_not, Bool.not_eq_true, Ty.T]; omega) | (simp only [decide_eq_true_eq, decide_eq_false_iff_not, Ty.T]; omega) | (simp only [beq_iff_eq, bne_iff_ne, ne_eq, decide_eq_true_eq, Ty.T]; omega))), if_pos (by omega), if_pos (by omega), if_pos hl]
      simp
    · simp only [i_slices_IndexFunc_Msg_c91.l1, i_slices_IndexFunc_Msg_c91.b1, if_neg hl]
      rw [if_neg (by (first | omega | (dsimp only [Ty.T]; omega) | (simp only [decide_eq_true_eq, decide_eq_false_iff_not, Bool.not_eq_true, Ty.T]; omega) | (simp only [decide_eq_true_eq, decide_eq_false_iff_not, Ty.T]; omega) | (simp only [beq_iff_eq, bne_iff_ne, ne_eq, decide_eq_true_eq, Ty.T]; omega)))]
def moved (n : Int) (xs : List Mg) : Nat → List Mg × Nat
  | 0 => (xs, 0)
  | j + 1 => match xs[j]? with
    | some v => if fresh n v = true then ((moved n xs j).1.set (moved n xs j).2 v, (moved n xs j).2 + 1) else moved n xs j
    | none => moved n xs j
theorem moved_ok (n : Int) (xs : List Mg) : ∀ j, j ≤ xs.length → (moved n xs j).1.length = xs.length ∧ (moved n xs j).2 ≤ j ∧ (moved n xs j).1.take (moved n xs j).2 = (xs.take j).filter (fresh n) ∧ (moved n xs j).1.drop j = xs.drop j
  | 0, _ => ⟨rfl, Nat.le_refl _, rfl, rfl⟩
  | j + 1, h => by
    obtain ⟨h1, h2, h3, h4⟩ := moved_ok n xs j (by omega)
    have hj : j < xs.length := by omega
    unfold moved
    rw [List.getElem?_eq_getElem hj]
    rw [List.take_succ_eq_append_getElem hj, List.filter_append]
    have hd : (moved n xs j).1.drop (j + 1) = xs.drop (j + 1) := by rw [← List.drop_drop, h4, List.drop_drop]
    dsimp only
    cases hf : fresh n xs[j]
    · rw [if_neg Bool.false_ne_true]
      refine ⟨h1, by omega, ?_, hd⟩
      rw [List.filter_cons, hf, if_neg Bool.false_ne_true, List.filter_nil, List.append_nil]
      exact h3
    · rw [if_pos rfl]
      refine ⟨by rw [List.length_set]; exact h1, by dsimp only; omega, ?_, ?_⟩
      · dsimp only
        rw [List.filter_cons, hf, if_pos rfl, List.filter_nil, ← h3, List.take_succ_eq_append_getElem (by rw [List.length_set]; omega), List.getElem_set_self, List.take_set_of_le (by omega)]
      · dsimp only
        rw [List.drop_set_of_lt (by omega)]
        exact hd
theorem moved_first (n : Int) (xs : List Mg) : ∀ j, j ≤ xs.findIdx (fun m => decide (m.2.2.1 ≤ n)) → moved n xs j = (xs, j)
  | 0, _ => rfl
  | j + 1, h => by
    have hle : xs.findIdx (fun m => decide (m.2.2.1 ≤ n)) ≤ xs.length := List.findIdx_le_length
    have hj : j < xs.length := by omega
    have hn : decide (xs[j].2.2.1 ≤ n) = false := fi_not (p := fun m : Mg => decide (m.2.2.1 ≤ n)) (by omega) hj
    unfold moved
    rw [List.getElem?_eq_getElem hj, moved_first n xs j (by omega)]
    have hf : fresh n xs[j] = true := by unfold fresh; rw [hn]; rfl
    dsimp only
    rw [if_pos hf, List.set_getElem_self]
theorem delete_s (k : Nat) (v c n x y : Int) (xs : List Mg) (hk : xs.length + 5 < k) (hs : xs.length < 1000000) :
    i_slices_DeleteFunc_Msg_c91.f k v c n x y xs = some (xs.filter (fresh n), (v, (c, (n, (x, (y, ())))))) := by
  have hle : xs.findIdx (fun m => decide (m.2.2.1 ≤ n)) ≤ xs.length := List.findIdx_le_length
  unfold i_slices_DeleteFunc_Msg_c91.f
  rw [index_s k v c n x y xs (by omega) hs, Option.bind_some]
  dsimp only
  by_cases hl : xs.findIdx (fun m => decide (m.2.2.1 ≤ n)) < xs.length
  · rw [if_pos hl, if_neg (by simp only [beq_iff_eq, Ty.T]; omega), wsucc _ (by omega)]
    have hn : decide (xs[xs.findIdx (fun m => decide (m.2.2.1 ≤ n))].2.2.1 ≤ n) = true := List.findIdx_getElem (p := fun m : Mg => decide (m.2.2.1 ≤ n)) (w := hl)
    have hstart : moved n xs (xs.findIdx (fun m => decide (m.2.2.1 ≤ n)) + 1) = (xs, xs.findIdx (fun m => decide (m.2.2.1 ≤ n))) := by
      unfold moved
      rw [List.getElem?_eq_getElem hl, moved_first n xs _ (Nat.le_refl _)]
      dsimp only
      rw [if_neg (by unfold fresh; rw [hn]; exact Bool.false_ne_true)]
    generalize xs.findIdx (fun m => decide (m.2.2.1 ≤ n)) = j0 at hl hle hstart ⊢
    have key := loop_at (fun m q => i_slices_DeleteFunc_Msg_c91.l1 k m ((moved n xs q).2 : Int) (q : Int) v c n x y (moved n xs q).1) xs.length (some (xs.filter (fresh n), (v, (c, (n, (x, (y, ()))))))) (fun m q hq => by
      obtain ⟨h1, h2, h3, h4⟩ := moved_ok n xs q (by omega)
      have hql : q < (moved n xs q).1.length := by omega
      have hqv : (moved n xs q).1[q] = xs[q] := by
        have := congrArg (fun l => l[0]?) h4
        simp only [List.getElem?_drop, Nat.add_zero] at this
        rw [List.getElem?_eq_getElem hql, List.getElem?_eq_getElem hq] at this
        exact Option.some.inj this
      simp only [i_slices_DeleteFunc_Msg_c91.l1, i_slices_DeleteFunc_Msg_c91.b1, i_slices_DeleteFunc_Msg_c91.j2, i_sess_Done_1_67f.f, Option.bind_some, att_n _ q hql, hqv]
      rw [if_pos (by (first | omega | (dsimp only [Ty.T]; omega) | (simp only [decide_eq_true_eq, decide_eq_false_iff_not, Bool.not_eq_true, Ty.T]; omega) | (simp only [decide_eq_true_eq, decide_eq_false_iff_not, Ty.T]; omega) | (simp only [beq_iff_eq, bne_iff_ne, ne_eq, decide_eq_true_eq, Ty.T]; omega))), if_pos (by omega), if_pos (by omega), wsucc q (by omega)]
      conv => rhs; unfold moved
      rw [List.getElem?_eq_getElem hq]
      dsimp only
      cases hf : fresh n xs[q]
      · rw [if_neg Bool.false_ne_true, if_neg (by unfold fresh at hf; rw [hf]; exact Bool.false_ne_true)]
      · rw [if_pos rfl, if_pos (by unfold fresh at hf; exact hf), if_pos (by omega), if_pos (by omega), wsucc _ (by omega), Int.toNat_natCast]) (fun m => by
      obtain ⟨h1, h2, h3, h4⟩ := moved_ok n xs xs.length (by omega)
      simp only [i_slices_DeleteFunc_Msg_c91.l1, i_slices_DeleteFunc_Msg_c91.b1]
      rw [if_neg (by (first | omega | (dsimp only [Ty.T]; omega) | (simp only [decide_eq_true_eq, decide_eq_false_iff_not, Bool.not_eq_true, Ty.T]; omega) | (simp only [decide_eq_true_eq, decide_eq_false_iff_not, Ty.T]; omega) | (simp only [beq_iff_eq, bne_iff_ne, ne_eq, decide_eq_true_eq, Ty.T]; omega))), if_pos (by omega), if_pos (by simp only [List.length_append, List.length_take, List.length_replicate, Int.toNat_natCast]; omega), Int.toNat_natCast, List.take_append_of_le_length (by rw [List.length_take]; omega), List.take_take, Nat.min_self, h3, List.take_length]) (xs.length - (j0 + 1)) (j0 + 1) k (by omega) (by omega)
    rw [hstart] at key
    exact key
  · rw [if_neg hl, if_pos (by rfl)]
    have : xs.filter (fresh n) = xs := List.filter_eq_self.2 fun m hm => by
      have := List.findIdx_eq_length.1 (show xs.findIdx (fun m : Mg => decide (m.2.2.1 ≤ n)) = xs.length by omega) m hm
      have h2 : decide (m.2.2.1 ≤ n) = false := this
      unfold fresh
      rw [h2]; rfl
    rw [this]
noncomputable def sdone (S : Ss) (v n : Int) : Ss := if v = S.1 then (S.1, (S.2.1, S.2.2.filter (fresh n))) else S
theorem done_eq (k : Nat) (S : Ss) (v n : Int) (hk : S.2.2.length + 5 < k) (hs : S.2.2.length < 1000000) : f_sess_Done.f k S v n = some (sdone S v n, ()) := by
  unfold f_sess_Done.f f_sess_Done.j1 f_sess_Done.j2 sdone
  rw [own_d k _ _ _ _ _ hs, Option.bind_some]
  dsimp only
  by_cases h : v = S.1
  · rw [if_pos (beq_iff_eq.2 h), if_pos h, delete_s k _ _ _ _ _ _ hk hs]; rfl
  · rw [if_neg (by rw [beq_eq_false_iff_ne.2 h]; exact Bool.false_ne_true), if_neg h]
def addOf (tag : Int) (r : Rl) : Mg := (2, (0, (0, (tag, r))))
def addsOf (tag : Int) (rs : List Rl) : List Mg := rs.map (addOf tag)
theorem adds_eq (k : Nat) (tag : Int) (rs : List Rl) (hk : rs.length < k) (hs : rs.length < 1000000) : f_plan_Adds.f k tag rs = some (addsOf tag rs, ()) := by
  unfold f_plan_Adds.f
  have h : i_plan_many_Rule_do_2f5.f k rs tag = some (tag, (addsOf tag rs, ())) := by
    unfold i_plan_many_Rule_do_2f5.f
    refine loop (fun m i => i_plan_many_Rule_do_2f5.l1 k m rs (rs.length : Int) (i : Int) tag (addsOf tag (rs.take i))) rs.length _ (fun m i hi => ?_) (fun m => ?_) k (by omega)
    · simp only [i_plan_many_Rule_do_2f5.l1, i_plan_many_Rule_do_2f5.b1, i_plan_Adds_1_5da.f, att_n rs i hi]
      rw [if_pos (by (first | omega | (dsimp only [Ty.T]; omega) | (simp only [decide_eq_true_eq, decide_eq_false_iff_not, Bool.not_eq_true, Ty.T]; omega) | (simp only [decide_eq_true_eq, decide_eq_false_iff_not, Ty.T]; omega) | (simp only [beq_iff_eq, bne_iff_ne, ne_eq, decide_eq_true_eq, Ty.T]; omega))), if_pos (by omega), if_pos (by omega), if_pos (by unfold addsOf; rw [List.length_map, List.length_take]; omega), Option.bind_some, wsucc i (by omega)]
      unfold addsOf
      rw [List.take_succ_eq_append_getElem hi, List.map_append]
      rfl
    · simp only [i_plan_many_Rule_do_2f5.l1, i_plan_many_Rule_do_2f5.b1]
      rw [if_neg (by (first | omega | (dsimp only [Ty.T]; omega) | (simp only [decide_eq_true_eq, decide_eq_false_iff_not, Bool.not_eq_true, Ty.T]; omega) | (simp only [decide_eq_true_eq, decide_eq_false_iff_not, Ty.T]; omega) | (simp only [beq_iff_eq, bne_iff_ne, ne_eq, decide_eq_true_eq, Ty.T]; omega))), List.take_length]
  rw [h, Option.bind_some]
theorem wrap_pred (v : Int) : IntKind.i64.wrap (v - 1) ≠ v := by
  rw [IntKind.wrap_i64]
  omega
abbrev Ct := T26b3.T
def inR (n : Nat) (x : Int) : Bool := decide (0 ≤ x ∧ x < (n : Int))
def two (ph : Int) : Bool := ph == 1 || ph == 2 || ph == 3
def rulesAt (x : List (List Rl)) (sw : Int) : List Rl := if 0 ≤ sw ∧ sw < (x.length : Int) then att (.slice T1383) x sw else []
def lvs (cs : List (List (List Rl))) (live next tag new ph sw : Int) : List Vr :=
  if two ph = true then
    if new < tag then [(new, rulesAt (att (.slice (.slice T1383)) cs next) sw), (tag, rulesAt (att (.slice (.slice T1383)) cs live) sw)]
    else [(tag, rulesAt (att (.slice (.slice T1383)) cs live) sw), (new, rulesAt (att (.slice (.slice T1383)) cs next) sw)]
  else [(tag, rulesAt (att (.slice (.slice T1383)) cs live) sw)]
def stampOf (tag new ph : Int) : Int := if ph = 2 ∨ ph = 3 then new else tag
def isB (nc : Nat) (live next ph : Int) (queue : List Int) (np : Nat) : Bool := ((next == -1 && !two ph) || inR nc next) && (inR nc live && (!queue.any (fun q => !inR nc q) && decide ((np : Int) ≤ 100)))
theorem wsucc2 (i : Nat) (h : i < 9223372036854775807) : IntKind.i64.wrap ((i : Int) + 1) = ((i + 1 : Nat) : Int) := by rw [IntWalk.i64_in _ (by omega)]; omega
theorem index_g (k : Nat) (xs : List Int) (x : Int) (h : xs.length < k) (h2 : xs.length ≤ 9223372036854775807) : f_slices_Index_int.f k xs x = some ((if xs.findIdx (fun y => x == y) < xs.length then ((xs.findIdx (fun y => x == y) : Nat) : Int) else -1), ()) := by
  have hle : xs.findIdx (fun y => x == y) ≤ xs.length := List.findIdx_le_length
  unfold f_slices_Index_int.f
  refine loop (fun m i => f_slices_Index_int.l1 k m xs x (xs.length : Int) (i : Int)) (xs.findIdx (fun y => x == y)) _ (fun m i hi => ?_) (fun m => ?_) k (by omega)
  · have hl : i < xs.length := by omega
    have hn := fi_not hi hl
    simp only [f_slices_Index_int.l1, f_slices_Index_int.b1]
    rw [if_pos (by (first | omega | (dsimp only [Ty.T]; omega) | (simp only [decide_eq_true_eq, decide_eq_false_iff_not, Bool.not_eq_true, Ty.T]; omega) | (simp only [decide_eq_true_eq, decide_eq_false_iff_not, Ty.T]; omega) | (simp only [beq_iff_eq, bne_iff_ne, ne_eq, decide_eq_true_eq, Ty.T]; omega))), if_pos (by omega), if_pos (by omega), att_n (e := .int .i64) xs i hl, if_neg (by rw [Bool.not_eq_true]; exact hn), wsucc2 i (by omega)]
  · simp only [f_slices_Index_int.l1, f_slices_Index_int.b1]
    by_cases hl : xs.findIdx (fun y => x == y) < xs.length
    · have hy := List.findIdx_getElem (w := hl)
      rw [if_pos (by (first | omega | (dsimp only [Ty.T]; omega) | (simp only [decide_eq_true_eq, decide_eq_false_iff_not, Bool.not_eq_true, Ty.T]; omega) | (simp only [decide_eq_true_eq, decide_eq_false_iff_not, Ty.T]; omega) | (simp only [beq_iff_eq, bne_iff_ne, ne_eq, decide_eq_true_eq, Ty.T]; omega))), if_pos (by omega), if_pos (by omega), att_n (e := .int .i64) xs _ hl, if_pos hy, if_pos hl]
    · rw [if_neg (by (first | omega | (dsimp only [Ty.T]; omega) | (simp only [decide_eq_true_eq, decide_eq_false_iff_not, Bool.not_eq_true, Ty.T]; omega) | (simp only [decide_eq_true_eq, decide_eq_false_iff_not, Ty.T]; omega) | (simp only [beq_iff_eq, bne_iff_ne, ne_eq, decide_eq_true_eq, Ty.T]; omega))), if_neg hl]
theorem contains_g (k : Nat) (xs : List Int) (x : Int) (h : xs.length < k) (h2 : xs.length ≤ 9223372036854775807) : f_slices_Contains_int.f k xs x = some (xs.any (fun y => x == y), ()) := by
  unfold f_slices_Contains_int.f
  rw [index_g k xs x h h2, Option.bind_some]
  have key : decide ((if xs.findIdx (fun y => x == y) < xs.length then ((xs.findIdx (fun y => x == y) : Nat) : Int) else -1) ≥ 0) = xs.any (fun y => x == y) := by
    rw [Bool.eq_iff_iff, decide_eq_true_eq, List.any_eq_true]
    by_cases hl : xs.findIdx (fun y => x == y) < xs.length
    · rw [if_pos hl]
      exact ⟨fun _ => ⟨_, List.getElem_mem hl, List.findIdx_getElem (w := hl)⟩, fun _ => by omega⟩
    · rw [if_neg hl]
      exact ⟨fun k => absurd k (by decide), fun ⟨y, h1, h2⟩ => absurd (List.findIdx_lt_length_of_exists ⟨y, h1, h2⟩) hl⟩
  exact congrArg (fun b => some (b, ())) key
theorem contains_eq (xs : List Int) (x : Int) (h : xs.length < 1000) : f_slices_Contains_int.f 1000 xs x = some (xs.any (fun y => x == y), ()) := contains_g 1000 xs x h (by omega)
theorem two_any (ph : Int) : [1, 2, 3].any (fun y => ph == y) = two ph := by
  unfold two
  simp only [List.any_cons, List.any_nil, Bool.or_false, Bool.or_assoc]
theorem clone_g48 (k : Nat) (xs : List Rl) (h : xs.length * 48 ≤ 140737488355328) : f_slices_Clone_Rule.f k xs = some (xs, ()) := by
  unfold f_slices_Clone_Rule.f
  rw [if_pos (by omega), if_pos (Or.inl rfl)]; rfl
theorem conf_g (k : Nat) (x : List (List Rl)) (sw : Int) (h : ∀ l ∈ x, l.length * 48 ≤ 140737488355328) : f_conf_At.f k x sw = some (rulesAt x sw, ()) := by
  unfold f_conf_At.f f_conf_At.j1 rulesAt
  by_cases h0 : sw < 0
  · rw [decide_eq_true h0, if_pos rfl, if_pos rfl, if_neg (by omega)]
  · rw [decide_eq_false h0, if_neg Bool.false_ne_true]
    by_cases h1 : sw < (x.length : Int)
    · obtain ⟨i, rfl⟩ : ∃ i : Nat, sw = (i : Int) := ⟨sw.toNat, by omega⟩
      have hi : i < x.length := by omega
      rw [decide_eq_false (by omega), if_neg Bool.false_ne_true, if_pos (by omega), if_pos h1, if_pos (by omega), att_n (e := .slice T1383) x i hi, clone_g48 k _ (h _ (List.getElem_mem hi))]
      rfl
    · rw [decide_eq_true (by omega), if_pos rfl, if_neg (by omega)]
theorem conf_at (k : Nat) (x : List (List Rl)) (sw : Int) (h : ∀ l ∈ x, l.length < 1000000) : f_conf_At.f k x sw = some (rulesAt x sw, ()) := conf_g k x sw fun l hl => by have := h l hl; omega
theorem rules_len (x : List (List Rl)) (sw : Int) (B : Nat) (h : ∀ l ∈ x, l.length ≤ B) : (rulesAt x sw).length ≤ B := by
  unfold rulesAt
  split
  · rename_i hs
    obtain ⟨i, rfl⟩ : ∃ i : Nat, sw = (i : Int) := ⟨sw.toNat, by omega⟩
    have hi : i < x.length := by omega
    rw [att_n (e := .slice T1383) x i hi]
    exact h _ (List.getElem_mem hi)
  · exact Nat.zero_le _
structure FewC (cs : List (List (List Rl))) (peers : List T23b6.T) (queue done undone : List Int) (given : List T713d.T) : Prop where
  c : cs.length ≤ 12
  p : peers.length ≤ 12
  q : queue.length ≤ 100
  g : given.length ≤ 100
  d : done.length ≤ 100
  u : undone.length ≤ 100
  r : ∀ x ∈ cs, x.length ≤ 10 ∧ ∀ l ∈ x, l.length ≤ 60
  o : ∀ y ∈ peers, y.2.2.2.2.length ≤ 100
abbrev FewOf (c : Ct) : Prop := FewC c.1 c.2.2.2.2.2.2.2.2.1 c.2.2.2.2.2.2.2.1 c.2.2.2.2.2.2.2.2.2.2.1 c.2.2.2.2.2.2.2.2.2.2.2.1 c.2.2.2.2.2.2.2.2.2.1
theorem few12 (x : List (List Rl)) : ∃ b, f_law12_Few.f 1000 x = some (b, ()) ∧ (b = true → x.length ≤ 10 ∧ ∀ l ∈ x, l.length ≤ 60) := by
  unfold f_law12_Few.f
  by_cases h : (x.length : Int) > 10
  · rw [decide_eq_true h, if_pos rfl]
    exact ⟨false, rfl, fun k => absurd k (by decide)⟩
  · rw [decide_eq_false h, if_neg Bool.false_ne_true]
    rcases loop_or (fun m i => f_law12_Few.l1 1000 m x (i : Int)) x.length (fun i => ∀ hi : i < x.length, x[i].length ≤ 60) (some (true, ())) (some (false, ())) (fun m i hi => by
        simp only [f_law12_Few.l1, f_law12_Few.b1]
        rw [if_pos (by (first | omega | (dsimp only [Ty.T]; omega) | (simp only [decide_eq_true_eq, decide_eq_false_iff_not, Bool.not_eq_true, Ty.T]; omega) | (simp only [decide_eq_true_eq, decide_eq_false_iff_not, Ty.T]; omega) | (simp only [beq_iff_eq, bne_iff_ne, ne_eq, decide_eq_true_eq, Ty.T]; omega))), if_pos (by omega), if_pos (by omega), att_n (e := .slice T1383) x i hi, wsucc i (by omega)]
        by_cases hc : (x[i].length : Int) > 60
        · right
          exact if_pos (decide_eq_true hc)
        · left
          exact ⟨fun _ => by omega, if_neg (by simpa using hc)⟩) (fun _ m => by
        simp only [f_law12_Few.l1, f_law12_Few.b1]
        rw [if_neg (by (first | omega | (dsimp only [Ty.T]; omega) | (simp only [decide_eq_true_eq, decide_eq_false_iff_not, Bool.not_eq_true, Ty.T]; omega) | (simp only [decide_eq_true_eq, decide_eq_false_iff_not, Ty.T]; omega) | (simp only [beq_iff_eq, bne_iff_ne, ne_eq, decide_eq_true_eq, Ty.T]; omega)))]) 1000 (by omega) with h | h
    · refine ⟨true, h.2, fun _ => ⟨by omega, fun l hl => ?_⟩⟩
      obtain ⟨i, hi, rfl⟩ := List.getElem_of_mem hl
      exact h.1 i hi hi
    · exact ⟨false, h, fun k => absurd k (by decide)⟩
theorem fewC (c : Ct) : ∃ b, f_law21_Few.f 1000 c = some (b, ()) ∧ (b = true → FewOf c) := by
  obtain ⟨cs, live, next, tag, new, ph, timer, queue, peers, given, done, undone, junk⟩ := c
  have nope : ∃ b, (some (false, ()) : Option f_law21_Few.R) = some (b, ()) ∧ (b = true → FewOf (cs, live, next, tag, new, ph, timer, queue, peers, given, done, undone, junk)) := ⟨false, rfl, fun k => absurd k (by decide)⟩
  unfold f_law21_Few.f f_law21_Few.j1
  dsimp only
  by_cases h1 : (cs.length : Int) > 12
  · rw [decide_eq_true h1, if_pos rfl, if_pos rfl]; exact nope
  rw [decide_eq_false h1, if_neg Bool.false_ne_true]
  by_cases h2 : (peers.length : Int) > 12
  · rw [decide_eq_true h2, if_pos rfl, if_pos rfl]; exact nope
  rw [decide_eq_false h2, if_neg Bool.false_ne_true]
  by_cases h3 : (queue.length : Int) > 100
  · rw [decide_eq_true h3, if_pos rfl, if_pos rfl]; exact nope
  rw [decide_eq_false h3, if_neg Bool.false_ne_true]
  by_cases h4 : (given.length : Int) > 100
  · rw [decide_eq_true h4, if_pos rfl, if_pos rfl]; exact nope
  rw [decide_eq_false h4, if_neg Bool.false_ne_true]
  by_cases h5 : (done.length : Int) > 100
  · rw [decide_eq_true h5, if_pos rfl, if_pos rfl]; exact nope
  rw [decide_eq_false h5, if_neg Bool.false_ne_true]
  by_cases h6 : (undone.length : Int) > 100
  · rw [decide_eq_true h6, if_pos rfl]; exact nope
  rw [decide_eq_false h6, if_neg Bool.false_ne_true]
  generalize hC : ((cs, live, next, tag, new, ph, timer, queue, peers, given, done, undone, junk) : Ct) = C at *
  have e1 : C.1 = cs := by rw [← hC]
  have e2 : C.2.2.2.2.2.2.2.2.1 = peers := by rw [← hC]
  have inner : (∀ i (hi : i < cs.length), cs[i].length ≤ 10 ∧ ∀ l ∈ cs[i], l.length ≤ 60) → ∃ b, f_law21_Few.l3 C 1000 1000 0 = some (b, ()) ∧ (b = true → FewOf C) := by
    intro hr
    rcases loop_or (fun m i => f_law21_Few.l3 C 1000 m (i : Int)) peers.length (fun i => ∀ hi : i < peers.length, peers[i].2.2.2.2.length ≤ 100) (some (true, ())) (some (false, ())) (fun m i hi => by
        simp only [f_law21_Few.l3, f_law21_Few.b3]
        rw [e2, if_pos (by (first | omega | (dsimp only [Ty.T]; omega) | (simp only [decide_eq_true_eq, decide_eq_false_iff_not, Bool.not_eq_true, Ty.T]; omega) | (simp only [decide_eq_true_eq, decide_eq_false_iff_not, Ty.T]; omega) | (simp only [beq_iff_eq, bne_iff_ne, ne_eq, decide_eq_true_eq, Ty.T]; omega))), if_pos (by omega), if_pos (by omega), att_n (e := T23b6) peers i hi, wsucc i (by omega)]
        by_cases hc : (peers[i].2.2.2.2.length : Int) > 100
        · right
          exact if_pos (decide_eq_true hc)
        · left
          exact ⟨fun _ => by omega, if_neg (by simpa using hc)⟩) (fun _ m => by
        simp only [f_law21_Few.l3, f_law21_Few.b3]
        rw [e2, if_neg (by (first | omega | (dsimp only [Ty.T]; omega) | (simp only [decide_eq_true_eq, decide_eq_false_iff_not, Bool.not_eq_true, Ty.T]; omega) | (simp only [decide_eq_true_eq, decide_eq_false_iff_not, Ty.T]; omega) | (simp only [beq_iff_eq, bne_iff_ne, ne_eq, decide_eq_true_eq, Ty.T]; omega)))]) 1000 (by omega) with h | h
    · refine ⟨true, h.2, fun _ => ?_⟩
      rw [← hC]
      exact ⟨by dsimp only; omega, by dsimp only; omega, by dsimp only; omega, by dsimp only; omega, by dsimp only; omega, by dsimp only; omega, fun x hx => by
        obtain ⟨i, hi, rfl⟩ := List.getElem_of_mem hx
        exact hr i hi, fun y hy => by
        obtain ⟨i, hi, rfl⟩ := List.getElem_of_mem hy
        exact h.1 i hi hi⟩
    · exact ⟨false, h, fun k => absurd k (by decide)⟩
  rcases loop_or (fun m i => f_law21_Few.l2 C 1000 m (i : Int)) cs.length (fun i => ∀ hi : i < cs.length, cs[i].length ≤ 10 ∧ ∀ l ∈ cs[i], l.length ≤ 60) (f_law21_Few.l3 C 1000 1000 0) (some (false, ())) (fun m i hi => by
      simp only [f_law21_Few.l2, f_law21_Few.b2]
      rw [e1, if_pos (by (first | omega | (dsimp only [Ty.T]; omega) | (simp only [decide_eq_true_eq, decide_eq_false_iff_not, Bool.not_eq_true, Ty.T]; omega) | (simp only [decide_eq_true_eq, decide_eq_false_iff_not, Ty.T]; omega) | (simp only [beq_iff_eq, bne_iff_ne, ne_eq, decide_eq_true_eq, Ty.T]; omega))), if_pos (by omega), if_pos (by omega), att_n (e := .slice (.slice T1383)) cs i hi, wsucc i (by omega)]
      obtain ⟨b, hb, hb2⟩ := few12 cs[i]
      rw [hb, Option.bind_some]
      cases b with
      | false => right; rfl
      | true => left; exact ⟨fun _ => hb2 rfl, rfl⟩) (fun _ m => by
      simp only [f_law21_Few.l2, f_law21_Few.b2]
      rw [e1, if_neg (by (first | omega | (dsimp only [Ty.T]; omega) | (simp only [decide_eq_true_eq, decide_eq_false_iff_not, Bool.not_eq_true, Ty.T]; omega) | (simp only [decide_eq_true_eq, decide_eq_false_iff_not, Ty.T]; omega) | (simp only [beq_iff_eq, bne_iff_ne, ne_eq, decide_eq_true_eq, Ty.T]; omega)))]) 1000 (by omega) with h | h
  · obtain ⟨b, hb, hb2⟩ := inner fun i hi => h.1 i hi hi
    exact ⟨b, h.2.trans hb, hb2⟩
  · exact ⟨false, h, fun k => absurd k (by decide)⟩
theorem clone_m (k : Nat) (xs : List T4414.T) (h : xs.length < 1000000) : f_slices_Clone_Msg.f k xs = some (xs, ()) := by
  unfold f_slices_Clone_Msg.f
  rw [if_pos (by omega), if_pos (Or.inl rfl)]; rfl
theorem att_mem {e : Ty} (xs : List e.T) {i : Int} (h0 : 0 ≤ i) (h1 : i < (xs.length : Int)) : att e xs i ∈ xs := by
  obtain ⟨j, rfl⟩ : ∃ j : Nat, i = (j : Int) := ⟨i.toNat, by omega⟩
  rw [att_n xs j (by omega)]
  exact List.getElem_mem _
theorem lvs_len (cs : List (List (List Rl))) (live next tag new ph sw : Int) : (lvs cs live next tag new ph sw).length ≤ 2 := by
  unfold lvs
  split
  · split <;> simp
  · simp
theorem lvs_each {cs : List (List (List Rl))} {live next ph : Int} (hr : ∀ x ∈ cs, ∀ l ∈ x, l.length ≤ 60) (h0 : 0 ≤ live) (h1 : live < (cs.length : Int)) (h2 : two ph = true → 0 ≤ next ∧ next < (cs.length : Int)) (tag new sw : Int) : ∀ v ∈ lvs cs live next tag new ph sw, v.2.length ≤ 60 := by
  have a1 : (rulesAt (att (.slice (.slice T1383)) cs live) sw).length ≤ 60 := rules_len _ _ _ (hr _ (att_mem (e := .slice (.slice T1383)) cs h0 h1))
  intro v hv
  unfold lvs at hv
  split at hv
  · rename_i ht
    have a2 : (rulesAt (att (.slice (.slice T1383)) cs next) sw).length ≤ 60 := rules_len _ _ _ (hr _ (att_mem (e := .slice (.slice T1383)) cs (h2 ht).1 (h2 ht).2))
    split at hv
    · rcases List.mem_cons.1 hv with rfl | hv
      · exact a2
      · rw [List.mem_singleton.1 hv]; exact a1
    · rcases List.mem_cons.1 hv with rfl | hv
      · exact a1
      · rw [List.mem_singleton.1 hv]; exact a2
  · rw [List.mem_singleton.1 hv]; exact a1
theorem push_any (S : Ss) (m : Mg) (h : S.2.2.length < 1000000) : ∃ S' e, f_sess_Push.f 1000 S m = some (S', (e, ())) ∧ S'.2.2.length ≤ S.2.2.length + 1 := by
  unfold f_sess_Push.f
  rw [own_s 1000 _ _ _ _ _ h, Option.bind_some]
  dsimp only
  by_cases h1 : S.2.1 > (1048576 : Int)
  · rw [if_pos (decide_eq_true h1)]
    exact ⟨_, _, rfl, by dsimp only; omega⟩
  · rw [if_neg (by rw [decide_eq_false h1]; exact Bool.false_ne_true), if_pos (by omega)]
    exact ⟨_, _, rfl, by simp⟩
def busyP (y : T23b6.T) : Bool := decide (y.1 ≤ (0 : Int)) || decide ((y.2.2.2.2.length : Int) > (0 : Int))
def badP (n : Int) (y : T23b6.T) : Bool := y.2.1 == n
theorem qi_control_controller_two_0d3 (x1 : T26b3.T) (x2 : T26b3.T) : i_control_controller_two_0d3.f 1000 x1 x2 = some (two x2.2.2.2.2.2.1, ()) := by
  unfold i_control_controller_two_0d3.f
  rw [contains_eq [1, 2, 3] x2.2.2.2.2.2.1 (by decide), Option.bind_some]
  exact congrArg (fun b => some (b, ())) (two_any x2.2.2.2.2.2.1)
theorem qi_control_controller_is_1_91e (x1 : Int) (x2 : T26b3.T) (x3 : T26b3.T) : i_control_controller_is_1_91e.f 1000 x1 x2 x3 = some (!inR x3.1.length x1, ()) := by
  unfold i_control_controller_is_1_91e.f inR
  by_cases h0 : x1 < 0
  · rw [decide_eq_true h0, if_pos rfl, decide_eq_false (by omega)]; rfl
  · rw [decide_eq_false h0, if_neg Bool.false_ne_true]
    by_cases h1 : x1 < (x3.1.length : Int)
    · rw [decide_eq_false (by omega), decide_eq_true (by omega)]; rfl
    · rw [decide_eq_true (by omega), decide_eq_false (by omega)]; rfl
theorem qi_slices_ContainsFunc_int_da8 (x1 : List Int) (x2 : T26b3.T) (x3 : T26b3.T) (h : x1.length < 1000) : i_slices_ContainsFunc_int_da8.f 1000 x1 x2 x3 = some (x1.any (fun q => !inR x3.1.length q), ()) := by
  unfold i_slices_ContainsFunc_int_da8.f i_slices_IndexFunc_int_da8.f
  have hle : x1.findIdx (fun q => !inR x3.1.length q) ≤ x1.length := List.findIdx_le_length
  refine loop (fun m i => (i_slices_IndexFunc_int_da8.l1 x1 x2 x3 1000 m (x1.length : Int) (i : Int)).bind fun y1 => some (decide (y1.1 ≥ (0 : Int)), ())) (x1.findIdx (fun q => !inR x3.1.length q)) _ (fun m i hi => ?_) (fun m => ?_) 1000 (by omega)
  · have hl : i < x1.length := by omega
    have hn := fi_not hi hl
    simp only [i_slices_IndexFunc_int_da8.l1, i_slices_IndexFunc_int_da8.b1]
    rw [if_pos (by (first | omega | (dsimp only [Ty.T]; omega) | (simp only [decide_eq_true_eq, decide_eq_false_iff_not, Bool.not_eq_true, Ty.T]; omega) | (simp only [decide_eq_true_eq, decide_eq_false_iff_not, Ty.T]; omega) | (simp only [beq_iff_eq, bne_iff_ne, ne_eq, decide_eq_true_eq, Ty.T]; omega))), if_pos (by omega), if_pos (by omega), att_n (e := .int .i64) x1 i hl, qi_control_controller_is_1_91e, Option.bind_some, if_neg (by rw [Bool.not_eq_true]; exact hn), wsucc i (by omega)]
  · simp only [i_slices_IndexFunc_int_da8.l1, i_slices_IndexFunc_int_da8.b1]
    by_cases hl : x1.findIdx (fun q => !inR x3.1.length q) < x1.length
    · have hy := List.findIdx_getElem (w := hl)
      rw [if_pos (by (first | omega | (dsimp only [Ty.T]; omega) | (simp only [decide_eq_true_eq, decide_eq_false_iff_not, Bool.not_eq_true, Ty.T]; omega) | (simp only [decide_eq_true_eq, decide_eq_false_iff_not, Ty.T]; omega) | (simp only [beq_iff_eq, bne_iff_ne, ne_eq, decide_eq_true_eq, Ty.T]; omega))), if_pos (by omega), if_pos (by omega), att_n (e := .int .i64) x1 _ hl, qi_control_controller_is_1_91e, Option.bind_some, if_pos hy, Option.bind_some, decide_eq_true (by omega)]
      exact congrArg (fun b => some (b, ())) (List.any_eq_true.2 ⟨_, List.getElem_mem hl, hy⟩).symm
    · rw [if_neg (by (first | omega | (dsimp only [Ty.T]; omega) | (simp only [decide_eq_true_eq, decide_eq_false_iff_not, Bool.not_eq_true, Ty.T]; omega) | (simp only [decide_eq_true_eq, decide_eq_false_iff_not, Ty.T]; omega) | (simp only [beq_iff_eq, bne_iff_ne, ne_eq, decide_eq_true_eq, Ty.T]; omega))), Option.bind_some, decide_eq_false (by decide)]
      refine congrArg (fun b => some (b, ())) (Eq.symm ?_)
      rw [Bool.eq_false_iff]
      intro hc
      obtain ⟨y, h1, h2⟩ := List.any_eq_true.1 hc
      exact absurd (List.findIdx_lt_length_of_exists ⟨y, h1, h2⟩) hl
theorem qi_control_controller_is_023 (x1 : T26b3.T) (x2 : T26b3.T) (h : x2.2.2.2.2.2.2.2.1.length < 1000) : i_control_controller_is_023.f 1000 x1 x2 = some (isB x2.1.length x2.2.1 x2.2.2.1 x2.2.2.2.2.2.1 x2.2.2.2.2.2.2.2.1 x2.2.2.2.2.2.2.2.2.1.length, ()) := by
  unfold i_control_controller_is_023.f
  have j : ∀ p, i_control_controller_is_023.j1 x1 x2 1000 p = some (p && (inR x2.1.length x2.2.1 && (!x2.2.2.2.2.2.2.2.1.any (fun q => !inR x2.1.length q) && decide ((x2.2.2.2.2.2.2.2.2.1.length : Int) ≤ 100))), ()) := by
    intro p
    unfold i_control_controller_is_023.j1
    cases p
    · rfl
    rw [if_pos rfl, qi_control_controller_is_1_91e, Option.bind_some, qi_slices_ContainsFunc_int_da8 (h := h)]
    cases inR x2.1.length x2.2.1
    · rfl
    cases x2.2.2.2.2.2.2.2.1.any (fun q => !inR x2.1.length q)
    · rfl
    · rfl
  simp only [j, qi_control_controller_is_1_91e, qi_control_controller_two_0d3, Option.bind_some]
  unfold isB
  cases x2.2.2.1 == -1
  · rw [if_neg Bool.false_ne_true]
    cases inR x2.1.length x2.2.2.1 <;> rfl
  · rw [if_pos rfl]
    cases two x2.2.2.2.2.2.1 <;> cases inR x2.1.length x2.2.2.1 <;> rfl
theorem qi_control_controller_two_ad0 (x1 : T26b3.T) (x2 : Int) (x3 : Int) (x4 : Int) (x5 : Int) (x6 : Int) (x7 : Int) (x8 : Int) (x9 : Int) (x10 : Int) (x11 : Int) (x12 : Int) (x13 : Int) (x14 : Int) (x15 : Int) (x16 : List (List (List T1383.T))) (x17 : List Int) (x18 : List T23b6.T) (x19 : List T713d.T) (x20 : List Int) (x21 : List Int) : i_control_controller_two_ad0.f 1000 x1 x2 x3 x4 x5 x6 x7 x8 x9 x10 x11 x12 x13 x14 x15 x16 x17 x18 x19 x20 x21 = some (two x13, ()) := by
  unfold i_control_controller_two_ad0.f
  rw [contains_eq [1, 2, 3] x13 (by decide), Option.bind_some]
  exact congrArg (fun b => some (b, ())) (two_any x13)
theorem qi_control_controller_is_1_db3 (x1 : Int) (x2 : T26b3.T) (x3 : Int) (x4 : Int) (x5 : Int) (x6 : Int) (x7 : Int) (x8 : Int) (x9 : Int) (x10 : Int) (x11 : Int) (x12 : Int) (x13 : Int) (x14 : Int) (x15 : Int) (x16 : Int) (x17 : List (List (List T1383.T))) (x18 : List Int) (x19 : List T23b6.T) (x20 : List T713d.T) (x21 : List Int) (x22 : List Int) : i_control_controller_is_1_db3.f 1000 x1 x2 x3 x4 x5 x6 x7 x8 x9 x10 x11 x12 x13 x14 x15 x16 x17 x18 x19 x20 x21 x22 = some (!inR x17.length x1, ()) := by
  unfold i_control_controller_is_1_db3.f inR
  by_cases h0 : x1 < 0
  · rw [decide_eq_true h0, if_pos rfl, decide_eq_false (by omega)]; rfl
  · rw [decide_eq_false h0, if_neg Bool.false_ne_true]
    by_cases h1 : x1 < (x17.length : Int)
    · rw [decide_eq_false (by omega), decide_eq_true (by omega)]; rfl
    · rw [decide_eq_true (by omega), decide_eq_false (by omega)]; rfl
theorem qi_slices_ContainsFunc_int_336 (x1 : T26b3.T) (x2 : Int) (x3 : Int) (x4 : Int) (x5 : Int) (x6 : Int) (x7 : Int) (x8 : Int) (x9 : Int) (x10 : Int) (x11 : Int) (x12 : Int) (x13 : Int) (x14 : Int) (x15 : Int) (x16 : List (List (List T1383.T))) (x17 : List Int) (x18 : List T23b6.T) (x19 : List T713d.T) (x20 : List Int) (x21 : List Int) (h : x17.length < 1000) : i_slices_ContainsFunc_int_336.f 1000 x1 x2 x3 x4 x5 x6 x7 x8 x9 x10 x11 x12 x13 x14 x15 x16 x17 x18 x19 x20 x21 = some (x17.any (fun q => !inR x16.length q), ()) := by
  unfold i_slices_ContainsFunc_int_336.f i_slices_IndexFunc_int_336.f
  have hle : x17.findIdx (fun q => !inR x16.length q) ≤ x17.length := List.findIdx_le_length
  refine loop (fun m i => (i_slices_IndexFunc_int_336.l1 x1 x2 x3 x4 x5 x6 x7 x8 x9 x10 x11 x12 x13 x14 x15 x16 x17 x18 x19 x20 x21 1000 m (x17.length : Int) (i : Int)).bind fun y1 => some (decide (y1.1 ≥ (0 : Int)), ())) (x17.findIdx (fun q => !inR x16.length q)) _ (fun m i hi => ?_) (fun m => ?_) 1000 (by omega)
  · have hl : i < x17.length := by omega
    have hn := fi_not hi hl
    simp only [i_slices_IndexFunc_int_336.l1, i_slices_IndexFunc_int_336.b1]
    rw [if_pos (by (first | omega | (dsimp only [Ty.T]; omega) | (simp only [decide_eq_true_eq, decide_eq_false_iff_not, Bool.not_eq_true, Ty.T]; omega) | (simp only [decide_eq_true_eq, decide_eq_false_iff_not, Ty.T]; omega) | (simp only [beq_iff_eq, bne_iff_ne, ne_eq, decide_eq_true_eq, Ty.T]; omega))), if_pos (by omega), if_pos (by omega), att_n (e := .int .i64) x17 i hl, qi_control_controller_is_1_db3, Option.bind_some, if_neg (by rw [Bool.not_eq_true]; exact hn), wsucc i (by omega)]
  · simp only [i_slices_IndexFunc_int_336.l1, i_slices_IndexFunc_int_336.b1]
    by_cases hl : x17.findIdx (fun q => !inR x16.length q) < x17.length
    · have hy := List.findIdx_getElem (w := hl)
      rw [if_pos (by (first | omega | (dsimp only [Ty.T]; omega) | (simp only [decide_eq_true_eq, decide_eq_false_iff_not, Bool.not_eq_true, Ty.T]; omega) | (simp only [decide_eq_true_eq, decide_eq_false_iff_not, Ty.T]; omega) | (simp only [beq_iff_eq, bne_iff_ne, ne_eq, decide_eq_true_eq, Ty.T]; omega))), if_pos (by omega), if_pos (by omega), att_n (e := .int .i64) x17 _ hl, qi_control_controller_is_1_db3, Option.bind_some, if_pos hy, Option.bind_some, decide_eq_true (by omega)]
      exact congrArg (fun b => some (b, ())) (List.any_eq_true.2 ⟨_, List.getElem_mem hl, hy⟩).symm
    · rw [if_neg (by (first | omega | (dsimp only [Ty.T]; omega) | (simp only [decide_eq_true_eq, decide_eq_false_iff_not, Bool.not_eq_true, Ty.T]; omega) | (simp only [decide_eq_true_eq, decide_eq_false_iff_not, Ty.T]; omega) | (simp only [beq_iff_eq, bne_iff_ne, ne_eq, decide_eq_true_eq, Ty.T]; omega))), Option.bind_some, decide_eq_false (by decide)]
      refine congrArg (fun b => some (b, ())) (Eq.symm ?_)
      rw [Bool.eq_false_iff]
      intro hc
      obtain ⟨y, h1, h2⟩ := List.any_eq_true.1 hc
      exact absurd (List.findIdx_lt_length_of_exists ⟨y, h1, h2⟩) hl
theorem qi_control_controller_is_d8b (x1 : T26b3.T) (x2 : Int) (x3 : Int) (x4 : Int) (x5 : Int) (x6 : Int) (x7 : Int) (x8 : Int) (x9 : Int) (x10 : Int) (x11 : Int) (x12 : Int) (x13 : Int) (x14 : Int) (x15 : Int) (x16 : List (List (List T1383.T))) (x17 : List Int) (x18 : List T23b6.T) (x19 : List T713d.T) (x20 : List Int) (x21 : List Int) (h : x17.length < 1000) : i_control_controller_is_d8b.f 1000 x1 x2 x3 x4 x5 x6 x7 x8 x9 x10 x11 x12 x13 x14 x15 x16 x17 x18 x19 x20 x21 = some (isB x16.length x9 x10 x13 x17 x18.length, ()) := by
  unfold i_control_controller_is_d8b.f
  have j : ∀ p, i_control_controller_is_d8b.j1 x1 x2 x3 x4 x5 x6 x7 x8 x9 x10 x11 x12 x13 x14 x15 x16 x17 x18 x19 x20 x21 1000 p = some (p && (inR x16.length x9 && (!x17.any (fun q => !inR x16.length q) && decide ((x18.length : Int) ≤ 100))), ()) := by
    intro p
    unfold i_control_controller_is_d8b.j1
    cases p
    · rfl
    rw [if_pos rfl, qi_control_controller_is_1_db3, Option.bind_some, qi_slices_ContainsFunc_int_336 (h := h)]
    cases inR x16.length x9
    · rfl
    cases x17.any (fun q => !inR x16.length q)
    · rfl
    · rfl
  simp only [j, qi_control_controller_is_1_db3, qi_control_controller_two_ad0, Option.bind_some]
  unfold isB
  cases x10 == -1
  · rw [if_neg Bool.false_ne_true]
    cases inR x16.length x10 <;> rfl
  · rw [if_pos rfl]
    cases two x13 <;> cases inR x16.length x10 <;> rfl
theorem qi_control_controller_two_e61 (x1 : T26b3.T) : i_control_controller_two_e61.f 1000 x1 = some (two x1.2.2.2.2.2.1, ()) := by
  unfold i_control_controller_two_e61.f
  rw [contains_eq [1, 2, 3] x1.2.2.2.2.2.1 (by decide), Option.bind_some]
  exact congrArg (fun b => some (b, ())) (two_any x1.2.2.2.2.2.1)
theorem qi_control_controller_is_1_797 (x1 : Int) (x2 : T26b3.T) : i_control_controller_is_1_797.f 1000 x1 x2 = some (!inR x2.1.length x1, ()) := by
  unfold i_control_controller_is_1_797.f inR
  by_cases h0 : x1 < 0
  · rw [decide_eq_true h0, if_pos rfl, decide_eq_false (by omega)]; rfl
  · rw [decide_eq_false h0, if_neg Bool.false_ne_true]
    by_cases h1 : x1 < (x2.1.length : Int)
    · rw [decide_eq_false (by omega), decide_eq_true (by omega)]; rfl
    · rw [decide_eq_true (by omega), decide_eq_false (by omega)]; rfl
theorem qi_slices_ContainsFunc_int_a51 (x1 : List Int) (x2 : T26b3.T) (h : x1.length < 1000) : i_slices_ContainsFunc_int_a51.f 1000 x1 x2 = some (x1.any (fun q => !inR x2.1.length q), ()) := by
  unfold i_slices_ContainsFunc_int_a51.f i_slices_IndexFunc_int_a51.f
  have hle : x1.findIdx (fun q => !inR x2.1.length q) ≤ x1.length := List.findIdx_le_length
  refine loop (fun m i => (i_slices_IndexFunc_int_a51.l1 x1 x2 1000 m (x1.length : Int) (i : Int)).bind fun y1 => some (decide (y1.1 ≥ (0 : Int)), ())) (x1.findIdx (fun q => !inR x2.1.length q)) _ (fun m i hi => ?_) (fun m => ?_) 1000 (by omega)
  · have hl : i < x1.length := by omega
    have hn := fi_not hi hl
    simp only [i_slices_IndexFunc_int_a51.l1, i_slices_IndexFunc_int_a51.b1]
    rw [if_pos (by (first | omega | (dsimp only [Ty.T]; omega) | (simp only [decide_eq_true_eq, decide_eq_false_iff_not, Bool.not_eq_true, Ty.T]; omega) | (simp only [decide_eq_true_eq, decide_eq_false_iff_not, Ty.T]; omega) | (simp only [beq_iff_eq, bne_iff_ne, ne_eq, decide_eq_true_eq, Ty.T]; omega))), if_pos (by omega), if_pos (by omega), att_n (e := .int .i64) x1 i hl, qi_control_controller_is_1_797, Option.bind_some, if_neg (by rw [Bool.not_eq_true]; exact hn), wsucc i (by omega)]
  · simp only [i_slices_IndexFunc_int_a51.l1, i_slices_IndexFunc_int_a51.b1]
    by_cases hl : x1.findIdx (fun q => !inR x2.1.length q) < x1.length
    · have hy := List.findIdx_getElem (w := hl)
      rw [if_pos (by (first | omega | (dsimp only [Ty.T]; omega) | (simp only [decide_eq_true_eq, decide_eq_false_iff_not, Bool.not_eq_true, Ty.T]; omega) | (simp only [decide_eq_true_eq, decide_eq_false_iff_not, Ty.T]; omega) | (simp only [beq_iff_eq, bne_iff_ne, ne_eq, decide_eq_true_eq, Ty.T]; omega))), if_pos (by omega), if_pos (by omega), att_n (e := .int .i64) x1 _ hl, qi_control_controller_is_1_797, Option.bind_some, if_pos hy, Option.bind_some, decide_eq_true (by omega)]
      exact congrArg (fun b => some (b, ())) (List.any_eq_true.2 ⟨_, List.getElem_mem hl, hy⟩).symm
    · rw [if_neg (by (first | omega | (dsimp only [Ty.T]; omega) | (simp only [decide_eq_true_eq, decide_eq_false_iff_not, Bool.not_eq_true, Ty.T]; omega) | (simp only [decide_eq_true_eq, decide_eq_false_iff_not, Ty.T]; omega) | (simp only [beq_iff_eq, bne_iff_ne, ne_eq, decide_eq_true_eq, Ty.T]; omega))), Option.bind_some, decide_eq_false (by decide)]
      refine congrArg (fun b => some (b, ())) (Eq.symm ?_)
      rw [Bool.eq_false_iff]
      intro hc
      obtain ⟨y, h1, h2⟩ := List.any_eq_true.1 hc
      exact absurd (List.findIdx_lt_length_of_exists ⟨y, h1, h2⟩) hl
theorem qi_control_controller_is_e28 (x1 : T26b3.T) (h : x1.2.2.2.2.2.2.2.1.length < 1000) : i_control_controller_is_e28.f 1000 x1 = some (isB x1.1.length x1.2.1 x1.2.2.1 x1.2.2.2.2.2.1 x1.2.2.2.2.2.2.2.1 x1.2.2.2.2.2.2.2.2.1.length, ()) := by
  unfold i_control_controller_is_e28.f
  have j : ∀ p, i_control_controller_is_e28.j1 x1 1000 p = some (p && (inR x1.1.length x1.2.1 && (!x1.2.2.2.2.2.2.2.1.any (fun q => !inR x1.1.length q) && decide ((x1.2.2.2.2.2.2.2.2.1.length : Int) ≤ 100))), ()) := by
    intro p
    unfold i_control_controller_is_e28.j1
    cases p
    · rfl
    rw [if_pos rfl, qi_control_controller_is_1_797, Option.bind_some, qi_slices_ContainsFunc_int_a51 (h := h)]
    cases inR x1.1.length x1.2.1
    · rfl
    cases x1.2.2.2.2.2.2.2.1.any (fun q => !inR x1.1.length q)
    · rfl
    · rfl
  simp only [j, qi_control_controller_is_1_797, qi_control_controller_two_e61, Option.bind_some]
  unfold isB
  cases x1.2.2.1 == -1
  · rw [if_neg Bool.false_ne_true]
    cases inR x1.1.length x1.2.2.1 <;> rfl
  · rw [if_pos rfl]
    cases two x1.2.2.2.2.2.1 <;> cases inR x1.1.length x1.2.2.1 <;> rfl
theorem qi_control_controller_two_e28 (x1 : T26b3.T) : i_control_controller_two_e28.f 1000 x1 = some (two x1.2.2.2.2.2.1, ()) := by
  unfold i_control_controller_two_e28.f
  rw [contains_eq [1, 2, 3] x1.2.2.2.2.2.1 (by decide), Option.bind_some]
  exact congrArg (fun b => some (b, ())) (two_any x1.2.2.2.2.2.1)
theorem qi_slices_SortStableFunc_Ver_885 (x1 : T26b3.T) (u v : Vr) : i_slices_SortStableFunc_Ver_885.f 1000 x1 [u, v] = some (if v.1 < u.1 then [v, u] else [u, v], ()) := by
  have hc : ∀ (x3 : T26b3.T) (x4 : List T814c.T), i_control_controller_live_1_5ba.f 1000 v u x3 x4 = some (if v.1 < u.1 then -1 else if v.1 > u.1 then 1 else 0, ()) := by
    intros
    unfold i_control_controller_live_1_5ba.f
    by_cases h1 : v.1 < u.1
    · rw [if_pos (decide_eq_true h1), if_pos h1]
    · rw [if_neg (by rw [decide_eq_false h1]; exact Bool.false_ne_true), if_neg h1]
      by_cases h2 : v.1 > u.1
      · rw [if_pos (decide_eq_true h2), if_pos h2]
      · rw [if_neg (by rw [decide_eq_false h2]; exact Bool.false_ne_true), if_neg h2]
  unfold i_slices_SortStableFunc_Ver_885.f i_slices_stableCmpFunc_Ver_2ec.f i_slices_stableCmpFunc_Ver_2ec.l1
  dsimp only
  unfold i_slices_stableCmpFunc_Ver_2ec.b1
  rw [if_neg (by exact Bool.false_ne_true)]
  unfold i_slices_insertionSortCmpFunc_Ver_2e0.f i_slices_insertionSortCmpFunc_Ver_2e0.l1
  dsimp only
  unfold i_slices_insertionSortCmpFunc_Ver_2e0.b1
  rw [if_pos (by exact rfl)]
  unfold i_slices_insertionSortCmpFunc_Ver_2e0.l2
  dsimp only
  unfold i_slices_insertionSortCmpFunc_Ver_2e0.b2
  rw [if_pos (by exact rfl), if_pos (by exact of_decide_eq_true rfl), if_pos (by exact of_decide_eq_true rfl), if_pos (by exact of_decide_eq_true rfl), if_pos (by exact of_decide_eq_true rfl), show att T814c [u, v] (IntKind.i64.wrap (0 + 1)) = v from rfl, show att T814c [u, v] (IntKind.i64.wrap (IntKind.i64.wrap (0 + 1) - 1)) = u from rfl, hc]
  by_cases h1 : v.1 < u.1
  · rw [if_pos h1, if_pos h1]
    show _ = _
    kernel_rfl
  · rw [if_neg h1, if_neg h1]
    by_cases h2 : v.1 > u.1
    · rw [if_pos h2]
      show _ = _
      kernel_rfl
    · rw [if_neg h2]
      show _ = _
      kernel_rfl
theorem qi_control_controller_flips_ebc (x1 : T26b3.T) (x2 : List T814c.T) : i_control_controller_flips_ebc.f 1000 x1 x2 = some (decide (x1.2.2.2.2.2.1 = 2 ∨ x1.2.2.2.2.2.1 = 3), ()) := by
  unfold i_control_controller_flips_ebc.f
  by_cases h2 : x1.2.2.2.2.2.1 = 2
  · rw [if_pos (beq_iff_eq.2 h2), decide_eq_true (.inl h2)]
  · rw [if_neg (by rw [beq_iff_eq]; exact h2)]
    by_cases h3 : x1.2.2.2.2.2.1 = 3
    · rw [beq_iff_eq.2 h3, decide_eq_true (.inr h3)]
    · rw [beq_eq_false_iff_ne.2 h3, decide_eq_false (by intro h; cases h with | inl h => exact h2 h | inr h => exact h3 h)]
theorem qi_control_controller_flips_e28 (x1 : T26b3.T) : i_control_controller_flips_e28.f 1000 x1 = some (decide (x1.2.2.2.2.2.1 = 2 ∨ x1.2.2.2.2.2.1 = 3), ()) := by
  unfold i_control_controller_flips_e28.f
  by_cases h2 : x1.2.2.2.2.2.1 = 2
  · rw [if_pos (beq_iff_eq.2 h2), decide_eq_true (.inl h2)]
  · rw [if_neg (by rw [beq_iff_eq]; exact h2)]
    by_cases h3 : x1.2.2.2.2.2.1 = 3
    · rw [beq_iff_eq.2 h3, decide_eq_true (.inr h3)]
    · rw [beq_eq_false_iff_ne.2 h3, decide_eq_false (by intro h; cases h with | inl h => exact h2 h | inr h => exact h3 h)]
theorem qi_control_controller_live_258 (x1 : Int) (x2 : T26b3.T) (h0 : 0 ≤ x2.2.1) (h1 : x2.2.1 < (x2.1.length : Int)) (h2 : two x2.2.2.2.2.2.1 = true → 0 ≤ x2.2.2.1 ∧ x2.2.2.1 < (x2.1.length : Int)) (hr : ∀ x ∈ x2.1, ∀ l ∈ x, l.length < 1000000) : i_control_controller_live_258.f 1000 x1 x2 = some (lvs x2.1 x2.2.1 x2.2.2.1 x2.2.2.2.1 x2.2.2.2.2.1 x2.2.2.2.2.2.1 x1, (stampOf x2.2.2.2.1 x2.2.2.2.2.1 x2.2.2.2.2.2.1, ())) := by
  unfold i_control_controller_live_258.f lvs stampOf
  rw [if_pos h0, if_pos h1, conf_at 1000 _ _ (hr _ (att_mem _ h0 h1)), Option.bind_some, qi_control_controller_two_e28, Option.bind_some]
  by_cases ht : two x2.2.2.2.2.2.1 = true
  · obtain ⟨h3, h4⟩ := h2 ht
    rw [if_pos ht, if_pos ht, if_pos h3, if_pos h4, conf_at 1000 _ _ (hr _ (att_mem _ h3 h4)), Option.bind_some, qi_slices_SortStableFunc_Ver_885, Option.bind_some]
    unfold i_control_controller_live_258.j2
    rw [qi_control_controller_flips_ebc, Option.bind_some]
    by_cases hf : x2.2.2.2.2.2.1 = 2 ∨ x2.2.2.2.2.2.1 = 3
    · rw [decide_eq_true hf, if_pos hf]; rfl
    · rw [decide_eq_false hf, if_neg hf]; rfl
  · rw [if_neg ht, if_neg ht]
    unfold i_control_controller_live_258.j3
    rw [qi_control_controller_flips_e28, Option.bind_some]
    by_cases hf : x2.2.2.2.2.2.1 = 2 ∨ x2.2.2.2.2.2.1 = 3
    · rw [decide_eq_true hf, if_pos hf]; rfl
    · rw [decide_eq_false hf, if_neg hf]; rfl
theorem qf_slices_Clone_Rule (a1 : List T1383.T) (h : a1.length < 1000000) : f_slices_Clone_Rule.f 1000 a1 = some (a1, ()) := by
  unfold f_slices_Clone_Rule.f
  rw [if_pos (by omega), if_pos (.inl rfl)]
  rfl
theorem qf_slices_Clone_Msg (a1 : List T4414.T) (h : a1.length < 1000000) : f_slices_Clone_Msg.f 1000 a1 = some (a1, ()) := by
  unfold f_slices_Clone_Msg.f
  rw [if_pos (by omega), if_pos (.inl rfl)]
  rfl
theorem qf_slices_Clone_intO (a1 : List Int) (h : a1.length < 1000000) : f_slices_Clone_intO.f 1000 a1 = some (a1, ()) := by
  unfold f_slices_Clone_intO.f
  rw [if_pos (by omega), if_pos (.inl rfl)]
  rfl
theorem qf_slices_Clone_GivenO (a1 : List T713d.T) (h : a1.length < 1000000) : f_slices_Clone_GivenO.f 1000 a1 = some (a1, ()) := by
  unfold f_slices_Clone_GivenO.f
  rw [if_pos (by omega), if_pos (.inl rfl)]
  rfl
theorem qf_slices_Clone_Conf_RuleO (a1 : List (List T1383.T)) (h : a1.length < 1000000) : f_slices_Clone_Conf_RuleO.f 1000 a1 = some (a1, ()) := by
  unfold f_slices_Clone_Conf_RuleO.f
  rw [if_pos (by omega), if_pos (.inl rfl)]
  rfl
theorem qf_slices_Clone_PeerO (a1 : List T23b6.T) (h : a1.length < 1000000) : f_slices_Clone_PeerO.f 1000 a1 = some (a1, ()) := by
  unfold f_slices_Clone_PeerO.f
  rw [if_pos (by omega), if_pos (.inl rfl)]
  rfl
theorem qf_slices_Clone_ConfO (a1 : List (List (List T1383.T))) (h : a1.length < 1000000) : f_slices_Clone_ConfO.f 1000 a1 = some (a1, ()) := by
  unfold f_slices_Clone_ConfO.f
  rw [if_pos (by omega), if_pos (.inl rfl)]
  rfl
theorem qi_control_own_b6am (x1 : T26b3.T) (x2 : T26b3.T) (x3 : Int) (x4 : Int) (x5 : Int) (x6 : Int) (x7 : Int) (x8 : Int) (x9 : Int) (h : FewOf x1) : i_control_own_b6am.f 1000 x1 x2 x3 x4 x5 x6 x7 x8 x9 = some (x1.2.1, (x1.2.2.1, (x1.2.2.2.1, (x1.2.2.2.2.1, (x1.2.2.2.2.2.1, (x1.2.2.2.2.2.2.1, (x1.2.2.2.2.2.2.2.2.2.2.2.2, (x1.1, (x1.2.2.2.2.2.2.2.1, (x1.2.2.2.2.2.2.2.2.1, (x1.2.2.2.2.2.2.2.2.2.1, (x1.2.2.2.2.2.2.2.2.2.2.1, (x1.2.2.2.2.2.2.2.2.2.2.2.1, ()))))))))))))) := by
  have f1 := h.c
  have f2 := h.p
  unfold i_control_own_b6am.f
  rw [qf_slices_Clone_ConfO (h := by omega), Option.bind_some]
  refine loop (fun m i => i_control_own_b6am.l1 x2 x3 x4 x5 x6 x7 x8 x9 1000 m (x1.1.length : Int) (i : Int) x1.2.1 x1.2.2.1 x1.2.2.2.1 x1.2.2.2.2.1 x1.2.2.2.2.2.1 x1.2.2.2.2.2.2.1 x1.2.2.2.2.2.2.2.1 x1.2.2.2.2.2.2.2.2.1 x1.2.2.2.2.2.2.2.2.2.1 x1.2.2.2.2.2.2.2.2.2.2.1 x1.2.2.2.2.2.2.2.2.2.2.2.1 x1.2.2.2.2.2.2.2.2.2.2.2.2 x1.1) x1.1.length _ (fun m i hi => ?_) (fun m => ?_) 1000 (by omega)
  · have hx := h.r _ (List.getElem_mem hi)
    have hx1 : x1.1[i].length ≤ 10 := hx.1
    simp only [i_control_own_b6am.l1, i_control_own_b6am.b1]
    rw [if_pos (by (first | omega | (dsimp only [Ty.T]; omega) | (simp only [decide_eq_true_eq, decide_eq_false_iff_not, Bool.not_eq_true, Ty.T]; omega) | (simp only [decide_eq_true_eq, decide_eq_false_iff_not, Ty.T]; omega) | (simp only [beq_iff_eq, bne_iff_ne, ne_eq, decide_eq_true_eq, Ty.T]; omega))), if_pos (by omega), if_pos (by omega), att_n (e := .slice (.slice T1383)) x1.1 i hi, qf_slices_Clone_Conf_RuleO (h := by omega), Option.bind_some]
    refine loop (fun q j => i_control_own_b6am.l2 x2 x3 x4 x5 x6 x7 x8 x9 (i_control_own_b6am.l1 x2 x3 x4 x5 x6 x7 x8 x9 1000 m) 1000 q (i : Int) (x1.1.length : Int) (i : Int) ((x1.1[i]).length : Int) (j : Int) x1.2.1 x1.2.2.1 x1.2.2.2.1 x1.2.2.2.2.1 x1.2.2.2.2.2.1 x1.2.2.2.2.2.2.1 x1.2.2.2.2.2.2.2.1 x1.2.2.2.2.2.2.2.2.1 x1.2.2.2.2.2.2.2.2.2.1 x1.2.2.2.2.2.2.2.2.2.2.1 x1.2.2.2.2.2.2.2.2.2.2.2.1 x1.2.2.2.2.2.2.2.2.2.2.2.2 x1.1[i] x1.1) (x1.1[i]).length _ (fun q j hj => ?_) (fun q => ?_) 1000 (by omega)
    · have hy := hx.2 _ (List.getElem_mem hj)
      simp only [i_control_own_b6am.l2, i_control_own_b6am.b2]
      rw [if_pos (by (first | omega | (dsimp only [Ty.T]; omega) | (simp only [decide_eq_true_eq, decide_eq_false_iff_not, Bool.not_eq_true, Ty.T]; omega) | (simp only [decide_eq_true_eq, decide_eq_false_iff_not, Ty.T]; omega) | (simp only [beq_iff_eq, bne_iff_ne, ne_eq, decide_eq_true_eq, Ty.T]; omega))), if_pos (by omega), if_pos (by omega), att_n (e := .slice T1383) x1.1[i] j hj, qf_slices_Clone_Rule (h := by omega), Option.bind_some, wsucc j (by omega), Int.toNat_natCast, List.set_getElem_self]
    · simp only [i_control_own_b6am.l2, i_control_own_b6am.b2]
      rw [if_neg (by (first | omega | (dsimp only [Ty.T]; omega) | (simp only [decide_eq_true_eq, decide_eq_false_iff_not, Bool.not_eq_true, Ty.T]; omega) | (simp only [decide_eq_true_eq, decide_eq_false_iff_not, Ty.T]; omega) | (simp only [beq_iff_eq, bne_iff_ne, ne_eq, decide_eq_true_eq, Ty.T]; omega))), if_pos (by omega), if_pos (by omega), wsucc i (by omega), Int.toNat_natCast, List.set_getElem_self]
  · simp only [i_control_own_b6am.l1, i_control_own_b6am.b1]
    rw [if_neg (by (first | omega | (dsimp only [Ty.T]; omega) | (simp only [decide_eq_true_eq, decide_eq_false_iff_not, Bool.not_eq_true, Ty.T]; omega) | (simp only [decide_eq_true_eq, decide_eq_false_iff_not, Ty.T]; omega) | (simp only [beq_iff_eq, bne_iff_ne, ne_eq, decide_eq_true_eq, Ty.T]; omega))), qf_slices_Clone_PeerO (h := by omega), Option.bind_some]
    refine loop (fun m i => i_control_own_b6am.l3 x2 x3 x4 x5 x6 x7 x8 x9 1000 m (x1.2.2.2.2.2.2.2.2.1.length : Int) (i : Int) x1.2.1 x1.2.2.1 x1.2.2.2.1 x1.2.2.2.2.1 x1.2.2.2.2.2.1 x1.2.2.2.2.2.2.1 x1.2.2.2.2.2.2.2.1 x1.2.2.2.2.2.2.2.2.2.1 x1.2.2.2.2.2.2.2.2.2.2.1 x1.2.2.2.2.2.2.2.2.2.2.2.1 x1.2.2.2.2.2.2.2.2.2.2.2.2 x1.1 x1.2.2.2.2.2.2.2.2.1) x1.2.2.2.2.2.2.2.2.1.length _ (fun m i hi => ?_) (fun m => ?_) 1000 (by omega)
    · have hy := h.o _ (List.getElem_mem hi)
      simp only [i_control_own_b6am.l3, i_control_own_b6am.b3]
      rw [if_pos (by (first | omega | (dsimp only [Ty.T]; omega) | (simp only [decide_eq_true_eq, decide_eq_false_iff_not, Bool.not_eq_true, Ty.T]; omega) | (simp only [decide_eq_true_eq, decide_eq_false_iff_not, Ty.T]; omega) | (simp only [beq_iff_eq, bne_iff_ne, ne_eq, decide_eq_true_eq, Ty.T]; omega))), if_pos (by omega), if_pos (by omega), att_n (e := T23b6) x1.2.2.2.2.2.2.2.2.1 i hi, qf_slices_Clone_Msg (h := by omega), Option.bind_some, wsucc i (by omega), Int.toNat_natCast, show x1.2.2.2.2.2.2.2.2.1.set i ((x1.2.2.2.2.2.2.2.2.1[i]).1, ((x1.2.2.2.2.2.2.2.2.1[i]).2.1, ((x1.2.2.2.2.2.2.2.2.1[i]).2.2.1, ((x1.2.2.2.2.2.2.2.2.1[i]).2.2.2.1, (x1.2.2.2.2.2.2.2.2.1[i]).2.2.2.2)))) = x1.2.2.2.2.2.2.2.2.1 from List.set_getElem_self hi]
    · have f3 := h.q
      have f4 := h.g
      have f5 := h.d
      have f6 := h.u
      simp only [i_control_own_b6am.l3, i_control_own_b6am.b3]
      rw [if_neg (by (first | omega | (dsimp only [Ty.T]; omega) | (simp only [decide_eq_true_eq, decide_eq_false_iff_not, Bool.not_eq_true, Ty.T]; omega) | (simp only [decide_eq_true_eq, decide_eq_false_iff_not, Ty.T]; omega) | (simp only [beq_iff_eq, bne_iff_ne, ne_eq, decide_eq_true_eq, Ty.T]; omega))), qf_slices_Clone_intO (h := by omega), Option.bind_some, qf_slices_Clone_GivenO (h := by omega), Option.bind_some, qf_slices_Clone_intO (h := by omega), Option.bind_some, qf_slices_Clone_intO (h := by omega), Option.bind_some]
theorem qi_control_controller_done_1_481 (x1 : T23b6.T) (x2 : T26b3.T) (x3 : Int) (x4 : Int) (x5 : Int) (x6 : Int) (x7 : Int) (x8 : Int) (x9 : Int) (x10 : Int) (x11 : Int) (x12 : Int) (x13 : Int) (x14 : Int) (x15 : Int) (x16 : Int) (x17 : List (List (List T1383.T))) (x18 : List Int) (x19 : List T23b6.T) (x20 : List T713d.T) (x21 : List Int) (x22 : List Int) : i_control_controller_done_1_481.f 1000 x1 x2 x3 x4 x5 x6 x7 x8 x9 x10 x11 x12 x13 x14 x15 x16 x17 x18 x19 x20 x21 x22 = some (busyP x1, ()) := by
  unfold i_control_controller_done_1_481.f busyP
  by_cases h : x1.1 ≤ (0 : Int)
  · rw [if_pos (decide_eq_true h), decide_eq_true h]; rfl
  · rw [if_neg (by rw [decide_eq_false h]; exact Bool.false_ne_true), decide_eq_false h]; rfl
theorem qi_slices_ContainsFunc_Peer_bc5 (x1 : T26b3.T) (x2 : Int) (x3 : Int) (x4 : Int) (x5 : Int) (x6 : Int) (x7 : Int) (x8 : Int) (x9 : Int) (x10 : Int) (x11 : Int) (x12 : Int) (x13 : Int) (x14 : Int) (x15 : Int) (x16 : List (List (List T1383.T))) (x17 : List Int) (x18 : List T23b6.T) (x19 : List T713d.T) (x20 : List Int) (x21 : List Int) (h : x18.length < 1000) : i_slices_ContainsFunc_Peer_bc5.f 1000 x1 x2 x3 x4 x5 x6 x7 x8 x9 x10 x11 x12 x13 x14 x15 x16 x17 x18 x19 x20 x21 = some (x18.any busyP, ()) := by
  unfold i_slices_ContainsFunc_Peer_bc5.f i_slices_IndexFunc_Peer_bc5.f
  have hle : x18.findIdx busyP ≤ x18.length := List.findIdx_le_length
  refine loop (fun m i => (i_slices_IndexFunc_Peer_bc5.l1 x1 x2 x3 x4 x5 x6 x7 x8 x9 x10 x11 x12 x13 x14 x15 x16 x17 x18 x19 x20 x21 1000 m (x18.length : Int) (i : Int)).bind fun y1 => some (decide (y1.1 ≥ (0 : Int)), ())) (x18.findIdx busyP) _ (fun m i hi => ?_) (fun m => ?_) 1000 (by omega)
  · have hl : i < x18.length := by omega
    have hn := fi_not hi hl
    simp only [i_slices_IndexFunc_Peer_bc5.l1, i_slices_IndexFunc_Peer_bc5.b1]
    rw [if_pos (by (first | omega | (dsimp only [Ty.T]; omega) | (simp only [decide_eq_true_eq, decide_eq_false_iff_not, Bool.not_eq_true, Ty.T]; omega) | (simp only [decide_eq_true_eq, decide_eq_false_iff_not, Ty.T]; omega) | (simp only [beq_iff_eq, bne_iff_ne, ne_eq, decide_eq_true_eq, Ty.T]; omega))), if_pos (by omega), if_pos (by omega), att_n (e := T23b6) x18 i hl, qi_control_controller_done_1_481, Option.bind_some, if_neg (by rw [Bool.not_eq_true]; exact hn), wsucc i (by omega)]
  · simp only [i_slices_IndexFunc_Peer_bc5.l1, i_slices_IndexFunc_Peer_bc5.b1]
    by_cases hl : x18.findIdx busyP < x18.length
    · have hy := List.findIdx_getElem (w := hl)
      rw [if_pos (by (first | omega | (dsimp only [Ty.T]; omega) | (simp only [decide_eq_true_eq, decide_eq_false_iff_not, Bool.not_eq_true, Ty.T]; omega) | (simp only [decide_eq_true_eq, decide_eq_false_iff_not, Ty.T]; omega) | (simp only [beq_iff_eq, bne_iff_ne, ne_eq, decide_eq_true_eq, Ty.T]; omega))), if_pos (by omega), if_pos (by omega), att_n (e := T23b6) x18 _ hl, qi_control_controller_done_1_481, Option.bind_some, if_pos (by exact hy), Option.bind_some, decide_eq_true (by omega)]
      exact congrArg (fun b => some (b, ())) (List.any_eq_true.2 ⟨_, List.getElem_mem hl, hy⟩).symm
    · rw [if_neg (by (first | omega | (dsimp only [Ty.T]; omega) | (simp only [decide_eq_true_eq, decide_eq_false_iff_not, Bool.not_eq_true, Ty.T]; omega) | (simp only [decide_eq_true_eq, decide_eq_false_iff_not, Ty.T]; omega) | (simp only [beq_iff_eq, bne_iff_ne, ne_eq, decide_eq_true_eq, Ty.T]; omega))), Option.bind_some, decide_eq_false (by decide)]
      refine congrArg (fun b => some (b, ())) (Eq.symm ?_)
      rw [Bool.eq_false_iff]
      intro hc
      obtain ⟨y, h1, h2⟩ := List.any_eq_true.1 hc
      exact absurd (List.findIdx_lt_length_of_exists ⟨y, h1, h2⟩) hl
theorem qi_control_controller_done_ad0 (x1 : T26b3.T) (x2 : Int) (x3 : Int) (x4 : Int) (x5 : Int) (x6 : Int) (x7 : Int) (x8 : Int) (x9 : Int) (x10 : Int) (x11 : Int) (x12 : Int) (x13 : Int) (x14 : Int) (x15 : Int) (x16 : List (List (List T1383.T))) (x17 : List Int) (x18 : List T23b6.T) (x19 : List T713d.T) (x20 : List Int) (x21 : List Int) (h : x18.length < 1000) : i_control_controller_done_ad0.f 1000 x1 x2 x3 x4 x5 x6 x7 x8 x9 x10 x11 x12 x13 x14 x15 x16 x17 x18 x19 x20 x21 = some (!x18.any busyP, ()) := by
  unfold i_control_controller_done_ad0.f
  rw [qi_slices_ContainsFunc_Peer_bc5 (h := h), Option.bind_some]
theorem qi_control_controller_done_1_d62 (x1 : T23b6.T) (x2 : T26b3.T) (x3 : Int) (x4 : Int) (x5 : Int) (x6 : Int) (x7 : Int) (x8 : Int) (x9 : Int) (x10 : Int) (x11 : Int) (x12 : Int) (x13 : Int) (x14 : Int) (x15 : Int) (x16 : Int) (x17 : List (List (List T1383.T))) (x18 : List Int) (x19 : List T23b6.T) (x20 : List T713d.T) (x21 : List Int) (x22 : List Int) : i_control_controller_done_1_d62.f 1000 x1 x2 x3 x4 x5 x6 x7 x8 x9 x10 x11 x12 x13 x14 x15 x16 x17 x18 x19 x20 x21 x22 = some (busyP x1, ()) := by
  unfold i_control_controller_done_1_d62.f busyP
  by_cases h : x1.1 ≤ (0 : Int)
  · rw [if_pos (decide_eq_true h), decide_eq_true h]; rfl
  · rw [if_neg (by rw [decide_eq_false h]; exact Bool.false_ne_true), decide_eq_false h]; rfl
theorem qi_slices_ContainsFunc_Peer_dc1 (x1 : T26b3.T) (x2 : Int) (x3 : Int) (x4 : Int) (x5 : Int) (x6 : Int) (x7 : Int) (x8 : Int) (x9 : Int) (x10 : Int) (x11 : Int) (x12 : Int) (x13 : Int) (x14 : Int) (x15 : Int) (x16 : List (List (List T1383.T))) (x17 : List Int) (x18 : List T23b6.T) (x19 : List T713d.T) (x20 : List Int) (x21 : List Int) (h : x18.length < 1000) : i_slices_ContainsFunc_Peer_dc1.f 1000 x1 x2 x3 x4 x5 x6 x7 x8 x9 x10 x11 x12 x13 x14 x15 x16 x17 x18 x19 x20 x21 = some (x18.any busyP, ()) := by
  unfold i_slices_ContainsFunc_Peer_dc1.f i_slices_IndexFunc_Peer_dc1.f
  have hle : x18.findIdx busyP ≤ x18.length := List.findIdx_le_length
  refine loop (fun m i => (i_slices_IndexFunc_Peer_dc1.l1 x1 x2 x3 x4 x5 x6 x7 x8 x9 x10 x11 x12 x13 x14 x15 x16 x17 x18 x19 x20 x21 1000 m (x18.length : Int) (i : Int)).bind fun y1 => some (decide (y1.1 ≥ (0 : Int)), ())) (x18.findIdx busyP) _ (fun m i hi => ?_) (fun m => ?_) 1000 (by omega)
  · have hl : i < x18.length := by omega
    have hn := fi_not hi hl
    simp only [i_slices_IndexFunc_Peer_dc1.l1, i_slices_IndexFunc_Peer_dc1.b1]
    rw [if_pos (by (first | omega | (dsimp only [Ty.T]; omega) | (simp only [decide_eq_true_eq, decide_eq_false_iff_not, Bool.not_eq_true, Ty.T]; omega) | (simp only [decide_eq_true_eq, decide_eq_false_iff_not, Ty.T]; omega) | (simp only [beq_iff_eq, bne_iff_ne, ne_eq, decide_eq_true_eq, Ty.T]; omega))), if_pos (by omega), if_pos (by omega), att_n (e := T23b6) x18 i hl, qi_control_controller_done_1_d62, Option.bind_some, if_neg (by rw [Bool.not_eq_true]; exact hn), wsucc i (by omega)]
  · simp only [i_slices_IndexFunc_Peer_dc1.l1, i_slices_IndexFunc_Peer_dc1.b1]
    by_cases hl : x18.findIdx busyP < x18.length
    · have hy := List.findIdx_getElem (w := hl)
      rw [if_pos (by (first | omega | (dsimp only [Ty.T]; omega) | (simp only [decide_eq_true_eq, decide_eq_false_iff_not, Bool.not_eq_true, Ty.T]; omega) | (simp only [decide_eq_true_eq, decide_eq_false_iff_not, Ty.T]; omega) | (simp only [beq_iff_eq, bne_iff_ne, ne_eq, decide_eq_true_eq, Ty.T]; omega))), if_pos (by omega), if_pos (by omega), att_n (e := T23b6) x18 _ hl, qi_control_controller_done_1_d62, Option.bind_some, if_pos (by exact hy), Option.bind_some, decide_eq_true (by omega)]
      exact congrArg (fun b => some (b, ())) (List.any_eq_true.2 ⟨_, List.getElem_mem hl, hy⟩).symm
    · rw [if_neg (by (first | omega | (dsimp only [Ty.T]; omega) | (simp only [decide_eq_true_eq, decide_eq_false_iff_not, Bool.not_eq_true, Ty.T]; omega) | (simp only [decide_eq_true_eq, decide_eq_false_iff_not, Ty.T]; omega) | (simp only [beq_iff_eq, bne_iff_ne, ne_eq, decide_eq_true_eq, Ty.T]; omega))), Option.bind_some, decide_eq_false (by decide)]
      refine congrArg (fun b => some (b, ())) (Eq.symm ?_)
      rw [Bool.eq_false_iff]
      intro hc
      obtain ⟨y, h1, h2⟩ := List.any_eq_true.1 hc
      exact absurd (List.findIdx_lt_length_of_exists ⟨y, h1, h2⟩) hl
theorem qi_control_controller_done_d8b (x1 : T26b3.T) (x2 : Int) (x3 : Int) (x4 : Int) (x5 : Int) (x6 : Int) (x7 : Int) (x8 : Int) (x9 : Int) (x10 : Int) (x11 : Int) (x12 : Int) (x13 : Int) (x14 : Int) (x15 : Int) (x16 : List (List (List T1383.T))) (x17 : List Int) (x18 : List T23b6.T) (x19 : List T713d.T) (x20 : List Int) (x21 : List Int) (h : x18.length < 1000) : i_control_controller_done_d8b.f 1000 x1 x2 x3 x4 x5 x6 x7 x8 x9 x10 x11 x12 x13 x14 x15 x16 x17 x18 x19 x20 x21 = some (!x18.any busyP, ()) := by
  unfold i_control_controller_done_d8b.f
  rw [qi_slices_ContainsFunc_Peer_dc1 (h := h), Option.bind_some]
theorem qi_control_controller_install_1_71d (x1 : T23b6.T) (x2 : T26b3.T) (x3 : Int) (x4 : Int) (x5 : Int) (x6 : Int) (x7 : Int) (x8 : Int) (x9 : Int) (x10 : Int) (x11 : Int) (x12 : Int) (x13 : Int) (x14 : Int) (x15 : Int) (x16 : Int) (x17 : List (List (List T1383.T))) (x18 : List Int) (x19 : List T23b6.T) (x20 : List T713d.T) (x21 : List Int) (x22 : List Int) : i_control_controller_install_1_71d.f 1000 x1 x2 x3 x4 x5 x6 x7 x8 x9 x10 x11 x12 x13 x14 x15 x16 x17 x18 x19 x20 x21 x22 = some (badP x13 x1, ()) := by
  unfold i_control_controller_install_1_71d.f
  rfl
theorem qi_slices_ContainsFunc_Peer_d2b (x1 : T26b3.T) (x2 : Int) (x3 : Int) (x4 : Int) (x5 : Int) (x6 : Int) (x7 : Int) (x8 : Int) (x9 : Int) (x10 : Int) (x11 : Int) (x12 : Int) (x13 : Int) (x14 : Int) (x15 : Int) (x16 : List (List (List T1383.T))) (x17 : List Int) (x18 : List T23b6.T) (x19 : List T713d.T) (x20 : List Int) (x21 : List Int) (h : x18.length < 1000) : i_slices_ContainsFunc_Peer_d2b.f 1000 x1 x2 x3 x4 x5 x6 x7 x8 x9 x10 x11 x12 x13 x14 x15 x16 x17 x18 x19 x20 x21 = some (x18.any (badP x12), ()) := by
  unfold i_slices_ContainsFunc_Peer_d2b.f i_slices_IndexFunc_Peer_d2b.f
  have hle : x18.findIdx (badP x12) ≤ x18.length := List.findIdx_le_length
  refine loop (fun m i => (i_slices_IndexFunc_Peer_d2b.l1 x1 x2 x3 x4 x5 x6 x7 x8 x9 x10 x11 x12 x13 x14 x15 x16 x17 x18 x19 x20 x21 1000 m (x18.length : Int) (i : Int)).bind fun y1 => some (decide (y1.1 ≥ (0 : Int)), ())) (x18.findIdx (badP x12)) _ (fun m i hi => ?_) (fun m => ?_) 1000 (by omega)
  · have hl : i < x18.length := by omega
    have hn := fi_not hi hl
    simp only [i_slices_IndexFunc_Peer_d2b.l1, i_slices_IndexFunc_Peer_d2b.b1]
    rw [if_pos (by (first | omega | (dsimp only [Ty.T]; omega) | (simp only [decide_eq_true_eq, decide_eq_false_iff_not, Bool.not_eq_true, Ty.T]; omega) | (simp only [decide_eq_true_eq, decide_eq_false_iff_not, Ty.T]; omega) | (simp only [beq_iff_eq, bne_iff_ne, ne_eq, decide_eq_true_eq, Ty.T]; omega))), if_pos (by omega), if_pos (by omega), att_n (e := T23b6) x18 i hl, qi_control_controller_install_1_71d, Option.bind_some, if_neg (by rw [Bool.not_eq_true]; exact hn), wsucc i (by omega)]
  · simp only [i_slices_IndexFunc_Peer_d2b.l1, i_slices_IndexFunc_Peer_d2b.b1]
    by_cases hl : x18.findIdx (badP x12) < x18.length
    · have hy := List.findIdx_getElem (w := hl)
      rw [if_pos (by (first | omega | (dsimp only [Ty.T]; omega) | (simp only [decide_eq_true_eq, decide_eq_false_iff_not, Bool.not_eq_true, Ty.T]; omega) | (simp only [decide_eq_true_eq, decide_eq_false_iff_not, Ty.T]; omega) | (simp only [beq_iff_eq, bne_iff_ne, ne_eq, decide_eq_true_eq, Ty.T]; omega))), if_pos (by omega), if_pos (by omega), att_n (e := T23b6) x18 _ hl, qi_control_controller_install_1_71d, Option.bind_some, if_pos (by exact hy), Option.bind_some, decide_eq_true (by omega)]
      exact congrArg (fun b => some (b, ())) (List.any_eq_true.2 ⟨_, List.getElem_mem hl, hy⟩).symm
    · rw [if_neg (by (first | omega | (dsimp only [Ty.T]; omega) | (simp only [decide_eq_true_eq, decide_eq_false_iff_not, Bool.not_eq_true, Ty.T]; omega) | (simp only [decide_eq_true_eq, decide_eq_false_iff_not, Ty.T]; omega) | (simp only [beq_iff_eq, bne_iff_ne, ne_eq, decide_eq_true_eq, Ty.T]; omega))), Option.bind_some, decide_eq_false (by decide)]
      refine congrArg (fun b => some (b, ())) (Eq.symm ?_)
      rw [Bool.eq_false_iff]
      intro hc
      obtain ⟨y, h1, h2⟩ := List.any_eq_true.1 hc
      exact absurd (List.findIdx_lt_length_of_exists ⟨y, h1, h2⟩) hl
theorem awake21 : f_law21_awake.f 1000 = some (true, ()) := by decide +kernel
theorem inR_iff {n : Nat} {x : Int} : inR n x = true ↔ 0 ≤ x ∧ x < (n : Int) := by unfold inR; exact decide_eq_true_iff
theorem isB_live {nc : Nat} {live next ph : Int} {queue : List Int} {np : Nat} (h : isB nc live next ph queue np = true) : 0 ≤ live ∧ live < (nc : Int) := by
  unfold isB at h
  simp only [Bool.and_eq_true] at h
  exact inR_iff.1 h.2.1
theorem isB_next {nc : Nat} {live next ph : Int} {queue : List Int} {np : Nat} (h : isB nc live next ph queue np = true) (ht : two ph = true) : 0 ≤ next ∧ next < (nc : Int) := by
  unfold isB at h
  rw [ht] at h
  simp only [Bool.and_eq_true, Bool.not_true, Bool.and_false, Bool.false_or] at h
  exact inR_iff.1 h.1
def isC (c : Ct) : Bool := isB c.1.length c.2.1 c.2.2.1 c.2.2.2.2.2.1 c.2.2.2.2.2.2.2.1 c.2.2.2.2.2.2.2.2.1.length
def lvC (c : Ct) (sw : Int) : List Vr := lvs c.1 c.2.1 c.2.2.1 c.2.2.2.1 c.2.2.2.2.1 c.2.2.2.2.2.1 sw
def stC (c : Ct) : Int := stampOf c.2.2.2.1 c.2.2.2.2.1 c.2.2.2.2.2.1
theorem FewC.rl {cs : List (List (List Rl))} {peers : List T23b6.T} {queue done undone : List Int} {given : List T713d.T} (h : FewC cs peers queue done undone given) : ∀ x ∈ cs, ∀ l ∈ x, l.length < 1000000 := fun x hx l hl => by have := (h.r x hx).2 l hl; omega
theorem live_g (c : Ct) (hz : c.2.2.2.2.2.2.2.1.length < 1000) (hr : ∀ x ∈ c.1, ∀ l ∈ x, l.length < 1000000) (sw : Int) : f_control_Live.f 1000 c sw = some (if isC c = true then (lvC c sw, (stC c, ())) else ([], (0, ()))) := by
  unfold f_control_Live.f
  rw [qi_control_controller_is_e28 c hz, Option.bind_some]
  by_cases hc : isC c = true
  · have hb : isB c.1.length c.2.1 c.2.2.1 c.2.2.2.2.2.1 c.2.2.2.2.2.2.2.1 c.2.2.2.2.2.2.2.2.1.length = true := hc
    have hl := isB_live hb
    rw [if_pos hc, if_pos hb, qi_control_controller_live_258 sw c hl.1 hl.2 (fun ht => isB_next hb ht) hr, Option.bind_some]
    rfl
  · rw [if_neg hc]
    exact if_neg hc
theorem live_c (c : Ct) (h : FewOf c) (sw : Int) : f_control_Live.f 1000 c sw = some (if isC c = true then (lvC c sw, (stC c, ())) else ([], (0, ()))) := live_g c (by have := h.q; omega) h.rl sw
theorem u8_in (n : Int) (h : 0 ≤ n) (h2 : n < 256) : IntKind.u8.wrap n = n := by
  unfold IntKind.wrap
  simp [IntKind.bits, IntKind.signed]
  omega
theorem u8_mod (n : Int) : IntKind.u8.wrap n = n % 256 := by
  unfold IntKind.wrap
  simp [IntKind.bits, IntKind.signed]
theorem fdiv_pos (a : Int) (b : Int) (h : 0 < b) : Int.fdiv a b = a / b := Int.fdiv_eq_ediv_of_nonneg a (by omega)
-- folding
def fl (p : Int) : Int := if p = 0 then 0 else if p % 65535 = 0 then 65535 else p % 65535
theorem fl_small (p : Int) (h : 0 ≤ p) (h2 : p ≤ 65535) : fl p = p := by unfold fl; split <;> (try split) <;> omega
theorem fl_step (p : Int) (h : 65535 < p) : fl (p / 65536 + p % 65536) = fl p := by
  unfold fl
  have : (p / 65536 + p % 65536) % 65535 = p % 65535 := by omega
  rw [this]
  have : ¬ (p / 65536 + p % 65536 = 0) := by omega
  rw [if_neg this, if_neg (show ¬ p = 0 by omega)]
theorem fl_range (p : Int) (h : 0 < p) : 1 ≤ fl p ∧ fl p ≤ 65535 := by unfold fl; split <;> (try split) <;> omega
theorem and16 (p : Int) (h : 0 ≤ p) (h2 : p < 1099511627776) : IntKind.i64.wrap (((BitVec.ofInt IntKind.i64.bits p &&& BitVec.ofInt IntKind.i64.bits 65535).toNat : Nat) : Int) = p % 65536 := by
  obtain ⟨n, rfl⟩ : ∃ n : Nat, p = (n : Int) := ⟨p.toNat, by omega⟩
  have h3 : (BitVec.ofInt IntKind.i64.bits (n : Int) &&& BitVec.ofInt IntKind.i64.bits 65535).toNat = n % 65536 := by
    have e1 : (BitVec.ofInt IntKind.i64.bits (n : Int)).toNat = n := by
      show (BitVec.ofInt 64 (n : Int)).toNat = n
      rw [BitVec.toNat_ofInt]; omega
    have e2 : (BitVec.ofInt IntKind.i64.bits 65535).toNat = 2 ^ 16 - 1 := by decide
    rw [BitVec.toNat_and, e1, e2, Nat.and_two_pow_sub_one_eq_mod]
  rw [h3, IntWalk.i64_in _ (by omega)]
  omega
theorem fold_step (k m : Nat) (p : Int) (h : 65535 < p) (h2 : p < 1099511627776) : f_octets_Sum.l2 k (m + 1) p = f_octets_Sum.l2 k m (p / 65536 + p % 65536) := by
  simp only [f_octets_Sum.l2, f_octets_Sum.b2]
  rw [if_pos (decide_eq_true h), and16 p (by omega) h2, show (2 : Int) ^ (min (16 : Int).toNat IntKind.i64.bits) = 65536 by decide, fdiv_pos _ _ (by omega), IntWalk.i64_in _ (by omega)]
theorem fold_end (k m : Nat) (p : Int) (h : 0 ≤ p) (h2 : p ≤ 65535) : f_octets_Sum.l2 k (m + 1) p = some (65535 - fl p, ()) := by
  simp only [f_octets_Sum.l2, f_octets_Sum.b2]
  rw [if_neg (by rw [decide_eq_false (by omega)]; exact Bool.false_ne_true), fl_small p h h2, IntWalk.i64_in _ (by omega)]
theorem fold_two (k m : Nat) (p : Int) (h : 0 ≤ p) (h2 : p < 131072) : f_octets_Sum.l2 k (m + 3) p = some (65535 - fl p, ()) := by
  by_cases h3 : 65535 < p
  · rw [fold_step k (m + 2) p h3 (by omega), ← fl_step p h3]
    by_cases h4 : 65535 < p / 65536 + p % 65536
    · rw [fold_step k (m + 1) _ h4 (by omega), ← fl_step _ h4]
      exact fold_end k m _ (by omega) (by omega)
    · exact fold_end k (m + 1) _ (by omega) (by omega)
  · exact fold_end k (m + 2) p h (by omega)
theorem fold_eq (k m : Nat) (p : Int) (h : 0 ≤ p) (h2 : p < 1099511627776) : f_octets_Sum.l2 k (m + 5) p = some (65535 - fl p, ()) := by
  by_cases h3 : 65535 < p
  · rw [fold_step k (m + 4) p h3 h2, ← fl_step p h3]
    by_cases h4 : 65535 < p / 65536 + p % 65536
    · rw [fold_step k (m + 3) _ h4 (by omega), ← fl_step _ h4]
      exact fold_two k m _ (by omega) (by omega)
    · exact fold_end k (m + 3) _ (by omega) (by omega)
  · exact fold_end k (m + 4) p h (by omega)
-- the sum of bytes
def Oct (xs : List Int) : Prop := ∀ x ∈ xs, (0 : Int) ≤ x ∧ x < 256
def tot (xs : List Int) : Nat → Int
  | 0 => 0
  | i + 1 => tot xs i + (xs[i]?).getD 0 * (if i % 2 = 0 then 256 else 1)
theorem tot_range (xs : List Int) (h : Oct xs) : ∀ i, i ≤ xs.length → 0 ≤ tot xs i ∧ tot xs i ≤ 65280 * (i : Int)
  | 0, _ => by simp [tot]
  | i + 1, hi => by
    have h1 := tot_range xs h i (by omega)
    have hl : i < xs.length := by omega
    have h2 := h xs[i] (List.getElem_mem hl)
    simp only [tot, List.getElem?_eq_getElem hl, Option.getD_some]
    split <;> omega
theorem sum_eq (xs : List Int) (h : Oct xs) (hs : xs.length < 900) : f_octets_Sum.f 1000 xs = some (65535 - fl (tot xs xs.length), ()) := by
  unfold f_octets_Sum.f
  have key : ∀ d i m, i + d = xs.length → d < m → f_octets_Sum.l1 1000 m (tot xs i) xs (xs.length : Int) (i : Int) = some (65535 - fl (tot xs xs.length), ()) := by
    intro d
    induction d with
    | zero =>
      intro i m hi hm
      obtain ⟨m, rfl⟩ : ∃ q, m = q + 1 := ⟨m - 1, by omega⟩
      obtain rfl : i = xs.length := by omega
      simp only [f_octets_Sum.l1, f_octets_Sum.b1]
      rw [if_neg (by simp)]
      have := tot_range xs h xs.length (Nat.le_refl _)
      obtain ⟨m', hm'⟩ : ∃ m' : Nat, 1000000 = m' + 5 := ⟨999995, by decide⟩
      rw [hm']
      exact (show f_octets_Sum.l2 1000 (m' + 1 + 5) (tot xs xs.length) = _ from fold_eq 1000 (m' + 1) _ this.1 (by omega))
    | succ d ih =>
      intro i m hi hm
      obtain ⟨m, rfl⟩ : ∃ q, m = q + 1 := ⟨m - 1, by omega⟩
      have hl : i < xs.length := by omega
      have hx := h xs[i] (List.getElem_mem hl)
      have h1 := tot_range xs h i (by omega)
      have e8 : IntKind.i64.wrap (8 * (Int.tmod (IntKind.i64.wrap ((i : Int) + 1)) 2)) = 8 * (((i + 1) % 2 : Nat) : Int) := by
        rw [wsucc i (by omega), show Int.tmod (((i + 1 : Nat) : Int)) 2 = (((i + 1) % 2 : Nat) : Int) by rw [Int.tmod_eq_emod_of_nonneg (by omega)]; omega, IntWalk.i64_in _ (by omega)]
      have et : tot xs (i + 1) = tot xs i + xs[i] * (if i % 2 = 0 then 256 else 1) := by simp only [tot, List.getElem?_eq_getElem hl, Option.getD_some]
      have ep : (2 : Int) ^ (min (8 * (((i + 1) % 2 : Nat) : Int)).toNat IntKind.i64.bits) = if i % 2 = 0 then 256 else 1 := by
        rcases Nat.mod_two_eq_zero_or_one i with h2 | h2
        · rw [if_pos h2, show (i + 1) % 2 = 1 by omega]; decide
        · rw [if_neg (by omega), show (i + 1) % 2 = 0 by omega]; decide
      simp only [f_octets_Sum.l1, f_octets_Sum.b1, e8, att_n (e := .int .u8) xs i hl]
      rw [if_pos (by simp; exact hl), if_pos (by omega), if_pos (by omega), if_pos (by omega), ep, IntWalk.i64_in xs[i] (by omega), wsucc i (by omega)]
      have hb : xs[i] * (if i % 2 = 0 then 256 else 1) < 65536 ∧ 0 ≤ xs[i] * (if i % 2 = 0 then 256 else 1) := by split <;> omega
      rw [IntWalk.i64_in (xs[i] * _) (by omega), IntWalk.i64_in (tot xs i + _) (by omega), ← et]
      exact ih (i + 1) m (by omega) (by omega)
  exact key xs.length 0 1000 (by omega) (by omega)
theorem put1 (n : Int) (h : 0 ≤ n) (h2 : n < 256) : f_octets_PutO.f 1000 n 1 = some ([n], (0, ())) := by
  have e : f_octets_PutO.f 1000 n 1 = if (decide (n < (0 : Int))) = true then f_octets_PutO.j1 1000 n 1 true else f_octets_PutO.j1 1000 n 1 ((Int.fdiv n 256) != (0 : Int)) := by kernel_rfl
  rw [e, if_neg (by rw [decide_eq_false (by omega)]; exact Bool.false_ne_true), fdiv_pos _ _ (by omega), show n / 256 = 0 by omega]
  have e2 : f_octets_PutO.j1 1000 n 1 false = some ([IntKind.u8.wrap (Int.fdiv n 1)], (0, ())) := by kernel_rfl
  show f_octets_PutO.j1 1000 n 1 false = _
  rw [e2, fdiv_pos _ _ (by omega), u8_in _ (by omega) (by omega), show n / 1 = n by omega]
theorem put2 (n : Int) (h : 0 ≤ n) (h2 : n < 65536) : f_octets_PutO.f 1000 n 2 = some ([n / 256, n % 256], (0, ())) := by
  have e : f_octets_PutO.f 1000 n 2 = if (decide (n < (0 : Int))) = true then f_octets_PutO.j1 1000 n 2 true else f_octets_PutO.j1 1000 n 2 ((Int.fdiv n 65536) != (0 : Int)) := by kernel_rfl
  rw [e, if_neg (by rw [decide_eq_false (by omega)]; exact Bool.false_ne_true), fdiv_pos _ _ (by omega), show n / 65536 = 0 by omega]
  have e2 : f_octets_PutO.j1 1000 n 2 false = some ([IntKind.u8.wrap (Int.fdiv n 256), IntKind.u8.wrap (Int.fdiv n 1)], (0, ())) := by kernel_rfl
  show f_octets_PutO.j1 1000 n 2 false = _
  rw [e2, fdiv_pos _ _ (by omega), fdiv_pos _ _ (by omega), u8_in (n / 256) (by omega) (by omega), u8_mod, show n / 1 = n by omega]
theorem put3 (n : Int) (h : 0 ≤ n) (h2 : n < 16777216) : f_octets_PutO.f 1000 n 3 = some ([n / 65536, n / 256 % 256, n % 256], (0, ())) := by
  have e : f_octets_PutO.f 1000 n 3 = if (decide (n < (0 : Int))) = true then f_octets_PutO.j1 1000 n 3 true else f_octets_PutO.j1 1000 n 3 ((Int.fdiv n 16777216) != (0 : Int)) := by kernel_rfl
  rw [e, if_neg (by rw [decide_eq_false (by omega)]; exact Bool.false_ne_true), fdiv_pos _ _ (by omega), show n / 16777216 = 0 by omega]
  have e2 : f_octets_PutO.j1 1000 n 3 false = some ([IntKind.u8.wrap (Int.fdiv n 65536), IntKind.u8.wrap (Int.fdiv n 256), IntKind.u8.wrap (Int.fdiv n 1)], (0, ())) := by kernel_rfl
  show f_octets_PutO.j1 1000 n 3 false = _
  rw [e2, fdiv_pos _ _ (by omega), fdiv_pos _ _ (by omega), fdiv_pos _ _ (by omega), u8_in (n / 65536) (by omega) (by omega), u8_mod, u8_mod, show n / 1 = n by omega]
theorem put4 (n : Int) (h : 0 ≤ n) (h2 : n < 4294967296) : f_octets_PutO.f 1000 n 4 = some ([n / 16777216, n / 65536 % 256, n / 256 % 256, n % 256], (0, ())) := by
  have e : f_octets_PutO.f 1000 n 4 = if (decide (n < (0 : Int))) = true then f_octets_PutO.j1 1000 n 4 true else f_octets_PutO.j1 1000 n 4 ((Int.fdiv n 4294967296) != (0 : Int)) := by kernel_rfl
  rw [e, if_neg (by rw [decide_eq_false (by omega)]; exact Bool.false_ne_true), fdiv_pos _ _ (by omega), show n / 4294967296 = 0 by omega]
  have e2 : f_octets_PutO.j1 1000 n 4 false = some ([IntKind.u8.wrap (Int.fdiv n 16777216), IntKind.u8.wrap (Int.fdiv n 65536), IntKind.u8.wrap (Int.fdiv n 256), IntKind.u8.wrap (Int.fdiv n 1)], (0, ())) := by kernel_rfl
  show f_octets_PutO.j1 1000 n 4 false = _
  rw [e2, fdiv_pos _ _ (by omega), fdiv_pos _ _ (by omega), fdiv_pos _ _ (by omega), fdiv_pos _ _ (by omega), u8_in (n / 16777216) (by omega) (by omega), u8_mod, u8_mod, u8_mod, show n / 1 = n by omega]
-- numbers out of bytes
def inb (x : Int × Int) (n : Int) : Bool := decide (n ≥ x.1) && decide (n ≤ x.2)
theorem inb_eq (k : Nat) (x : Int × Int) (n : Int) : f_msg_bounds_in.f k x n = some (inb x n, ()) := by
  unfold f_msg_bounds_in.f inb
  cases h : decide (n ≥ x.1)
  · rw [if_neg Bool.false_ne_true]; rfl
  · rw [if_pos rfl]; rfl
def kindOf (n : Int) : Ta655.T := att Ta655 glob0 n
def zr (r : Rl) : Bool := (r.1.1 == (0 : Int)) && ((r.1.2 == (0 : Int)) && ((r.2.1 == (0 : Int)) && ((r.2.2.1 == (0 : Int)) && ((r.2.2.2.1 == (0 : Int)) && ((r.2.2.2.2 == (0 : Int)) && true)))))
noncomputable def mmay (m : Mg) : Bool := decide (0 ≤ m.1) && (decide (m.1 < 6) && ((if (kindOf m.1).2.2 = true then rmay m.2.2.2.2 else zr m.2.2.2.2) && (inb (1, 1048576) m.2.1 && (inb (kindOf m.1).1 m.2.2.1 && inb (kindOf m.1).2.1 m.2.2.2.1))))
theorem mmay_eq (k : Nat) (m : Mg) : f_msg_May.f k m = some (mmay m, ()) := by
  unfold f_msg_May.f mmay
  have hj : f_msg_May.j1 k true m = some (false, ()) := by unfold f_msg_May.j1; rw [if_pos rfl]
  by_cases h1 : m.1 < (0 : Int)
  · rw [if_pos (decide_eq_true h1), hj, decide_eq_false (show ¬ (0 : Int) ≤ m.1 from Int.not_le.2 h1)]; rfl
  rw [if_neg (by rw [decide_eq_false h1]; exact Bool.false_ne_true), decide_eq_true (show (0 : Int) ≤ m.1 from Int.not_lt.1 h1)]
  by_cases h2 : m.1 < (6 : Int)
  · rw [decide_eq_false (show ¬ m.1 ≥ (6 : Int) from Int.not_le.2 h2), decide_eq_true h2]
    unfold f_msg_May.j1
    rw [if_neg Bool.false_ne_true, if_pos (Int.not_lt.1 h1), if_pos h2]
    simp only [Bool.true_and]
    have h3 : ∀ b, f_msg_May.j2 k b m (att Ta655 glob0 m.1) = some (b && (inb (1, 1048576) m.2.1 && (inb (kindOf m.1).1 m.2.2.1 && inb (kindOf m.1).2.1 m.2.2.2.1)), ()) := by
      intro b
      unfold f_msg_May.j2
      cases b
      · rw [if_neg Bool.false_ne_true]; rfl
      · rw [if_pos rfl, inb_eq, Option.bind_some]
        cases inb (1, 1048576) m.2.1
        · rw [if_neg Bool.false_ne_true]; rfl
        · rw [if_pos rfl, inb_eq, Option.bind_some]
          show (if inb (kindOf m.1).1 m.2.2.1 = true then _ else _) = _
          cases inb (kindOf m.1).1 m.2.2.1
          · rw [if_neg Bool.false_ne_true]; rfl
          · rw [if_pos rfl, inb_eq]; rfl
    show (if (kindOf m.1).2.2 = true then _ else _) = _
    by_cases h4 : (kindOf m.1).2.2 = true
    · rw [if_pos h4, if_pos h4, rmay_eq, Option.bind_some, h3]
    · rw [if_neg h4, if_neg h4, h3]; rfl
  · rw [decide_eq_true (show m.1 ≥ (6 : Int) from Int.not_lt.1 h2), hj, decide_eq_false h2]; rfl
theorem zr_eq {r : Rl} (h : zr r = true) : r = ((0, 0), (0, (0, (0, 0)))) := by
  unfold zr at h
  simp only [Bool.and_eq_true, beq_iff_eq, and_true] at h
  obtain ⟨h1, h2, h3, h4, h5, h6⟩ := h
  obtain ⟨⟨a, b⟩, c, d, e, f⟩ := r
  dsimp only at h1 h2 h3 h4 h5 h6
  rw [h1, h2, h3, h4, h5, h6]
structure MM (kd ep sq tg : Int) (r : Rl) : Prop where
  k0 : 0 ≤ kd
  k1 : kd < 6
  e0 : 1 ≤ ep
  e1 : ep ≤ 1048576
  s0 : 0 ≤ sq
  s1 : sq ≤ 1048576
  t0 : 0 ≤ tg
  t1 : tg ≤ 4095
  two : kd = 2 → rmay r = true
  not2 : kd ≠ 2 → r = ((0, 0), (0, (0, (0, 0))))
  kx : (kindOf kd).2.2 = (kd == 2)
  sx : kd ≥ 2 → 1 ≤ sq
  tx : kd ≥ 2 → kd ≤ 4 → 1 ≤ tg
theorem kinds6 (n : Int) (h : 0 ≤ n) (h2 : n < 6) : n = 0 ∨ n = 1 ∨ n = 2 ∨ n = 3 ∨ n = 4 ∨ n = 5 := by omega
theorem mmay_ok {m : Mg} (h : mmay m = true) : MM m.1 m.2.1 m.2.2.1 m.2.2.2.1 m.2.2.2.2 := by
  have key : ∀ (kd ep sq tg : Int) (r : Rl), mmay (kd, (ep, (sq, (tg, r)))) = true → MM kd ep sq tg r := by
    intro kd ep sq tg r h
    unfold mmay at h
    simp only [Bool.and_eq_true, decide_eq_true_eq] at h
    obtain ⟨h1, h2, h3, h4, h5, h6⟩ := h
    unfold inb at h4 h5 h6
    simp only [Bool.and_eq_true, decide_eq_true_eq] at h4 h5 h6
    rcases kinds6 kd h1 h2 with rfl | rfl | rfl | rfl | rfl | rfl
    · have h3 : zr r = true := h3
      replace h5 : sq ≥ (0 : Int) ∧ sq ≤ (0 : Int) := h5
      replace h6 : tg ≥ (0 : Int) ∧ tg ≤ (0 : Int) := h6
      exact ⟨h1, h2, h4.1, h4.2, h5.1, by omega, h6.1, by omega, fun h => by omega, fun _ => zr_eq h3, rfl, fun h => by omega, fun h => by omega⟩
    · have h3 : zr r = true := h3
      replace h5 : sq ≥ (0 : Int) ∧ sq ≤ (1048576 : Int) := h5
      replace h6 : tg ≥ (0 : Int) ∧ tg ≤ (4095 : Int) := h6
      exact ⟨h1, h2, h4.1, h4.2, h5.1, h5.2, h6.1, h6.2, fun h => by omega, fun _ => zr_eq h3, rfl, fun h => by omega, fun h => by omega⟩
    · have h3 : rmay r = true := h3
      replace h5 : sq ≥ (1 : Int) ∧ sq ≤ (1048576 : Int) := h5
      replace h6 : tg ≥ (1 : Int) ∧ tg ≤ (4095 : Int) := h6
      exact ⟨h1, h2, h4.1, h4.2, by omega, h5.2, by omega, h6.2, fun _ => h3, fun h => absurd rfl h, rfl, fun _ => h5.1, fun _ _ => h6.1⟩
    · have h3 : zr r = true := h3
      replace h5 : sq ≥ (1 : Int) ∧ sq ≤ (1048576 : Int) := h5
      replace h6 : tg ≥ (1 : Int) ∧ tg ≤ (4095 : Int) := h6
      exact ⟨h1, h2, h4.1, h4.2, by omega, h5.2, by omega, h6.2, fun h => by omega, fun _ => zr_eq h3, rfl, fun _ => h5.1, fun _ _ => h6.1⟩
    · have h3 : zr r = true := h3
      replace h5 : sq ≥ (1 : Int) ∧ sq ≤ (1048576 : Int) := h5
      replace h6 : tg ≥ (1 : Int) ∧ tg ≤ (4095 : Int) := h6
      exact ⟨h1, h2, h4.1, h4.2, by omega, h5.2, by omega, h6.2, fun h => by omega, fun _ => zr_eq h3, rfl, fun _ => h5.1, fun _ _ => h6.1⟩
    · have h3 : zr r = true := h3
      replace h5 : sq ≥ (1 : Int) ∧ sq ≤ (1048576 : Int) := h5
      replace h6 : tg ≥ (0 : Int) ∧ tg ≤ (0 : Int) := h6
      exact ⟨h1, h2, h4.1, h4.2, by omega, h5.2, h6.1, by omega, fun h => by omega, fun _ => zr_eq h3, rfl, fun _ => h5.1, fun _ h => by omega⟩
  exact key _ _ _ _ _ h
-- bytes
noncomputable def stepP {R : Type} (o : Option (List Int × Int × Unit)) (acc : List Int) (z : Int → Option R) (K : List Int → Option R) : Option R := o.bind fun y => if (y.2.1 != (0 : Int)) = true then z y.2.1 else if (acc.length + y.1.length) * 1 ≤ 140737488355328 then K (acc ++ y.1) else none
theorem stepP_ok {R : Type} {o : Option (List Int × Int × Unit)} {acc ys : List Int} {z : Int → Option R} {K : List Int → Option R} (h : o = some (ys, (0, ()))) (hl : acc.length + ys.length ≤ 1000) : stepP o acc z K = K (acc ++ ys) := by
  subst h
  unfold stepP
  rw [Option.bind_some, if_neg (show ¬ ((0 : Int) != 0) = true by decide)]
  exact if_pos (by dsimp only; omega)
theorem putall (a b c d : Int) (ha : 0 ≤ a ∧ a < 256) (hb : 0 ≤ b ∧ b < 16777216) (hc : 0 ≤ c ∧ c < 16777216) (hd : 0 ≤ d ∧ d < 65536) :
    f_octets_PutAllO.f 1000 [a, b, c, d] [1, 3, 3, 2] = some ([a, b / 65536, b / 256 % 256, b % 256, c / 65536, c / 256 % 256, c % 256, d / 256, d % 256], (0, ())) := by
  have e : f_octets_PutAllO.f 1000 [a, b, c, d] [1, 3, 3, 2] = stepP (f_octets_PutO.f 1000 a 1) [] (fun e => some ([], (e, ()))) fun s1 => stepP (f_octets_PutO.f 1000 b 3) s1 (fun e => some ([], (e, ()))) fun s2 => stepP (f_octets_PutO.f 1000 c 3) s2 (fun e => some ([], (e, ()))) fun s3 => stepP (f_octets_PutO.f 1000 d 2) s3 (fun e => some ([], (e, ()))) fun s4 => some (s4, (0, ())) := by kernel_rfl
  rw [e, stepP_ok (put1 a ha.1 ha.2) (by simp only [List.length_append, List.length_cons, List.length_nil]; omega), stepP_ok (put3 b hb.1 hb.2) (by simp only [List.length_append, List.length_cons, List.length_nil]; omega), stepP_ok (put3 c hc.1 hc.2) (by simp only [List.length_append, List.length_cons, List.length_nil]; omega), stepP_ok (put2 d hd.1 hd.2) (by simp only [List.length_append, List.length_cons, List.length_nil]; omega)]
  rfl
structure RM (a l i p k o : Int) : Prop where
  a0 : 0 ≤ a
  a1 : a ≤ 4294967295
  l0 : 0 ≤ l
  l1 : l ≤ 32
  i0 : -1 ≤ i
  i1 : i ≤ 7
  p0 : 0 ≤ p
  p1 : p ≤ 255
  k0 : 0 ≤ k
  k1 : k ≤ 1
  o0 : 0 ≤ o
  o1 : o ≤ 7
theorem rmay_ok {r : Rl} (h : rmay r = true) : RM r.1.1 r.1.2 r.2.1 r.2.2.1 r.2.2.2.1 r.2.2.2.2 := by
  have key : ∀ (a l i p k o : Int), rmay ((a, l), (i, (p, (k, o)))) = true → RM a l i p k o := by
    intro a l i p k o h
    unfold rmay port pmay at h
    simp only [Bool.and_eq_true, decide_eq_true_eq, ge_iff_le] at h
    obtain ⟨h1, ⟨g1, g2, g3, g4, _⟩, h3, h4, h5, h6⟩ := h
    split at h1
    · rename_i h7
      simp only [Bool.and_eq_true, beq_iff_eq, and_true] at h7
      obtain ⟨h7, h8⟩ := h7
      replace h7 : k = 0 := h7
      replace h8 : o = 0 := h8
      exact ⟨g3, g4, g1, g2, h3, h4, h5, h6, by omega, by omega, by omega, by omega⟩
    · simp only [Bool.and_eq_true, beq_iff_eq, decide_eq_true_eq, ge_iff_le] at h1
      obtain ⟨h7, h8, h9⟩ := h1
      replace h7 : k = 1 := h7
      exact ⟨g3, g4, g1, g2, h3, h4, h5, h6, by omega, by omega, h8, h9⟩
  exact key _ _ _ _ _ _ h
def rby (r : Rl) : List Int := [r.1.1 / 16777216, r.1.1 / 65536 % 256, r.1.1 / 256 % 256, r.1.1 % 256, r.1.2, r.2.1 + 1, r.2.2.1, r.2.2.2.1, r.2.2.2.2]
theorem rput (r : Rl) (h : rmay r = true) : f_rule_PutO.f 1000 r = some (rby r, (0, ())) := by
  have q := rmay_ok h
  unfold f_rule_PutO.f
  rw [rmay_eq, h, Option.bind_some, if_neg (by decide), put4 _ q.a0 (by have := q.a1; omega), Option.bind_some, if_pos (by simp only [List.length_append, List.length_cons, List.length_nil]; omega)]
  have := q.a0; have := q.a1; have := q.l0; have := q.l1; have := q.i0; have := q.i1; have := q.p0; have := q.p1; have := q.k0; have := q.k1; have := q.o0; have := q.o1
  rw [u8_in r.1.2 (by omega) (by omega), IntWalk.i64_in (r.2.1 + 1) (by omega), u8_in (r.2.1 + 1) (by omega) (by omega), u8_in r.2.2.1 (by omega) (by omega), u8_in r.2.2.2.1 (by omega) (by omega), u8_in r.2.2.2.2 (by omega) (by omega)]
  rfl
def hby (m : Mg) : List Int := [m.1, m.2.1 / 65536, m.2.1 / 256 % 256, m.2.1 % 256, m.2.2.1 / 65536, m.2.2.1 / 256 % 256, m.2.2.1 % 256, m.2.2.2.1 / 256, m.2.2.2.1 % 256]
def mby (m : Mg) : List Int := if m.1 = (2 : Int) then hby m ++ rby m.2.2.2.2 else hby m
theorem mput (m : Mg) : f_msg_PutO.f 1000 m = some (if mmay m = true then mby m else [], (if mmay m = true then 0 else 1, ())) := by
  unfold f_msg_PutO.f
  rw [mmay_eq, Option.bind_some]
  by_cases h : mmay m = true
  · have q := mmay_ok h
    rw [h, if_neg (by decide), if_pos rfl, if_pos rfl, putall m.1 m.2.1 m.2.2.1 m.2.2.2.1 ⟨q.k0, by have := q.k1; omega⟩ ⟨by have := q.e0; omega, by have := q.e1; omega⟩ ⟨q.s0, by have := q.s1; omega⟩ ⟨q.t0, by have := q.t1; omega⟩, Option.bind_some, if_neg (show ¬ ((0 : Int) != 0) = true by decide), if_pos q.k0, if_pos q.k1]
    unfold f_msg_PutO.j1 mby
    have hk : (att Ta655 glob0 m.1).2.2 = (m.1 == (2 : Int)) := q.kx
    rw [hk]
    by_cases h2 : m.1 = (2 : Int)
    · rw [beq_iff_eq.2 h2, if_neg (by decide), rput _ (q.two h2), Option.bind_some, if_pos (show _ by unfold rby; simp only [List.length_append, List.length_cons, List.length_nil]; omega), if_pos h2]
      rfl
    · rw [beq_eq_false_iff_ne.2 h2, if_pos (show (!false) = true from rfl), if_neg h2]
      rfl
  · rw [Bool.eq_false_iff.2 h, if_pos (show (!(false, ()).1) = true from rfl), if_neg Bool.false_ne_true, if_neg Bool.false_ne_true]
abbrev B8 (x : Int) : Prop := 0 ≤ x ∧ x < 256
theorem oct_cons {x : Int} {xs : List Int} (h : B8 x) (k : Oct xs) : Oct (x :: xs) := fun y hy => (List.mem_cons.1 hy).elim (fun e => e ▸ h) (k y)
theorem oct_nil : Oct [] := fun y hy => by cases hy
theorem hby_oct (kd ep sq tg : Int) (r : Rl) (h : mmay (kd, (ep, (sq, (tg, r)))) = true) {xs : List Int} (hx : Oct xs) : Oct (hby (kd, (ep, (sq, (tg, r)))) ++ xs) := by
  have q := mmay_ok h
  have hk0 : 0 ≤ kd := q.k0
  have hk1 : kd < 6 := q.k1
  have he0 : 1 ≤ ep := q.e0
  have he1 : ep ≤ 1048576 := q.e1
  have hs0 : 0 ≤ sq := q.s0
  have hs1 : sq ≤ 1048576 := q.s1
  have ht0 : 0 ≤ tg := q.t0
  have ht1 : tg ≤ 4095 := q.t1
  refine oct_cons (x := kd) ⟨by omega, by omega⟩ (oct_cons (x := ep / 65536) ⟨by omega, by omega⟩ (oct_cons (x := ep / 256 % 256) ⟨by omega, by omega⟩ (oct_cons (x := ep % 256) ⟨by omega, by omega⟩ (oct_cons (x := sq / 65536) ⟨by omega, by omega⟩ (oct_cons (x := sq / 256 % 256) ⟨by omega, by omega⟩ (oct_cons (x := sq % 256) ⟨by omega, by omega⟩ (oct_cons (x := tg / 256) ⟨by omega, by omega⟩ (oct_cons (x := tg % 256) ⟨by omega, by omega⟩ hx))))))))
theorem rby_oct (a l i p k o : Int) (h : rmay ((a, l), (i, (p, (k, o)))) = true) : Oct (rby ((a, l), (i, (p, (k, o))))) := by
  have q := rmay_ok h
  have ha0 : 0 ≤ a := q.a0
  have ha1 : a ≤ 4294967295 := q.a1
  have l0 : 0 ≤ l := q.l0
  have l1 : l ≤ 32 := q.l1
  have i0 : -1 ≤ i := q.i0
  have i1 : i ≤ 7 := q.i1
  have p0 : 0 ≤ p := q.p0
  have p1 : p ≤ 255 := q.p1
  have k0 : 0 ≤ k := q.k0
  have k1 : k ≤ 1 := q.k1
  have o0 : 0 ≤ o := q.o0
  have o1 : o ≤ 7 := q.o1
  refine oct_cons (x := a / 16777216) ⟨by omega, by omega⟩ (oct_cons (x := a / 65536 % 256) ⟨by omega, by omega⟩ (oct_cons (x := a / 256 % 256) ⟨by omega, by omega⟩ (oct_cons (x := a % 256) ⟨by omega, by omega⟩ (oct_cons (x := l) ⟨by omega, by omega⟩ (oct_cons (x := i + 1) ⟨by omega, by omega⟩ (oct_cons (x := p) ⟨by omega, by omega⟩ (oct_cons (x := k) ⟨by omega, by omega⟩ (oct_cons (x := o) ⟨by omega, by omega⟩ oct_nil))))))))
def pre (m : Mg) : List Int := if m.1 = (2 : Int) then [197, 18] ++ (hby m ++ rby m.2.2.2.2) else [197, 9] ++ (hby m ++ [0])
theorem pre_len (m : Mg) : (pre m).length = if m.1 = (2 : Int) then 20 else 12 := by unfold pre; split <;> rfl
theorem pre_oct (m : Mg) (h : mmay m = true) : Oct (pre m) := by
  obtain ⟨kd, ep, sq, tg, ⟨a, l⟩, i, p, k, o⟩ := m
  unfold pre
  split
  · rename_i h2
    exact oct_cons (x := 197) ⟨by decide, by decide⟩ (oct_cons (x := 18) ⟨by decide, by decide⟩ (hby_oct _ _ _ _ _ h (rby_oct _ _ _ _ _ _ ((mmay_ok h).two h2))))
  · exact oct_cons (x := 197) ⟨by decide, by decide⟩ (oct_cons (x := 9) ⟨by decide, by decide⟩ (hby_oct _ _ _ _ _ h (oct_cons (x := 0) ⟨by decide, by decide⟩ oct_nil)))
theorem tot_mono (xs : List Int) (h : Oct xs) : ∀ d i, i + d ≤ xs.length → tot xs i ≤ tot xs (i + d)
  | 0, i, _ => Int.le_refl _
  | d + 1, i, hi => by
    have h1 := tot_mono xs h d i (by omega)
    have hl : i + d < xs.length := by omega
    have h2 := h xs[i + d] (List.getElem_mem hl)
    have e : tot xs (i + d + 1) = tot xs (i + d) + xs[i + d] * (if (i + d) % 2 = 0 then 256 else 1) := by simp only [tot, List.getElem?_eq_getElem hl, Option.getD_some]
    have : 0 ≤ xs[i + d] * (if (i + d) % 2 = 0 then 256 else 1) := by split <;> omega
    show tot xs i ≤ tot xs (i + d + 1)
    omega
theorem pre_pos (m : Mg) (h : mmay m = true) : 0 < tot (pre m) (pre m).length := by
  have h1 := tot_mono (pre m) (pre_oct m h) ((pre m).length - 1) 1 (by rw [pre_len]; split <;> omega)
  rw [show 1 + ((pre m).length - 1) = (pre m).length by rw [pre_len]; split <;> omega] at h1
  have h2 : tot (pre m) 1 = 197 * 256 := by
    have : (pre m)[0]? = some 197 := by unfold pre; split <;> rfl
    show tot (pre m) 0 + ((pre m)[0]?).getD 0 * (if 0 % 2 = 0 then 256 else 1) = _
    rw [this]; rfl
  omega
theorem seal_pre (m : Mg) (h : mmay m = true) : f_frame_Seal.f 1000 m = f_frame_Seal.j1 1000 (pre m) := by
  unfold f_frame_Seal.f
  rw [mput, if_pos h, if_pos h, Option.bind_some]
  unfold pre mby
  by_cases h2 : m.1 = (2 : Int)
  · rw [if_pos h2, if_pos h2]; kernel_rfl
  · rw [if_neg h2, if_neg h2]; kernel_rfl
theorem seal_no (m : Mg) (h : ¬ mmay m = true) : f_frame_Seal.f 1000 m = some ([], (1, ())) := by
  unfold f_frame_Seal.f
  rw [mput, if_neg h, if_neg h, Option.bind_some, if_pos (show ((1 : Int) != 0) = true by decide)]
def withP (c : Ct) (p : List T23b6.T) : Ct := (c.1, (c.2.1, (c.2.2.1, (c.2.2.2.1, (c.2.2.2.2.1, (c.2.2.2.2.2.1, (c.2.2.2.2.2.2.1, (c.2.2.2.2.2.2.2.1, (p, (c.2.2.2.2.2.2.2.2.2.1, (c.2.2.2.2.2.2.2.2.2.2.1, (c.2.2.2.2.2.2.2.2.2.2.2.1, c.2.2.2.2.2.2.2.2.2.2.2.2))))))))))))
theorem bne_self (x : Int) : (x != x) = false := by simp
theorem ints_refl (xs : List Int) (h : xs.length < 1000) : f_ref02_Ints.f 1000 xs xs = some (true, ()) := by
  unfold f_ref02_Ints.f
  rw [if_neg (by rw [bne_self]; exact Bool.false_ne_true)]
  refine loop (fun m i => f_ref02_Ints.l1 1000 m xs xs (i : Int)) xs.length _ (fun m i hi => ?_) (fun m => ?_) 1000 (by omega)
  · simp only [f_ref02_Ints.l1, f_ref02_Ints.b1]
    rw [if_pos (by (first | omega | (dsimp only [Ty.T]; omega) | (simp only [decide_eq_true_eq, decide_eq_false_iff_not, Bool.not_eq_true, Ty.T]; omega) | (simp only [decide_eq_true_eq, decide_eq_false_iff_not, Ty.T]; omega) | (simp only [beq_iff_eq, bne_iff_ne, ne_eq, decide_eq_true_eq, Ty.T]; omega))), if_pos (by omega), if_pos (by omega), if_pos (by omega), if_neg (by rw [bne_self]; exact Bool.false_ne_true), wsucc i (by omega)]
  · simp only [f_ref02_Ints.l1, f_ref02_Ints.b1]
    rw [if_neg (by (first | omega | (dsimp only [Ty.T]; omega) | (simp only [decide_eq_true_eq, decide_eq_false_iff_not, Bool.not_eq_true, Ty.T]; omega) | (simp only [decide_eq_true_eq, decide_eq_false_iff_not, Ty.T]; omega) | (simp only [beq_iff_eq, bne_iff_ne, ne_eq, decide_eq_true_eq, Ty.T]; omega)))]
theorem given_refl (xs : List T713d.T) (h : xs.length < 1000) : f_ref21_given.f 1000 xs xs = some (true, ()) := by
  unfold f_ref21_given.f
  rw [if_neg (by rw [bne_self]; exact Bool.false_ne_true)]
  refine loop (fun m i => f_ref21_given.l1 xs xs 1000 m (i : Int)) xs.length _ (fun m i hi => ?_) (fun m => ?_) 1000 (by omega)
  · simp only [f_ref21_given.l1, f_ref21_given.b1]
    rw [if_pos (by (first | omega | (dsimp only [Ty.T]; omega) | (simp only [decide_eq_true_eq, decide_eq_false_iff_not, Bool.not_eq_true, Ty.T]; omega) | (simp only [decide_eq_true_eq, decide_eq_false_iff_not, Ty.T]; omega) | (simp only [beq_iff_eq, bne_iff_ne, ne_eq, decide_eq_true_eq, Ty.T]; omega))), if_pos (by omega), if_pos (by omega), if_pos (by omega), if_neg (by simp), wsucc i (by omega)]
  · simp only [f_ref21_given.l1, f_ref21_given.b1]
    rw [if_neg (by (first | omega | (dsimp only [Ty.T]; omega) | (simp only [decide_eq_true_eq, decide_eq_false_iff_not, Bool.not_eq_true, Ty.T]; omega) | (simp only [decide_eq_true_eq, decide_eq_false_iff_not, Ty.T]; omega) | (simp only [beq_iff_eq, bne_iff_ne, ne_eq, decide_eq_true_eq, Ty.T]; omega)))]
theorem msgs_refl (xs : List T4414.T) (h : xs.length < 1000) : f_ref15_Msgs.f 1000 xs xs = some (true, ()) := by
  unfold f_ref15_Msgs.f
  rw [if_neg (by rw [bne_self]; exact Bool.false_ne_true)]
  refine loop (fun m i => f_ref15_Msgs.l1 1000 m xs xs (i : Int)) xs.length _ (fun m i hi => ?_) (fun m => ?_) 1000 (by omega)
  · simp only [f_ref15_Msgs.l1, f_ref15_Msgs.b1]
    rw [if_pos (by (first | omega | (dsimp only [Ty.T]; omega) | (simp only [decide_eq_true_eq, decide_eq_false_iff_not, Bool.not_eq_true, Ty.T]; omega) | (simp only [decide_eq_true_eq, decide_eq_false_iff_not, Ty.T]; omega) | (simp only [beq_iff_eq, bne_iff_ne, ne_eq, decide_eq_true_eq, Ty.T]; omega))), if_pos (by omega), if_pos (by omega), if_pos (by omega), if_neg (by simp), wsucc i (by omega)]
  · simp only [f_ref15_Msgs.l1, f_ref15_Msgs.b1]
    rw [if_neg (by (first | omega | (dsimp only [Ty.T]; omega) | (simp only [decide_eq_true_eq, decide_eq_false_iff_not, Bool.not_eq_true, Ty.T]; omega) | (simp only [decide_eq_true_eq, decide_eq_false_iff_not, Ty.T]; omega) | (simp only [beq_iff_eq, bne_iff_ne, ne_eq, decide_eq_true_eq, Ty.T]; omega)))]
theorem rules_refl (xs : List T1383.T) (h : xs.length < 1000) : f_ref08_Same.f 1000 xs xs = some (true, ()) := by
  unfold f_ref08_Same.f
  rw [if_neg (by rw [bne_self]; exact Bool.false_ne_true)]
  refine loop (fun m i => f_ref08_Same.l1 1000 m xs xs (i : Int)) xs.length _ (fun m i hi => ?_) (fun m => ?_) 1000 (by omega)
  · simp only [f_ref08_Same.l1, f_ref08_Same.b1]
    rw [if_pos (by (first | omega | (dsimp only [Ty.T]; omega) | (simp only [decide_eq_true_eq, decide_eq_false_iff_not, Bool.not_eq_true, Ty.T]; omega) | (simp only [decide_eq_true_eq, decide_eq_false_iff_not, Ty.T]; omega) | (simp only [beq_iff_eq, bne_iff_ne, ne_eq, decide_eq_true_eq, Ty.T]; omega))), if_pos (by omega), if_pos (by omega), if_pos (by omega), if_neg (by simp), wsucc i (by omega)]
  · simp only [f_ref08_Same.l1, f_ref08_Same.b1]
    rw [if_neg (by (first | omega | (dsimp only [Ty.T]; omega) | (simp only [decide_eq_true_eq, decide_eq_false_iff_not, Bool.not_eq_true, Ty.T]; omega) | (simp only [decide_eq_true_eq, decide_eq_false_iff_not, Ty.T]; omega) | (simp only [beq_iff_eq, bne_iff_ne, ne_eq, decide_eq_true_eq, Ty.T]; omega)))]
theorem peers_refl (xs : List T23b6.T) (h : xs.length < 1000) (ho : ∀ y ∈ xs, y.2.2.2.2.length < 1000) : f_ref21_peers.f 1000 xs xs = some (true, ()) := by
  unfold f_ref21_peers.f
  rw [if_neg (by rw [bne_self]; exact Bool.false_ne_true)]
  refine loop (fun m i => f_ref21_peers.l1 xs xs 1000 m (i : Int)) xs.length _ (fun m i hi => ?_) (fun m => ?_) 1000 (by omega)
  · have hy := ho _ (List.getElem_mem hi)
    have hs : ∀ s : Tb104.T, s.2.2.length < 1000 → f_ref15_Same.f 1000 s s = some (true, ()) := by
      intro s hs
      unfold f_ref15_Same.f
      rw [msgs_refl _ hs, Option.bind_some, if_pos rfl, if_pos (beq_iff_eq.2 rfl), show (s.2.1 == s.2.1) = true from beq_iff_eq.2 rfl]
    simp only [f_ref21_peers.l1, f_ref21_peers.b1, f_ref21_peers.j2]
    rw [if_pos (by (first | omega | (dsimp only [Ty.T]; omega) | (simp only [decide_eq_true_eq, decide_eq_false_iff_not, Bool.not_eq_true, Ty.T]; omega) | (simp only [decide_eq_true_eq, decide_eq_false_iff_not, Ty.T]; omega) | (simp only [beq_iff_eq, bne_iff_ne, ne_eq, decide_eq_true_eq, Ty.T]; omega))), if_pos (by omega), if_pos (by omega), if_pos (by omega), att_n (e := T23b6) xs i hi, hs _ (by omega), Option.bind_some, if_neg (by decide), if_neg (by rw [bne_self]; exact Bool.false_ne_true), bne_self, if_neg Bool.false_ne_true, wsucc i (by omega)]
  · simp only [f_ref21_peers.l1, f_ref21_peers.b1]
    rw [if_neg (by (first | omega | (dsimp only [Ty.T]; omega) | (simp only [decide_eq_true_eq, decide_eq_false_iff_not, Bool.not_eq_true, Ty.T]; omega) | (simp only [decide_eq_true_eq, decide_eq_false_iff_not, Ty.T]; omega) | (simp only [beq_iff_eq, bne_iff_ne, ne_eq, decide_eq_true_eq, Ty.T]; omega)))]
theorem confs_refl (xs : List (List (List Rl))) (h : xs.length < 1000) (ho : ∀ x ∈ xs, x.length < 1000 ∧ ∀ l ∈ x, l.length < 1000) : f_ref21_Confs.f 1000 xs xs = some (true, ()) := by
  unfold f_ref21_Confs.f
  rw [if_neg (by rw [bne_self]; exact Bool.false_ne_true)]
  refine loop (fun m i => f_ref21_Confs.l1 xs xs 1000 m (i : Int)) xs.length _ (fun m i hi => ?_) (fun m => ?_) 1000 (by omega)
  · have hx := ho _ (List.getElem_mem hi)
    have hx1 : xs[i].length < 1000 := hx.1
    simp only [f_ref21_Confs.l1, f_ref21_Confs.b1]
    rw [if_pos (by (first | omega | (dsimp only [Ty.T]; omega) | (simp only [decide_eq_true_eq, decide_eq_false_iff_not, Bool.not_eq_true, Ty.T]; omega) | (simp only [decide_eq_true_eq, decide_eq_false_iff_not, Ty.T]; omega) | (simp only [beq_iff_eq, bne_iff_ne, ne_eq, decide_eq_true_eq, Ty.T]; omega))), if_pos (by omega), if_pos (by omega), if_pos (by omega), if_neg (by rw [bne_self]; exact Bool.false_ne_true)]
    refine loop (fun q j => f_ref21_Confs.l2 xs xs (f_ref21_Confs.l1 xs xs 1000 m) 1000 q (i : Int) (j : Int)) (xs[i]).length _ (fun q j hj => ?_) (fun q => ?_) 1000 (by omega)
    · have hy := hx.2 _ (List.getElem_mem hj)
      simp only [f_ref21_Confs.l2, f_ref21_Confs.b2]
      rw [att_n (e := .slice (.slice T1383)) xs i hi, if_pos (by omega), if_pos (by omega), if_pos (by (first | omega | (dsimp only [Ty.T]; omega) | (simp only [decide_eq_true_eq, decide_eq_false_iff_not, Bool.not_eq_true, Ty.T]; omega) | (simp only [decide_eq_true_eq, decide_eq_false_iff_not, Ty.T]; omega) | (simp only [beq_iff_eq, bne_iff_ne, ne_eq, decide_eq_true_eq, Ty.T]; omega))), if_pos (by omega), if_pos (by omega), if_pos (by omega), if_pos (by omega), att_n (e := .slice T1383) xs[i] j hj, rules_refl _ (by omega), Option.bind_some, if_neg (by decide), wsucc j (by omega)]
    · simp only [f_ref21_Confs.l2, f_ref21_Confs.b2]
      rw [att_n (e := .slice (.slice T1383)) xs i hi, if_pos (by omega), if_pos (by omega), if_neg (by (first | omega | (dsimp only [Ty.T]; omega) | (simp only [decide_eq_true_eq, decide_eq_false_iff_not, Bool.not_eq_true, Ty.T]; omega) | (simp only [decide_eq_true_eq, decide_eq_false_iff_not, Ty.T]; omega) | (simp only [beq_iff_eq, bne_iff_ne, ne_eq, decide_eq_true_eq, Ty.T]; omega))), wsucc i (by omega)]
  · simp only [f_ref21_Confs.l1, f_ref21_Confs.b1]
    rw [if_neg (by (first | omega | (dsimp only [Ty.T]; omega) | (simp only [decide_eq_true_eq, decide_eq_false_iff_not, Bool.not_eq_true, Ty.T]; omega) | (simp only [decide_eq_true_eq, decide_eq_false_iff_not, Ty.T]; omega) | (simp only [beq_iff_eq, bne_iff_ne, ne_eq, decide_eq_true_eq, Ty.T]; omega)))]
structure BigC (cs : List (List (List Rl))) (peers : List T23b6.T) (queue done undone : List Int) (given : List T713d.T) : Prop where
  c : cs.length < 1000
  p : peers.length < 1000
  q : queue.length < 1000
  g : given.length < 1000
  d : done.length < 1000
  u : undone.length < 1000
  r : ∀ x ∈ cs, x.length < 1000 ∧ ∀ l ∈ x, l.length < 1000
  o : ∀ y ∈ peers, y.2.2.2.2.length < 1000
abbrev BigOf (c : Ct) : Prop := BigC c.1 c.2.2.2.2.2.2.2.2.1 c.2.2.2.2.2.2.2.1 c.2.2.2.2.2.2.2.2.2.2.1 c.2.2.2.2.2.2.2.2.2.2.2.1 c.2.2.2.2.2.2.2.2.2.1
theorem FewC.big {cs : List (List (List Rl))} {peers : List T23b6.T} {queue done undone : List Int} {given : List T713d.T} (h : FewC cs peers queue done undone given) : BigC cs peers queue done undone given := ⟨by have := h.c; omega, by have := h.p; omega, by have := h.q; omega, by have := h.g; omega, by have := h.d; omega, by have := h.u; omega, fun x hx => ⟨by have := (h.r x hx).1; omega, fun l hl => by have := (h.r x hx).2 l hl; omega⟩, fun y hy => by have := h.o y hy; omega⟩
theorem same_big (c : Ct) (h : BigOf c) : f_ref21_Same.f 1000 c c = some (true, ()) := by
  have b : ∀ x : Int, (x == x) = true := fun x => beq_iff_eq.2 rfl
  unfold f_ref21_Same.f
  rw [confs_refl _ h.c h.r, Option.bind_some, peers_refl _ h.p h.o, Option.bind_some, given_refl _ h.g, Option.bind_some, ints_refl _ h.q, Option.bind_some, ints_refl _ h.d, Option.bind_some, ints_refl _ h.u, Option.bind_some]
  unfold f_ref21_Same.j2 f_ref21_Same.j1
  rw [if_pos (b _), if_pos (b _), if_pos (b _), if_pos (b _), if_pos (b _), b, b]
  rfl
theorem ref_two (k : Nat) (c : Ct) : f_ref21_two.f k c = some (two c.2.2.2.2.2.1, ()) := by
  unfold f_ref21_two.f two
  by_cases h1 : c.2.2.2.2.2.1 = (1 : Int)
  · rw [if_pos (beq_iff_eq.2 h1), h1]; rfl
  · rw [if_neg (by rw [beq_iff_eq]; exact h1), beq_eq_false_iff_ne.2 h1]
    by_cases h2 : c.2.2.2.2.2.1 = (2 : Int)
    · rw [if_pos (beq_iff_eq.2 h2), h2]; rfl
    · rw [if_neg (by rw [beq_iff_eq]; exact h2), beq_eq_false_iff_ne.2 h2]; rfl
theorem ref_at (k : Nat) (x : List (List Rl)) (sw : Int) (h : ∀ l ∈ x, l.length ≤ 1000) : f_ref12_At.f k x sw = some (rulesAt x sw, ()) := by
  unfold f_ref12_At.f f_ref12_At.j1 rulesAt
  by_cases h0 : sw < 0
  · rw [decide_eq_true h0, if_pos rfl, if_pos rfl, if_neg (by omega)]
  · rw [decide_eq_false h0, if_neg Bool.false_ne_true]
    by_cases h1 : sw < (x.length : Int)
    · have hm := h _ (att_mem (e := .slice T1383) x (by omega) h1)
      rw [decide_eq_false (by omega), if_neg Bool.false_ne_true, if_pos (by omega), if_pos h1, if_pos (by omega), if_pos (by omega)]
    · rw [decide_eq_true (by omega), if_pos rfl, if_neg (by omega)]
theorem ref_spush (k : Nat) (S : Ss) (m : Mg) (h : S.2.2.length < 1000000) : f_ref15_Push.f k S m = f_sess_Push.f k S m := by
  unfold f_ref15_Push.f f_sess_Push.f
  rw [own_s k _ _ _ _ _ h, Option.bind_some]
  dsimp only
  by_cases h1 : S.2.1 > (1048576 : Int)
  · rw [if_pos (decide_eq_true h1), if_pos (decide_eq_true h1)]
  · rw [if_neg (by rw [decide_eq_false h1]; exact Bool.false_ne_true), if_pos (by omega), if_pos (by omega), if_neg (by rw [decide_eq_false h1]; exact Bool.false_ne_true)]
theorem ref_adds (tag : Int) (rs : List Rl) (h : rs.length < 900) : f_ref20_Adds.f 1000 tag rs = some (addsOf tag rs, ()) := by
  unfold f_ref20_Adds.f
  have ha : ∀ i, (addsOf tag (rs.take i)).length ≤ i := fun i => by unfold addsOf; rw [List.length_map, List.length_take]; omega
  refine loop (fun m i => f_ref20_Adds.l1 1000 m tag rs (i : Int) (addsOf tag (rs.take i))) rs.length _ (fun m i hi => ?_) (fun m => ?_) 1000 (by omega)
  · have := ha i
    simp only [f_ref20_Adds.l1, f_ref20_Adds.b1]
    rw [if_pos (by (first | omega | (dsimp only [Ty.T]; omega) | (simp only [decide_eq_true_eq, decide_eq_false_iff_not, Bool.not_eq_true, Ty.T]; omega) | (simp only [decide_eq_true_eq, decide_eq_false_iff_not, Ty.T]; omega) | (simp only [beq_iff_eq, bne_iff_ne, ne_eq, decide_eq_true_eq, Ty.T]; omega))), if_pos (by omega), if_pos (by omega), if_pos (by omega), att_n (e := T1383) rs i hi, wsucc i (by omega)]
    unfold addsOf
    rw [List.take_succ_eq_append_getElem hi, List.map_append]
    rfl
  · simp only [f_ref20_Adds.l1, f_ref20_Adds.b1]
    rw [if_neg (by (first | omega | (dsimp only [Ty.T]; omega) | (simp only [decide_eq_true_eq, decide_eq_false_iff_not, Bool.not_eq_true, Ty.T]; omega) | (simp only [decide_eq_true_eq, decide_eq_false_iff_not, Ty.T]; omega) | (simp only [beq_iff_eq, bne_iff_ne, ne_eq, decide_eq_true_eq, Ty.T]; omega))), List.take_length]
theorem next_dec (n : Nat) (next : Int) (t : Bool) : ((next == -1 && !t) || inR n next) = ((decide (next ≥ -1) && decide (next < (n : Int))) && (!t || decide (next ≥ 0))) := by
  unfold inR
  rw [Bool.eq_iff_iff]
  simp only [Bool.or_eq_true, Bool.and_eq_true, beq_iff_eq, decide_eq_true_eq, Bool.not_eq_true']
  constructor
  · rintro (⟨h1, h⟩ | ⟨h1, h2⟩)
    · exact ⟨⟨by omega, by omega⟩, .inl h⟩
    · exact ⟨⟨by omega, h2⟩, .inr h1⟩
  · rintro ⟨⟨h1, h2⟩, h3 | h3⟩
    · by_cases e : next = -1
      · exact .inl ⟨e, h3⟩
      · exact .inr ⟨by omega, h2⟩
    · exact .inr ⟨h3, h2⟩
theorem ref_may (c : Ct) (h : FewOf c) : f_ref21_May.f 1000 c = some (isC c, ()) := by
  obtain ⟨cs, live, next, tag, new, ph, timer, queue, peers, given, done, undone, junk⟩ := c
  have hq : queue.length ≤ 100 := h.q
  have hL : ∀ p1 p2 p3, f_ref21_May.l1 (cs, live, next, tag, new, ph, timer, queue, peers, given, done, undone, junk) 1000 1000 p1 p2 p3 0 = some (!queue.any (fun q => !inR cs.length q) && (p1 && (p2 && ((!p3 || decide (next ≥ (0 : Int))) && decide ((peers.length : Int) ≤ 100)))), ()) := by
    intro p1 p2 p3
    have hle : queue.findIdx (fun q => !inR cs.length q) ≤ queue.length := List.findIdx_le_length
    refine loop (fun m i => f_ref21_May.l1 (cs, live, next, tag, new, ph, timer, queue, peers, given, done, undone, junk) 1000 m p1 p2 p3 (i : Int)) (queue.findIdx (fun q => !inR cs.length q)) _ (fun m i hi => ?_) (fun m => ?_) 1000 (by omega)
    · have hl : i < queue.length := by omega
      have hn : (!inR cs.length queue[i]) = false := fi_not (p := fun q => !inR cs.length q) hi hl
      have hr : 0 ≤ queue[i] ∧ queue[i] < (cs.length : Int) := inR_iff.1 (by simpa using hn)
      simp only [f_ref21_May.l1, f_ref21_May.b1, f_ref21_May.j2]
      rw [if_pos (by (first | omega | (dsimp only [Ty.T]; omega) | (simp only [decide_eq_true_eq, decide_eq_false_iff_not, Bool.not_eq_true, Ty.T]; omega) | (simp only [decide_eq_true_eq, decide_eq_false_iff_not, Ty.T]; omega) | (simp only [beq_iff_eq, bne_iff_ne, ne_eq, decide_eq_true_eq, Ty.T]; omega))), if_pos (by omega), if_pos (by omega), att_n (e := .int .i64) queue i hl, if_neg (by rw [decide_eq_false (Int.not_lt.2 hr.1)]; exact Bool.false_ne_true), decide_eq_false (Int.not_le.2 hr.2), if_neg Bool.false_ne_true, wsucc i (by omega)]
    · simp only [f_ref21_May.l1, f_ref21_May.b1, f_ref21_May.j2]
      by_cases hl : queue.findIdx (fun q => !inR cs.length q) < queue.length
      · have hy := List.findIdx_getElem (w := hl)
        have hany : queue.any (fun q => !inR cs.length q) = true := List.any_eq_true.2 ⟨_, List.getElem_mem hl, hy⟩
        rw [if_pos (by (first | omega | (dsimp only [Ty.T]; omega) | (simp only [decide_eq_true_eq, decide_eq_false_iff_not, Bool.not_eq_true, Ty.T]; omega) | (simp only [decide_eq_true_eq, decide_eq_false_iff_not, Ty.T]; omega) | (simp only [beq_iff_eq, bne_iff_ne, ne_eq, decide_eq_true_eq, Ty.T]; omega))), if_pos (by omega), if_pos (by omega), att_n (e := .int .i64) queue _ hl, hany]
        generalize queue[queue.findIdx (fun q => !inR cs.length q)] = z at hy
        have hy2 : inR cs.length z = false := by simpa using hy
        by_cases hz : z < (0 : Int)
        · rw [if_pos (decide_eq_true hz), if_pos trivial]; rfl
        · rw [if_neg (by rw [decide_eq_false hz]; exact Bool.false_ne_true)]
          have : z ≥ (cs.length : Int) := by
            have h1 : ¬ (0 ≤ z ∧ z < (cs.length : Int)) := fun k => by rw [inR_iff.2 k] at hy2; cases hy2
            exact Int.not_lt.1 fun k => h1 ⟨Int.not_lt.1 hz, k⟩
          rw [decide_eq_true this, if_pos rfl]; rfl
      · have hany : queue.any (fun q => !inR cs.length q) = false := by
          rw [Bool.eq_false_iff]
          intro hc
          obtain ⟨y, h1, h2⟩ := List.any_eq_true.1 hc
          exact hl (List.findIdx_lt_length_of_exists ⟨y, h1, h2⟩)
        rw [if_neg (by (first | omega | (dsimp only [Ty.T]; omega) | (simp only [decide_eq_true_eq, decide_eq_false_iff_not, Bool.not_eq_true, Ty.T]; omega) | (simp only [decide_eq_true_eq, decide_eq_false_iff_not, Ty.T]; omega) | (simp only [beq_iff_eq, bne_iff_ne, ne_eq, decide_eq_true_eq, Ty.T]; omega))), hany]
        cases p1
        · rfl
        cases p2
        · rfl
        cases p3
        · rfl
        · rw [if_pos rfl, if_pos rfl, if_neg (by decide)]
          by_cases hx : next ≥ (0 : Int)
          · rw [if_pos (decide_eq_true hx), decide_eq_true hx]; rfl
          · rw [if_neg (by rw [decide_eq_false hx]; exact Bool.false_ne_true), decide_eq_false hx]; rfl
  unfold f_ref21_May.f f_ref21_May.j4 f_ref21_May.j3
  simp only [ref_two, Option.bind_some, hL]
  unfold isC isB
  have e1 : inR cs.length live = (decide (live ≥ 0) && decide (live < (cs.length : Int))) := by unfold inR; rw [← Bool.decide_and]
  have e2 := next_dec cs.length next (two ph)
  dsimp only
  rw [e1, e2]
  generalize decide (live ≥ 0) = b1
  generalize decide (live < (cs.length : Int)) = b2
  generalize decide (next ≥ -1) = b3
  generalize decide (next < (cs.length : Int)) = b4
  generalize two ph = b5
  generalize decide (next ≥ 0) = b6
  generalize queue.any (fun q => !inR cs.length q) = b7
  generalize decide ((peers.length : Int) ≤ 100) = b8
  cases b1 <;> cases b2 <;> cases b3 <;> cases b4 <;> cases b5 <;> cases b6 <;> cases b7 <;> cases b8 <;> rfl
theorem ref_live (c : Ct) (h : FewOf c) (sw : Int) : f_ref21_Live.f 1000 c sw = some (if isC c = true then (lvC c sw, (stC c, ())) else ([], (0, ()))) := by
  have hb : ∀ x ∈ c.1, ∀ l ∈ x, l.length ≤ 1000 := fun x hx l hl => by have := (h.r x hx).2 l hl; omega
  unfold f_ref21_Live.f
  rw [ref_may c h, Option.bind_some]
  by_cases hc : ¬ isC c = true
  · rw [if_neg hc, if_pos (by rw [Bool.eq_false_iff.2 hc]; rfl)]
  replace hc := Decidable.not_not.1 hc
  have hq : isB c.1.length c.2.1 c.2.2.1 c.2.2.2.2.2.1 c.2.2.2.2.2.2.2.1 c.2.2.2.2.2.2.2.2.1.length = true := hc
  have hl := isB_live hq
  rw [if_pos hc, if_neg (by rw [hc]; decide), if_pos hl.1, if_pos hl.2, ref_at 1000 _ _ (hb _ (att_mem (e := .slice (.slice T1383)) c.1 hl.1 hl.2)), Option.bind_some, ref_two, Option.bind_some]
  unfold lvC lvs stC stampOf
  by_cases ht : two c.2.2.2.2.2.1 = true
  · have hn := isB_next hq ht
    rw [if_pos ht, if_pos ht, if_pos hn.1, if_pos hn.2, ref_at 1000 _ _ (hb _ (att_mem (e := .slice (.slice T1383)) c.1 hn.1 hn.2)), Option.bind_some]
    by_cases hlt : c.2.2.2.2.1 < c.2.2.2.1
    · rw [if_pos (decide_eq_true hlt), if_pos hlt]
      unfold f_ref21_Live.j2 f_ref21_Live.j1 f_ref21_Live.j5 f_ref21_Live.j7
      by_cases h2 : c.2.2.2.2.2.1 = (2 : Int)
      · rw [if_pos (beq_iff_eq.2 h2), if_pos rfl, if_pos (.inl h2)]; rfl
      · rw [if_neg (by rw [beq_iff_eq]; exact h2)]
        by_cases h3 : c.2.2.2.2.2.1 = (3 : Int)
        · rw [beq_iff_eq.2 h3, if_pos rfl, if_pos (.inr h3)]; rfl
        · rw [beq_eq_false_iff_ne.2 h3, if_neg Bool.false_ne_true, if_neg (fun k => k.elim h2 h3)]; rfl
    · rw [if_neg (by rw [decide_eq_false hlt]; exact Bool.false_ne_true), if_neg hlt]
      unfold f_ref21_Live.j3 f_ref21_Live.j4 f_ref21_Live.j6 f_ref21_Live.j8
      by_cases h2 : c.2.2.2.2.2.1 = (2 : Int)
      · rw [if_pos (beq_iff_eq.2 h2), if_pos rfl, if_pos (.inl h2)]
      · rw [if_neg (by rw [beq_iff_eq]; exact h2)]
        by_cases h3 : c.2.2.2.2.2.1 = (3 : Int)
        · rw [beq_iff_eq.2 h3, if_pos rfl, if_pos (.inr h3)]
        · rw [beq_eq_false_iff_ne.2 h3, if_neg Bool.false_ne_true, if_neg (fun k => k.elim h2 h3)]
  · rw [if_neg ht, if_neg ht]
    unfold f_ref21_Live.j2 f_ref21_Live.j1 f_ref21_Live.j5 f_ref21_Live.j7
    by_cases h2 : c.2.2.2.2.2.1 = (2 : Int)
    · rw [if_pos (beq_iff_eq.2 h2), if_pos rfl, if_pos (.inl h2)]
    · rw [if_neg (by rw [beq_iff_eq]; exact h2)]
      by_cases h3 : c.2.2.2.2.2.1 = (3 : Int)
      · rw [beq_iff_eq.2 h3, if_pos rfl, if_pos (.inr h3)]
      · rw [beq_eq_false_iff_ne.2 h3, if_neg Bool.false_ne_true, if_neg (fun k => k.elim h2 h3)]
theorem push_tot2 (S : Ss) (ms : List Mg) (h : S.2.2.length ≤ 100) (hm : ms.length ≤ 200) : ∃ S', f_plan_Push.f 1000 S ms = some (S', ()) ∧ S'.2.2.length ≤ 100 + ms.length ∧ f_ref20_Push.f 1000 S ms = some (S', ()) := by
  unfold f_plan_Push.f f_ref20_Push.f
  rw [done_eq 1000 S _ _ (by omega) (by omega), Option.bind_some]
  have hd : sdone S (IntKind.i64.wrap (S.1 - 1)) 0 = S := by
    unfold sdone
    rw [if_neg (wrap_pred S.1)]
  rw [hd]
  have key : ∀ d i m (s : Ss), i + d = ms.length → d < m → s.2.2.length ≤ 100 + i → ∃ S', f_plan_Push.l1 1000 m ms (ms.length : Int) (i : Int) s 0 0 = some (S', ()) ∧ S'.2.2.length ≤ 100 + ms.length ∧ f_ref20_Push.l1 1000 m ms (i : Int) s 0 0 = some (S', ()) := by
    intro d
    induction d with
    | zero =>
      intro i m s hi hm hs
      obtain ⟨m, rfl⟩ : ∃ m', m = m' + 1 := ⟨m - 1, by omega⟩
      simp only [f_plan_Push.l1, f_plan_Push.b1, f_plan_Push.j2, f_ref20_Push.l1, f_ref20_Push.b1]
      rw [if_neg (by (first | omega | (dsimp only [Ty.T]; omega) | (simp only [decide_eq_true_eq, decide_eq_false_iff_not, Bool.not_eq_true, Ty.T]; omega) | (simp only [decide_eq_true_eq, decide_eq_false_iff_not, Ty.T]; omega) | (simp only [beq_iff_eq, bne_iff_ne, ne_eq, decide_eq_true_eq, Ty.T]; omega))), if_neg (by (first | omega | (dsimp only [Ty.T]; omega) | (simp only [decide_eq_true_eq, decide_eq_false_iff_not, Bool.not_eq_true, Ty.T]; omega) | (simp only [decide_eq_true_eq, decide_eq_false_iff_not, Ty.T]; omega) | (simp only [beq_iff_eq, bne_iff_ne, ne_eq, decide_eq_true_eq, Ty.T]; omega)))]
      exact ⟨s, rfl, by omega, rfl⟩
    | succ d ih =>
      intro i m s hi hm hs
      obtain ⟨m, rfl⟩ : ∃ m', m = m' + 1 := ⟨m - 1, by omega⟩
      simp only [f_plan_Push.l1, f_plan_Push.b1, f_plan_Push.j2, f_ref20_Push.l1, f_ref20_Push.b1]
      rw [if_pos (by (first | omega | (dsimp only [Ty.T]; omega) | (simp only [decide_eq_true_eq, decide_eq_false_iff_not, Bool.not_eq_true, Ty.T]; omega) | (simp only [decide_eq_true_eq, decide_eq_false_iff_not, Ty.T]; omega) | (simp only [beq_iff_eq, bne_iff_ne, ne_eq, decide_eq_true_eq, Ty.T]; omega))), if_pos (by omega), if_pos (by omega), if_pos (by (first | omega | (dsimp only [Ty.T]; omega) | (simp only [decide_eq_true_eq, decide_eq_false_iff_not, Bool.not_eq_true, Ty.T]; omega) | (simp only [decide_eq_true_eq, decide_eq_false_iff_not, Ty.T]; omega) | (simp only [beq_iff_eq, bne_iff_ne, ne_eq, decide_eq_true_eq, Ty.T]; omega))), if_pos (by omega), if_pos (by omega), wsucc i (by omega), ref_spush 1000 _ _ (by omega)]
      obtain ⟨S', e, h1, h2⟩ := push_any s (att T4414 ms (i : Int)) (by omega)
      rw [h1, Option.bind_some, Option.bind_some]
      dsimp only
      by_cases he : (e != 0) = true
      · rw [if_pos he, if_pos he]
        exact ⟨s, rfl, by omega, rfl⟩
      · rw [if_neg he, if_neg he]
        exact ih (i + 1) m S' (by omega) (by omega) (by omega)
  exact key ms.length 0 1000 S (by omega) (by omega) (by omega)
def unS (o : Option f_plan_Push.R) : Ss := match o with
  | some y => y.1
  | none => (0, (0, []))
noncomputable def pushF (S : Ss) (ms : List Mg) : Ss := unS (f_plan_Push.f 1000 S ms)
theorem pushF_ok (S : Ss) (ms : List Mg) (h : S.2.2.length ≤ 100) (hm : ms.length ≤ 200) : f_plan_Push.f 1000 S ms = some (pushF S ms, ()) ∧ (pushF S ms).2.2.length ≤ 100 + ms.length ∧ f_ref20_Push.f 1000 S ms = some (pushF S ms, ()) := by
  obtain ⟨S', h1, h2, h3⟩ := push_tot2 S ms h hm
  have e : pushF S ms = S' := by unfold pushF; rw [h1]; rfl
  rw [e]
  exact ⟨h1, h2, h3⟩
abbrev Pr := T23b6.T
noncomputable def tellR (xs : List Pr) (ms : Nat → List Mg) : List Pr := xs.mapIdx fun i p => (p.1, (p.2.1, pushF p.2.2 (ms i)))
theorem tellR_len (xs : List Pr) (ms : Nat → List Mg) : (tellR xs ms).length = xs.length := List.length_mapIdx
theorem tellR_at (xs : List Pr) (ms : Nat → List Mg) (i : Nat) (h : i < xs.length) : (tellR xs ms)[i]'(by rw [tellR_len]; exact h) = (xs[i].1, (xs[i].2.1, pushF xs[i].2.2 (ms i))) := by
  unfold tellR; rw [List.getElem_mapIdx]
theorem tellR_mem {xs : List Pr} {ms : Nat → List Mg} (ho : ∀ y ∈ xs, y.2.2.2.2.length ≤ 100) (hm : ∀ i, (ms i).length ≤ 200) : ∀ y ∈ tellR xs ms, y.2.2.2.2.length < 1000 := by
  intro y hy
  obtain ⟨i, hi, rfl⟩ := List.getElem_of_mem hy
  have hi' : i < xs.length := by rw [tellR_len] at hi; exact hi
  rw [tellR_at xs ms i hi']
  have h1 := (pushF_ok xs[i].2.2 (ms i) (ho _ (List.getElem_mem hi')) (hm i)).2.1
  have h2 := hm i
  dsimp only
  omega
theorem tell_loop {R : Type} (B : Nat → Nat → List Pr → Option R) (g : List Pr → Option R) (xs : List Pr) (ms : Nat → List Mg)
    (step : ∀ m i s, (hi : i < xs.length) → s.length = xs.length → att T23b6 s (i : Int) = xs[i] → B (m + 1) i s = B m (i + 1) (s.set i (xs[i].1, (xs[i].2.1, pushF xs[i].2.2 (ms i))))) (fin : ∀ m s, s.length = xs.length → B (m + 1) xs.length s = g s) (m : Nat) (hm : xs.length < m) : B m 0 xs = g (tellR xs ms) := by
  have key : ∀ d i m, i + d = xs.length → d < m → B m i ((tellR xs ms).take i ++ xs.drop i) = g (tellR xs ms) := by
    intro d
    induction d with
    | zero =>
      intro i m h hm
      obtain rfl : i = xs.length := by omega
      obtain ⟨m, rfl⟩ : ∃ m', m = m' + 1 := ⟨m - 1, by omega⟩
      rw [List.drop_length, List.append_nil, List.take_of_length_le (by rw [tellR_len]; exact Nat.le_refl _)]
      exact fin m _ (tellR_len _ _)
    | succ d ih =>
      intro i m h hm
      obtain ⟨m, rfl⟩ : ∃ m', m = m' + 1 := ⟨m - 1, by omega⟩
      have hi : i < xs.length := by omega
      have hl : ((tellR xs ms).take i).length = i := by rw [List.length_take, tellR_len]; omega
      have hs : ((tellR xs ms).take i ++ xs.drop i).length = xs.length := by rw [List.length_append, hl, List.length_drop]; omega
      have hat : att T23b6 ((tellR xs ms).take i ++ xs.drop i) (i : Int) = xs[i] := by
        rw [att_n (e := T23b6) _ i (by rw [hs]; exact hi)]
        have : ((tellR xs ms).take i ++ xs.drop i)[i]? = some xs[i] := by
          rw [List.getElem?_append_right (by omega), hl, Nat.sub_self, List.getElem?_drop, Nat.add_zero, List.getElem?_eq_getElem hi]
        exact Option.some.inj ((List.getElem?_eq_getElem (by rw [hs]; exact hi)).symm.trans this)
      rw [step m i _ hi hs hat, ← ih (i + 1) m (by omega) (by omega)]
      congr 1
      rw [List.set_append_right i _ (by omega), hl, Nat.sub_self, List.drop_eq_getElem_cons hi, List.set_cons_zero, List.take_succ_eq_append_getElem (by rw [tellR_len]; exact hi), tellR_at xs ms i hi, List.append_assoc]
      rfl
  have := key xs.length 0 m (by omega) hm
  simpa using this
def mgK (kind tag : Int) : Mg := (kind, (0, (0, (tag, ((0, 0), (0, (0, (0, 0))))))))
theorem ref_tell (c : Ct) (m : Mg) (hp : c.2.2.2.2.2.2.2.2.1.length ≤ 12) (ho : ∀ y ∈ c.2.2.2.2.2.2.2.2.1, y.2.2.2.2.length ≤ 100) : f_ref21_tell.f 1000 c m = some (withP c (tellR c.2.2.2.2.2.2.2.2.1 fun _ => [m]), ()) := by
  unfold f_ref21_tell.f
  rw [if_pos (by omega)]
  refine tell_loop (fun k i s => f_ref21_tell.l1 c m 1000 k (i : Int) 0 0 0 0 0 0 0 s) (fun s => some (withP c s, ())) c.2.2.2.2.2.2.2.2.1 (fun _ => [m]) (fun k i s hi hs ha => ?_) (fun k s hs => ?_) 1000 (by omega)
  · have h1 := pushF_ok c.2.2.2.2.2.2.2.2.1[i].2.2 [m] (ho _ (List.getElem_mem hi)) (by simp)
    simp only [f_ref21_tell.l1, f_ref21_tell.b1]
    rw [if_pos (by (first | omega | (dsimp only [Ty.T]; omega) | (simp only [decide_eq_true_eq, decide_eq_false_iff_not, Bool.not_eq_true, Ty.T]; omega) | (simp only [decide_eq_true_eq, decide_eq_false_iff_not, Ty.T]; omega) | (simp only [beq_iff_eq, bne_iff_ne, ne_eq, decide_eq_true_eq, Ty.T]; omega))), if_pos (by omega), if_pos (by omega), ha, h1.2.2, Option.bind_some, wsucc i (by omega), Int.toNat_natCast]
  · simp only [f_ref21_tell.l1, f_ref21_tell.b1]
    rw [if_neg (by (first | omega | (dsimp only [Ty.T]; omega) | (simp only [decide_eq_true_eq, decide_eq_false_iff_not, Bool.not_eq_true, Ty.T]; omega) | (simp only [decide_eq_true_eq, decide_eq_false_iff_not, Ty.T]; omega) | (simp only [beq_iff_eq, bne_iff_ne, ne_eq, decide_eq_true_eq, Ty.T]; omega)))]
    rfl
theorem ref_ready (c : Ct) (hp : c.2.2.2.2.2.2.2.2.1.length ≤ 12) : f_ref21_allDone.f 1000 c = some (!c.2.2.2.2.2.2.2.2.1.any busyP, ()) := by
  unfold f_ref21_allDone.f
  have hle : c.2.2.2.2.2.2.2.2.1.findIdx busyP ≤ c.2.2.2.2.2.2.2.2.1.length := List.findIdx_le_length
  refine loop (fun m i => f_ref21_allDone.l1 c 1000 m (i : Int)) (c.2.2.2.2.2.2.2.2.1.findIdx busyP) _ (fun m i hi => ?_) (fun m => ?_) 1000 (by omega)
  · have hl : i < c.2.2.2.2.2.2.2.2.1.length := by omega
    have hn : busyP c.2.2.2.2.2.2.2.2.1[i] = false := fi_not hi hl
    simp only [f_ref21_allDone.l1, f_ref21_allDone.b1, f_ref21_allDone.j2]
    rw [if_pos (by (first | omega | (dsimp only [Ty.T]; omega) | (simp only [decide_eq_true_eq, decide_eq_false_iff_not, Bool.not_eq_true, Ty.T]; omega) | (simp only [decide_eq_true_eq, decide_eq_false_iff_not, Ty.T]; omega) | (simp only [beq_iff_eq, bne_iff_ne, ne_eq, decide_eq_true_eq, Ty.T]; omega))), if_pos (by omega), if_pos (by omega), att_n (e := T23b6) _ i hl, wsucc i (by omega)]
    unfold busyP at hn
    rw [Bool.or_eq_false_iff] at hn
    rw [hn.1, if_neg Bool.false_ne_true, hn.2, if_neg Bool.false_ne_true]
  · simp only [f_ref21_allDone.l1, f_ref21_allDone.b1, f_ref21_allDone.j2]
    by_cases hl : c.2.2.2.2.2.2.2.2.1.findIdx busyP < c.2.2.2.2.2.2.2.2.1.length
    · have hy := List.findIdx_getElem (w := hl)
      have hany : c.2.2.2.2.2.2.2.2.1.any busyP = true := List.any_eq_true.2 ⟨_, List.getElem_mem hl, hy⟩
      rw [if_pos (by (first | omega | (dsimp only [Ty.T]; omega) | (simp only [decide_eq_true_eq, decide_eq_false_iff_not, Bool.not_eq_true, Ty.T]; omega) | (simp only [decide_eq_true_eq, decide_eq_false_iff_not, Ty.T]; omega) | (simp only [beq_iff_eq, bne_iff_ne, ne_eq, decide_eq_true_eq, Ty.T]; omega))), if_pos (by omega), if_pos (by omega), att_n (e := T23b6) _ _ hl, hany]
      unfold busyP at hy
      by_cases h1 : decide (c.2.2.2.2.2.2.2.2.1[c.2.2.2.2.2.2.2.2.1.findIdx busyP].1 ≤ (0 : Int)) = true
      · have h1' : decide ((c.2.2.2.2.2.2.2.2.1[c.2.2.2.2.2.2.2.2.1.findIdx busyP]).1 ≤ (0 : Int)) = true := h1
        rw [if_pos h1', if_pos trivial]; rfl
      · have h1' : ¬ decide ((c.2.2.2.2.2.2.2.2.1[c.2.2.2.2.2.2.2.2.1.findIdx busyP]).1 ≤ (0 : Int)) = true := h1
        rw [if_neg h1']
        have h2 : decide (((c.2.2.2.2.2.2.2.2.1[c.2.2.2.2.2.2.2.2.1.findIdx busyP]).2.2.2.2.length : Int) > (0 : Int)) = true := by
          rcases Bool.or_eq_true _ _ ▸ hy with h | h
          · exact absurd h h1'
          · exact h
        rw [h2, if_pos rfl]; rfl
    · have hany : c.2.2.2.2.2.2.2.2.1.any busyP = false := by
        rw [Bool.eq_false_iff]
        intro hc
        obtain ⟨y, h1, h2⟩ := List.any_eq_true.1 hc
        exact hl (List.findIdx_lt_length_of_exists ⟨y, h1, h2⟩)
      rw [if_neg (by (first | omega | (dsimp only [Ty.T]; omega) | (simp only [decide_eq_true_eq, decide_eq_false_iff_not, Bool.not_eq_true, Ty.T]; omega) | (simp only [decide_eq_true_eq, decide_eq_false_iff_not, Ty.T]; omega) | (simp only [beq_iff_eq, bne_iff_ne, ne_eq, decide_eq_true_eq, Ty.T]; omega))), hany]; rfl
theorem next_nil (tag : Int) : f_tags_Next.nextSpec tag [] = if tag < 1 then 1 else if tag ≥ 4095 then 1 else tag + 1 := by
  have h0 : f_tags_Next.candN (f_tags_Next.frOf tag) 0 = if tag < 1 then 1 else if tag ≥ 4095 then 1 else tag + 1 := by
    unfold f_tags_Next.candN f_tags_Next.frOf
    split <;> split <;> (try split) <;> omega
  rw [← h0]
  refine f_tags_Next.nextSpec_found (by decide) (fun j hj => absurd hj (Nat.not_lt_zero j)) ?_
  rw [h0]
  intro hm
  rw [List.nil_append, List.mem_singleton] at hm
  split at hm
  · omega
  · split at hm <;> omega
theorem ref_next (tag : Int) : f_ref16_Next.f 1000 tag [] = some (f_tags_Next.nextSpec tag [], ()) := by
  rw [next_nil]
  have hin : ∀ x, f_ref16_in.f 1000 [] x = some (false, ()) := fun x => rfl
  unfold f_ref16_Next.f
  have hb : ∀ m, f_ref16_Next.l1 1000 (m + 1) tag [] tag 0 = f_ref16_Next.b1 (f_ref16_Next.l1 1000 m) 1000 tag [] tag 0 := fun _ => rfl
  rw [hb 999]
  generalize f_ref16_Next.l1 1000 999 = L
  unfold f_ref16_Next.b1 f_ref16_Next.j3 f_ref16_Next.j4 f_ref16_Next.j2
  simp only [hin, Option.bind_some]
  rw [if_pos (by decide)]
  by_cases h1 : tag < 1
  · rw [if_pos (decide_eq_true h1), if_pos trivial, if_pos (by rw [bne_iff_ne]; exact fun e => by omega), if_pos (by rfl), if_pos h1]
  · rw [if_neg (by rw [decide_eq_false h1]; exact Bool.false_ne_true), if_neg h1]
    by_cases h2 : tag ≥ 4095
    · rw [if_pos (decide_eq_true h2), if_pos (by rw [bne_iff_ne]; exact fun e => by omega), if_pos (by rfl), if_pos h2]
    · rw [if_neg (by rw [decide_eq_false h2]; exact Bool.false_ne_true), if_neg h2]
      have hw : IntKind.i64.wrap (tag + 1) = tag + 1 := by rw [IntKind.wrap_i64]; omega
      rw [hw, if_pos (by rw [bne_iff_ne]; exact fun e => by omega), if_pos (by rfl)]
theorem ti_control_controller_idle_1_0c7 (x1 : Int) (x2 : T26b3.T) (x3 : Int) (x4 : Int) (x5 : Int) (x6 : Int) (x7 : Int) (x8 : Int) (x9 : Int) (x10 : Int) (x11 : Int) (x12 : Int) (x13 : Int) (x14 : Int) (x15 : Int) (x16 : List Int) (x17 : Int) (x18 : List (List (List T1383.T))) (x19 : List T23b6.T) (x20 : List Int) (x21 : List Int) (x22 : List T713d.T) (h0 : 0 ≤ x11) (h1 : x11 < (x18.length : Int)) (hr : ∀ x ∈ x18, ∀ l ∈ x, l.length ≤ 60) : i_control_controller_idle_1_0c7.f 1000 x1 x2 x3 x4 x5 x6 x7 x8 x9 x10 x11 x12 x13 x14 x15 x16 x17 x18 x19 x20 x21 x22 = some (addsOf x13 (rulesAt (att (.slice (.slice T1383)) x18 x11) x1), ()) := by
  have hr2 := hr _ (att_mem (e := .slice (.slice T1383)) x18 h0 h1)
  unfold i_control_controller_idle_1_0c7.f
  rw [if_pos h0, if_pos h1, conf_at 1000 _ _ (fun l hl => by have := hr2 l hl; omega), Option.bind_some]
  have hl := rules_len _ x1 60 hr2
  dsimp only
  rw [adds_eq 1000 _ _ (by omega) (by omega), Option.bind_some]
theorem ti_control_controller_tell_107 (x1 : T26b3.T) (x2 : Int) (x3 : Int) (x4 : Int) (x5 : Int) (x6 : Int) (x7 : Int) (x8 : Int) (x9 : Int) (x10 : Int) (x11 : Int) (x12 : Int) (x13 : Int) (x14 : Int) (x15 : List Int) (x16 : Int) (x17 : List (List (List T1383.T))) (x18 : List T23b6.T) (x19 : List Int) (x20 : List Int) (x21 : List T713d.T) (hp : x18.length ≤ 12) (ho : ∀ y ∈ x18, y.2.2.2.2.length ≤ 100) (h0 : 0 ≤ x10) (h1 : x10 < (x17.length : Int)) (hr : ∀ x ∈ x17, ∀ l ∈ x, l.length ≤ 60) : i_control_controller_tell_107.f 1000 x1 x2 x3 x4 x5 x6 x7 x8 x9 x10 x11 x12 x13 x14 x15 x16 x17 x18 x19 x20 x21 = some (tellR x18 (fun i : Nat => addsOf x12 (rulesAt (att (.slice (.slice T1383)) x17 x10) (i : Int))), ()) := by
  unfold i_control_controller_tell_107.f
  have hm : ∀ i : Nat, ((fun i : Nat => addsOf x12 (rulesAt (att (.slice (.slice T1383)) x17 x10) (i : Int))) i).length ≤ 200 := fun i => by
    have hl := rules_len _ (i : Int) 60 (hr _ (att_mem (e := .slice (.slice T1383)) x17 h0 h1))
    dsimp only
    unfold addsOf
    rw [List.length_map]
    omega
  refine tell_loop (fun m i s => i_control_controller_tell_107.l1 x1 x2 x3 x4 x5 x6 x7 x8 x9 x10 x11 x12 x13 x14 x15 x16 x17 x19 x20 x21 1000 m (x18.length : Int) (i : Int) s) (fun s => some (s, ())) x18 (fun i : Nat => addsOf x12 (rulesAt (att (.slice (.slice T1383)) x17 x10) (i : Int))) (fun m i s hi hs ha => ?_) (fun m s hs => ?_) 1000 (by omega)
  · have hpu := pushF_ok x18[i].2.2 _ (ho _ (List.getElem_mem hi)) (hm i)
    dsimp only at hpu
    simp only [i_control_controller_tell_107.l1, i_control_controller_tell_107.b1]
    rw [if_pos (by (first | omega | (dsimp only [Ty.T]; omega) | (simp only [decide_eq_true_eq, decide_eq_false_iff_not, Bool.not_eq_true, Ty.T]; omega) | (simp only [decide_eq_true_eq, decide_eq_false_iff_not, Ty.T]; omega) | (simp only [beq_iff_eq, bne_iff_ne, ne_eq, decide_eq_true_eq, Ty.T]; omega))), if_pos (by omega), if_pos (by omega)]
    rw [ti_control_controller_idle_1_0c7 (h0 := h0) (h1 := h1) (hr := hr), Option.bind_some]
    rw [ha, hpu.1, Option.bind_some, wsucc i (by omega), Int.toNat_natCast]
  · simp only [i_control_controller_tell_107.l1, i_control_controller_tell_107.b1]
    rw [if_neg (by (first | omega | (dsimp only [Ty.T]; omega) | (simp only [decide_eq_true_eq, decide_eq_false_iff_not, Bool.not_eq_true, Ty.T]; omega) | (simp only [decide_eq_true_eq, decide_eq_false_iff_not, Ty.T]; omega) | (simp only [beq_iff_eq, bne_iff_ne, ne_eq, decide_eq_true_eq, Ty.T]; omega)))]
theorem ti_control_controller_tell_863 (x1 : T26b3.T) (x2 : Int) (x3 : Int) (x4 : Int) (x5 : Int) (x6 : Int) (x7 : Int) (x8 : Int) (x9 : Int) (x10 : Int) (x11 : Int) (x12 : Int) (x13 : Int) (x14 : Int) (x15 : Int) (x16 : List (List (List T1383.T))) (x17 : List Int) (x18 : List T23b6.T) (x19 : List T713d.T) (x20 : List Int) (x21 : List Int) (x22 : Int) (x23 : Int) (hp : x18.length ≤ 12) (ho : ∀ y ∈ x18, y.2.2.2.2.length ≤ 100) : i_control_controller_tell_863.f 1000 x1 x2 x3 x4 x5 x6 x7 x8 x9 x10 x11 x12 x13 x14 x15 x16 x17 x18 x19 x20 x21 x22 x23 = some (tellR x18 (fun _ : Nat => [mgK x22 x23]), ()) := by
  unfold i_control_controller_tell_863.f
  have hm : ∀ i : Nat, ((fun _ : Nat => [mgK x22 x23]) i).length ≤ 200 := fun i => by simp
  refine tell_loop (fun m i s => i_control_controller_tell_863.l1 x1 x2 x3 x4 x5 x6 x7 x8 x9 x10 x11 x12 x13 x14 x15 x16 x17 x19 x20 x21 x22 x23 1000 m (x18.length : Int) (i : Int) s) (fun s => some (s, ())) x18 (fun _ : Nat => [mgK x22 x23]) (fun m i s hi hs ha => ?_) (fun m s hs => ?_) 1000 (by omega)
  · have hpu := pushF_ok x18[i].2.2 _ (ho _ (List.getElem_mem hi)) (hm i)
    dsimp only at hpu
    simp only [i_control_controller_tell_863.l1, i_control_controller_tell_863.b1]
    rw [if_pos (by (first | omega | (dsimp only [Ty.T]; omega) | (simp only [decide_eq_true_eq, decide_eq_false_iff_not, Bool.not_eq_true, Ty.T]; omega) | (simp only [decide_eq_true_eq, decide_eq_false_iff_not, Ty.T]; omega) | (simp only [beq_iff_eq, bne_iff_ne, ne_eq, decide_eq_true_eq, Ty.T]; omega))), if_pos (by omega), if_pos (by omega)]
    unfold i_control_all_1_252.f
    rw [Option.bind_some]
    change (f_plan_Push.f 1000 (att T23b6 s (i : Int)).2.2 [mgK x22 x23]).bind _ = _
    rw [ha, hpu.1, Option.bind_some, wsucc i (by omega), Int.toNat_natCast]
  · simp only [i_control_controller_tell_863.l1, i_control_controller_tell_863.b1]
    rw [if_neg (by (first | omega | (dsimp only [Ty.T]; omega) | (simp only [decide_eq_true_eq, decide_eq_false_iff_not, Bool.not_eq_true, Ty.T]; omega) | (simp only [decide_eq_true_eq, decide_eq_false_iff_not, Ty.T]; omega) | (simp only [beq_iff_eq, bne_iff_ne, ne_eq, decide_eq_true_eq, Ty.T]; omega)))]
theorem ti_control_controller_tell_cd9 (x1 : T26b3.T) (x2 : Int) (x3 : Int) (x4 : Int) (x5 : Int) (x6 : Int) (x7 : Int) (x8 : Int) (x9 : Int) (x10 : Int) (x11 : Int) (x12 : Int) (x13 : Int) (x14 : Int) (x15 : Int) (x16 : List (List (List T1383.T))) (x17 : List Int) (x18 : List T23b6.T) (x19 : List T713d.T) (x20 : List Int) (x21 : List Int) (x22 : Int) (x23 : Int) (hp : x18.length ≤ 12) (ho : ∀ y ∈ x18, y.2.2.2.2.length ≤ 100) : i_control_controller_tell_cd9.f 1000 x1 x2 x3 x4 x5 x6 x7 x8 x9 x10 x11 x12 x13 x14 x15 x16 x17 x18 x19 x20 x21 x22 x23 = some (tellR x18 (fun _ : Nat => [mgK x22 x23]), ()) := by
  unfold i_control_controller_tell_cd9.f
  have hm : ∀ i : Nat, ((fun _ : Nat => [mgK x22 x23]) i).length ≤ 200 := fun i => by simp
  refine tell_loop (fun m i s => i_control_controller_tell_cd9.l1 x1 x2 x3 x4 x5 x6 x7 x8 x9 x10 x11 x12 x13 x14 x15 x16 x17 x19 x20 x21 x22 x23 1000 m (x18.length : Int) (i : Int) s) (fun s => some (s, ())) x18 (fun _ : Nat => [mgK x22 x23]) (fun m i s hi hs ha => ?_) (fun m s hs => ?_) 1000 (by omega)
  · have hpu := pushF_ok x18[i].2.2 _ (ho _ (List.getElem_mem hi)) (hm i)
    dsimp only at hpu
    simp only [i_control_controller_tell_cd9.l1, i_control_controller_tell_cd9.b1]
    rw [if_pos (by (first | omega | (dsimp only [Ty.T]; omega) | (simp only [decide_eq_true_eq, decide_eq_false_iff_not, Bool.not_eq_true, Ty.T]; omega) | (simp only [decide_eq_true_eq, decide_eq_false_iff_not, Ty.T]; omega) | (simp only [beq_iff_eq, bne_iff_ne, ne_eq, decide_eq_true_eq, Ty.T]; omega))), if_pos (by omega), if_pos (by omega)]
    unfold i_control_all_1_8b1.f
    rw [Option.bind_some]
    change (f_plan_Push.f 1000 (att T23b6 s (i : Int)).2.2 [mgK x22 x23]).bind _ = _
    rw [ha, hpu.1, Option.bind_some, wsucc i (by omega), Int.toNat_natCast]
  · simp only [i_control_controller_tell_cd9.l1, i_control_controller_tell_cd9.b1]
    rw [if_neg (by (first | omega | (dsimp only [Ty.T]; omega) | (simp only [decide_eq_true_eq, decide_eq_false_iff_not, Bool.not_eq_true, Ty.T]; omega) | (simp only [decide_eq_true_eq, decide_eq_false_iff_not, Ty.T]; omega) | (simp only [beq_iff_eq, bne_iff_ne, ne_eq, decide_eq_true_eq, Ty.T]; omega)))]
def ctl (cs : List (List (List Rl))) (live next tag new ph timer : Int) (queue : List Int) (peers : List T23b6.T) (given : List T713d.T) (done undone : List Int) (junk : Int) : Ct := (cs, (live, (next, (tag, (new, (ph, (timer, (queue, (peers, (given, (done, (undone, junk))))))))))))
noncomputable def tickC (cs : List (List (List Rl))) (live next tag new ph timer : Int) (queue : List Int) (peers : List T23b6.T) (given : List T713d.T) (done undone : List Int) (junk : Int) : Ct :=
  if isB cs.length live next ph queue peers.length = false then ctl cs live next tag new ph timer queue peers given done undone junk
  else if ph = 0 then
    (if queue.length = 0 ∨ peers.any busyP = true then ctl cs live next tag new ph timer queue peers given done undone junk
     else ctl cs live (att (.int .i64) queue 0) tag (f_tags_Next.nextSpec tag []) 1 timer (queue.drop 1) (tellR peers fun i => addsOf (f_tags_Next.nextSpec tag []) (rulesAt (att (.slice (.slice T1383)) cs (att (.int .i64) queue 0)) (i : Int))) (given ++ [(f_tags_Next.nextSpec tag [], att (.int .i64) queue 0)]) done undone junk)
  else if ph = 1 then
    (if peers.any (badP new) = true then ctl cs live (-1) tag 0 5 timer queue (tellR peers fun _ => [mgK 4 new]) given done (undone ++ [next]) junk
     else if peers.any busyP = true then ctl cs live next tag new ph timer queue peers given done undone junk
     else ctl cs live next tag new 2 timer queue (tellR peers fun _ => [mgK 3 new]) given done undone junk)
  else if ph = 2 then
    (if peers.any busyP = true then ctl cs live next tag new ph timer queue peers given done undone junk else ctl cs live next tag new 3 18 queue peers given done undone junk)
  else if ph = 3 then
    (if IntKind.i64.wrap (timer - 1) ≥ 1 then ctl cs live next tag new ph (IntKind.i64.wrap (timer - 1)) queue peers given done undone junk
     else ctl cs next (-1) new 0 4 (IntKind.i64.wrap (timer - 1)) queue (tellR peers fun _ => [mgK 4 tag]) given (done ++ [next]) undone junk)
  else if ph = 4 ∨ ph = 5 then
    (if peers.any busyP = true then ctl cs live next tag new ph timer queue peers given done undone junk else ctl cs live next tag new 0 timer queue peers given done undone junk)
  else ctl cs live next tag new ph timer queue peers given done undone junk
theorem tkNo {cs : List (List (List Rl))} {live next tag new ph timer : Int} {queue : List Int} {peers : List T23b6.T} {given : List T713d.T} {done undone : List Int} {junk : Int} (hq : isB cs.length live next ph queue peers.length = false) : tickC cs live next tag new ph timer queue peers given done undone junk = ctl cs live next tag new ph timer queue peers given done undone junk := by
  unfold tickC
  rw [if_pos hq]
theorem tkOut {cs : List (List (List Rl))} {live next tag new ph timer : Int} {queue : List Int} {peers : List T23b6.T} {given : List T713d.T} {done undone : List Int} {junk : Int} (hq : isB cs.length live next ph queue peers.length = true) (e : ph < 0 ∨ 6 ≤ ph) : tickC cs live next tag new ph timer queue peers given done undone junk = ctl cs live next tag new ph timer queue peers given done undone junk := by
  unfold tickC
  rw [if_neg (by rw [hq]; decide), if_neg (by omega), if_neg (by omega), if_neg (by omega), if_neg (by omega), if_neg (by omega)]
theorem tk0s {cs : List (List (List Rl))} {live next tag new ph timer : Int} {queue : List Int} {peers : List T23b6.T} {given : List T713d.T} {done undone : List Int} {junk : Int} (hq : isB cs.length live next ph queue peers.length = true) (e : ph = 0) (h : queue.length = 0 ∨ peers.any busyP = true) : tickC cs live next tag new ph timer queue peers given done undone junk = ctl cs live next tag new ph timer queue peers given done undone junk := by
  unfold tickC
  rw [if_neg (by rw [hq]; decide), if_pos e, if_pos h]
theorem tk0 {cs : List (List (List Rl))} {live next tag new ph timer : Int} {queue : List Int} {peers : List T23b6.T} {given : List T713d.T} {done undone : List Int} {junk : Int} (hq : isB cs.length live next ph queue peers.length = true) (e : ph = 0) (h : ¬ queue.length = 0) (b : ¬ peers.any busyP = true) : tickC cs live next tag new ph timer queue peers given done undone junk = ctl cs live (att (.int .i64) queue 0) tag (f_tags_Next.nextSpec tag []) 1 timer (queue.drop 1) (tellR peers fun i => addsOf (f_tags_Next.nextSpec tag []) (rulesAt (att (.slice (.slice T1383)) cs (att (.int .i64) queue 0)) (i : Int))) (given ++ [(f_tags_Next.nextSpec tag [], att (.int .i64) queue 0)]) done undone junk := by
  unfold tickC
  rw [if_neg (by rw [hq]; decide), if_pos e, if_neg (fun k => k.elim h b)]
theorem tk1b {cs : List (List (List Rl))} {live next tag new ph timer : Int} {queue : List Int} {peers : List T23b6.T} {given : List T713d.T} {done undone : List Int} {junk : Int} (hq : isB cs.length live next ph queue peers.length = true) (e : ph = 1) (h : peers.any (badP new) = true) : tickC cs live next tag new ph timer queue peers given done undone junk = ctl cs live (-1) tag 0 5 timer queue (tellR peers fun _ => [mgK 4 new]) given done (undone ++ [next]) junk := by
  unfold tickC
  rw [if_neg (by rw [hq]; decide), if_neg (by omega), if_pos e, if_pos h]
theorem tk1s {cs : List (List (List Rl))} {live next tag new ph timer : Int} {queue : List Int} {peers : List T23b6.T} {given : List T713d.T} {done undone : List Int} {junk : Int} (hq : isB cs.length live next ph queue peers.length = true) (e : ph = 1) (h : ¬ peers.any (badP new) = true) (b : peers.any busyP = true) : tickC cs live next tag new ph timer queue peers given done undone junk = ctl cs live next tag new ph timer queue peers given done undone junk := by
  unfold tickC
  rw [if_neg (by rw [hq]; decide), if_neg (by omega), if_pos e, if_neg h, if_pos b]
theorem tk1 {cs : List (List (List Rl))} {live next tag new ph timer : Int} {queue : List Int} {peers : List T23b6.T} {given : List T713d.T} {done undone : List Int} {junk : Int} (hq : isB cs.length live next ph queue peers.length = true) (e : ph = 1) (h : ¬ peers.any (badP new) = true) (b : ¬ peers.any busyP = true) : tickC cs live next tag new ph timer queue peers given done undone junk = ctl cs live next tag new 2 timer queue (tellR peers fun _ => [mgK 3 new]) given done undone junk := by
  unfold tickC
  rw [if_neg (by rw [hq]; decide), if_neg (by omega), if_pos e, if_neg h, if_neg b]
theorem tk2s {cs : List (List (List Rl))} {live next tag new ph timer : Int} {queue : List Int} {peers : List T23b6.T} {given : List T713d.T} {done undone : List Int} {junk : Int} (hq : isB cs.length live next ph queue peers.length = true) (e : ph = 2) (b : peers.any busyP = true) : tickC cs live next tag new ph timer queue peers given done undone junk = ctl cs live next tag new ph timer queue peers given done undone junk := by
  unfold tickC
  rw [if_neg (by rw [hq]; decide), if_neg (by omega), if_neg (by omega), if_pos e, if_pos b]
theorem tk2 {cs : List (List (List Rl))} {live next tag new ph timer : Int} {queue : List Int} {peers : List T23b6.T} {given : List T713d.T} {done undone : List Int} {junk : Int} (hq : isB cs.length live next ph queue peers.length = true) (e : ph = 2) (b : ¬ peers.any busyP = true) : tickC cs live next tag new ph timer queue peers given done undone junk = ctl cs live next tag new 3 18 queue peers given done undone junk := by
  unfold tickC
  rw [if_neg (by rw [hq]; decide), if_neg (by omega), if_neg (by omega), if_pos e, if_neg b]
theorem tk3s {cs : List (List (List Rl))} {live next tag new ph timer : Int} {queue : List Int} {peers : List T23b6.T} {given : List T713d.T} {done undone : List Int} {junk : Int} (hq : isB cs.length live next ph queue peers.length = true) (e : ph = 3) (b : IntKind.i64.wrap (timer - 1) ≥ 1) : tickC cs live next tag new ph timer queue peers given done undone junk = ctl cs live next tag new ph (IntKind.i64.wrap (timer - 1)) queue peers given done undone junk := by
  unfold tickC
  rw [if_neg (by rw [hq]; decide), if_neg (by omega), if_neg (by omega), if_neg (by omega), if_pos e, if_pos b]
theorem tk3 {cs : List (List (List Rl))} {live next tag new ph timer : Int} {queue : List Int} {peers : List T23b6.T} {given : List T713d.T} {done undone : List Int} {junk : Int} (hq : isB cs.length live next ph queue peers.length = true) (e : ph = 3) (b : ¬ IntKind.i64.wrap (timer - 1) ≥ 1) : tickC cs live next tag new ph timer queue peers given done undone junk = ctl cs next (-1) new 0 4 (IntKind.i64.wrap (timer - 1)) queue (tellR peers fun _ => [mgK 4 tag]) given (done ++ [next]) undone junk := by
  unfold tickC
  rw [if_neg (by rw [hq]; decide), if_neg (by omega), if_neg (by omega), if_neg (by omega), if_pos e, if_neg b]
theorem tk4s {cs : List (List (List Rl))} {live next tag new ph timer : Int} {queue : List Int} {peers : List T23b6.T} {given : List T713d.T} {done undone : List Int} {junk : Int} (hq : isB cs.length live next ph queue peers.length = true) (e : ph = 4 ∨ ph = 5) (b : peers.any busyP = true) : tickC cs live next tag new ph timer queue peers given done undone junk = ctl cs live next tag new ph timer queue peers given done undone junk := by
  unfold tickC
  rw [if_neg (by rw [hq]; decide), if_neg (by omega), if_neg (by omega), if_neg (by omega), if_neg (by omega), if_pos e, if_pos b]
theorem tk4 {cs : List (List (List Rl))} {live next tag new ph timer : Int} {queue : List Int} {peers : List T23b6.T} {given : List T713d.T} {done undone : List Int} {junk : Int} (hq : isB cs.length live next ph queue peers.length = true) (e : ph = 4 ∨ ph = 5) (b : ¬ peers.any busyP = true) : tickC cs live next tag new ph timer queue peers given done undone junk = ctl cs live next tag new 0 timer queue peers given done undone junk := by
  unfold tickC
  rw [if_neg (by rw [hq]; decide), if_neg (by omega), if_neg (by omega), if_neg (by omega), if_neg (by omega), if_pos e, if_neg b]
theorem not_busy {b : Bool} (h : (!b) = true) : ¬ b = true := by cases b <;> simp_all
theorem is_busy {b : Bool} (h : (!b) = false) : b = true := by cases b <;> simp_all
theorem tick_code (cs : List (List (List Rl))) (live next tag new ph timer : Int) (queue : List Int) (peers : List T23b6.T) (given : List T713d.T) (done undone : List Int) (junk : Int) (h : FewC cs peers queue done undone given) :
    f_control_Tick.f 1000 (ctl cs live next tag new ph timer queue peers given done undone junk) = some (tickC cs live next tag new ph timer queue peers given done undone junk, ()) := by
  have f1 := h.c
  have f2 := h.p
  have f3 := h.q
  have f4 := h.g
  have f5 := h.d
  have f6 := h.u
  have hr : ∀ x ∈ cs, ∀ l ∈ x, l.length ≤ 60 := fun x hx => (h.r x hx).2
  unfold f_control_Tick.f
  rw [qi_control_own_b6am (h := h), Option.bind_some]
  unfold ctl
  dsimp only
  rw [qi_control_controller_is_d8b (h := by omega), Option.bind_some]
  unfold f_control_Tick.j1
  cases hq : isB cs.length live next ph queue peers.length with
  | false =>
    rw [if_neg (by exact Bool.false_ne_true), if_neg Bool.false_ne_true, tkNo hq]
    rfl
  | true =>
    rw [if_pos (by rfl)]
    by_cases p0 : ¬ ph ≥ 0
    · rw [if_neg (by rw [decide_eq_false p0]; exact Bool.false_ne_true), if_neg Bool.false_ne_true, tkOut hq (.inl (by omega))]
      rfl
    replace p0 := Decidable.not_not.1 p0
    rw [if_pos (decide_eq_true p0)]
    by_cases p1 : ¬ ph < 6
    · rw [decide_eq_false p1, if_neg Bool.false_ne_true, tkOut hq (.inr (by omega))]
      rfl
    replace p1 := Decidable.not_not.1 p1
    rw [decide_eq_true p1, if_pos rfl]
    by_cases e0 : ph = 0
    · rw [if_pos e0]
      unfold i_control_controller_idle_d8b.f i_control_controller_idle_d8b.j1
      by_cases hz : queue.length = 0
      · rw [if_pos (by rw [beq_iff_eq]; omega), if_pos rfl, tk0s hq e0 (.inl hz)]
        rfl
      · rw [if_neg (by rw [beq_iff_eq]; omega), qi_control_controller_done_ad0 (h := by omega), Option.bind_some]
        cases hd : (!peers.any busyP) with
        | false =>
          rw [if_pos (by rfl), tk0s hq e0 (.inr (is_busy hd))]
          rfl
        | true =>
          rw [if_neg (by exact Bool.false_ne_true), if_pos (by omega), if_pos (by omega), tk0 hq e0 hz (not_busy hd)]
          unfold f_tags_Next.f
          rw [if_pos (by decide), Option.bind_some]
          dsimp only
          have hm : inR cs.length (att (.int .i64) queue 0) = true := by
            unfold isB at hq
            simp only [Bool.and_eq_true] at hq
            have h1 := hq.2.2.1
            have h2 : queue.any (fun q => !inR cs.length q) = false := by simpa using h1
            have h3 := List.any_eq_false.1 h2 _ (att_mem (e := .int .i64) queue (i := 0) (by decide) (by omega))
            simpa using h3
          have hm2 := inR_iff.1 hm
          rw [if_pos (by omega)]
          generalize f_tags_Next.nextSpec tag [] = nt
          have q1 := ti_control_controller_tell_107 (ctl cs live next tag new ph timer queue peers given done undone junk) 0 0 0 0 0 0 0 live (att (.int .i64) queue 0) tag nt 1 timer ((queue.take (queue.length : Int).toNat).drop (1 : Int).toNat) junk cs peers done undone (given ++ [(nt, att (.int .i64) queue 0)]) (by omega) h.o hm2.1 hm2.2 hr
          unfold ctl at q1
          rw [q1, Option.bind_some]
          have hqd : (queue.take (queue.length : Int).toNat).drop (1 : Int).toNat = queue.drop 1 := by rw [Int.toNat_natCast, List.take_length]; rfl
          dsimp only
          rw [hqd]
          unfold ctl
          rfl
    rw [if_neg e0]
    by_cases e1 : ph = 1
    · rw [if_pos e1]
      unfold i_control_controller_install_d8b.f
      rw [qi_slices_ContainsFunc_Peer_d2b (h := by omega), Option.bind_some]
      cases hf : peers.any (badP new) with
      | true =>
        rw [if_pos (by rfl), tk1b hq e1 hf]
        unfold i_control_all_518.f
        rw [Option.bind_some]
        have q1 := ti_control_controller_tell_cd9 (ctl cs live next tag new ph timer queue peers given done undone junk) 0 0 0 0 0 0 0 live next tag new ph timer junk cs queue peers given done undone 4 new (by omega) h.o
        unfold ctl at q1
        rw [q1, Option.bind_some, if_pos (by omega)]
        unfold i_control_controller_end_2b1.f
        rfl
      | false =>
        rw [if_neg (by exact Bool.false_ne_true), qi_control_controller_done_ad0 (h := by omega), Option.bind_some]
        have hf' : ¬ peers.any (badP new) = true := by rw [hf]; exact Bool.false_ne_true
        cases hd : (!peers.any busyP) with
        | false =>
          rw [if_neg (by exact Bool.false_ne_true), tk1s hq e1 hf' (is_busy hd)]
          rfl
        | true =>
          rw [if_pos (by rfl), tk1 hq e1 hf' (not_busy hd)]
          unfold i_control_all_518.f
          rw [Option.bind_some]
          have q1 := ti_control_controller_tell_cd9 (ctl cs live next tag new ph timer queue peers given done undone junk) 0 0 0 0 0 0 0 live next tag new ph timer junk cs queue peers given done undone 3 new (by omega) h.o
          unfold ctl at q1
          rw [q1, Option.bind_some]
          rfl
    rw [if_neg e1]
    by_cases e2 : ph = 2
    · rw [if_pos e2]
      unfold i_control_controller_flip_d8b.f
      rw [qi_control_controller_done_d8b (h := by omega), Option.bind_some]
      cases hd : (!peers.any busyP) with
      | false =>
        rw [if_neg (by exact Bool.false_ne_true), tk2s hq e2 (is_busy hd)]
        rfl
      | true =>
        rw [if_pos (by rfl), tk2 hq e2 (not_busy hd)]
        rfl
    rw [if_neg e2]
    by_cases e3 : ph = 3
    · rw [if_pos e3]
      unfold i_control_controller_drain_d8b.f
      by_cases ht : IntKind.i64.wrap (timer - 1) ≥ 1
      · rw [if_pos (decide_eq_true ht), tk3s hq e3 ht]
        rfl
      · rw [if_neg (by rw [decide_eq_false ht]; exact Bool.false_ne_true), tk3 hq e3 ht]
        unfold i_control_all_1a4.f
        rw [Option.bind_some]
        have q1 := ti_control_controller_tell_863 (ctl cs live next tag new ph timer queue peers given done undone junk) 0 0 0 0 0 0 0 live next tag new ph (IntKind.i64.wrap (timer - 1)) junk cs queue peers given done undone 4 tag (by omega) h.o
        unfold ctl at q1
        rw [q1, Option.bind_some, if_pos (by omega)]
        unfold i_control_controller_end_f90.f
        rfl
    rw [if_neg e3]
    by_cases e4 : ph = 4
    · rw [if_pos e4]
      unfold i_control_controller_rest_d8b.f
      rw [qi_control_controller_done_d8b (h := by omega), Option.bind_some]
      cases hd : (!peers.any busyP) with
      | false =>
        rw [if_neg (by exact Bool.false_ne_true), tk4s hq (.inl e4) (is_busy hd)]
        rfl
      | true =>
        rw [if_pos (by rfl), tk4 hq (.inl e4) (not_busy hd)]
        rfl
    rw [if_neg e4]
    have e5 : ph = 5 := by omega
    rw [if_pos e5]
    unfold i_control_controller_rest_d8b.f
    rw [qi_control_controller_done_d8b (h := by omega), Option.bind_some]
    cases hd : (!peers.any busyP) with
    | false =>
      rw [if_neg (by exact Bool.false_ne_true), tk4s hq (.inr e5) (is_busy hd)]
      rfl
    | true =>
      rw [if_pos (by rfl), tk4 hq (.inr e5) (not_busy hd)]
      rfl
theorem tick_big (cs : List (List (List Rl))) (live next tag new ph timer : Int) (queue : List Int) (peers : List T23b6.T) (given : List T713d.T) (done undone : List Int) (junk : Int) (h : FewC cs peers queue done undone given) :
    BigOf (tickC cs live next tag new ph timer queue peers given done undone junk) := by
  have hb := h.big
  have ht : ∀ ms : Nat → List Mg, (∀ i, (ms i).length ≤ 200) → ∀ y ∈ tellR peers ms, y.2.2.2.2.length < 1000 := fun ms hm => tellR_mem h.o hm
  have hl : ∀ ms : Nat → List Mg, (tellR peers ms).length < 1000 := fun ms => by rw [tellR_len]; exact hb.p
  have hB : BigOf (ctl cs live next tag new ph timer queue peers given done undone junk) := hb
  unfold tickC
  split
  · exact hB
  split
  · split
    · exact hB
    · rename_i hq hn
      have hr : ∀ x ∈ cs, ∀ l ∈ x, l.length ≤ 60 := fun x hx => (h.r x hx).2
      refine ⟨hb.c, hl _, ?_, ?_, hb.d, hb.u, hb.r, ht _ fun i => ?_⟩
      · show (queue.drop 1).length < 1000
        have := hb.q
        rw [List.length_drop]; omega
      · show (given ++ [_]).length < 1000
        have := h.g
        rw [List.length_append, List.length_singleton]; omega
      · unfold addsOf
        rw [List.length_map]
        by_cases hz : queue.length = 0
        · exact absurd (Or.inl hz) hn
        · have hm : ∀ l ∈ att (.slice (.slice T1383)) cs (att (.int .i64) queue 0), l.length ≤ 60 := by
            intro l hl
            generalize att (.int .i64) queue 0 = q0 at hl
            unfold att at hl
            cases hc : cs[q0.toNat]? with
            | none => rw [hc] at hl; exact absurd hl (by simp [Ty.dflt])
            | some v => rw [hc] at hl; exact hr v (List.mem_of_getElem? hc) l hl
          have := rules_len _ (i : Int) 60 hm
          omega
  split
  · split
    · refine ⟨hb.c, hl _, hb.q, hb.g, hb.d, ?_, hb.r, ht _ fun i => by simp⟩
      show (undone ++ [_]).length < 1000
      have := h.u
      rw [List.length_append, List.length_singleton]; omega
    · split
      · exact hB
      · exact ⟨hb.c, hl _, hb.q, hb.g, hb.d, hb.u, hb.r, ht _ fun i => by simp⟩
  split
  · split
    · exact hB
    · exact hb
  split
  · split
    · exact hb
    · refine ⟨hb.c, hl _, hb.q, hb.g, ?_, hb.u, hb.r, ht _ fun i => by simp⟩
      show (done ++ [_]).length < 1000
      have := h.d
      rw [List.length_append, List.length_singleton]; omega
  split
  · split
    · exact hB
    · exact hb
  · exact hB
theorem ref_idle (cs : List (List (List Rl))) (live next tag new timer : Int) (queue : List Int) (peers : List T23b6.T) (given : List T713d.T) (done undone : List Int) (junk : Int) (h : FewC cs peers queue done undone given) (hq : isB cs.length live next 0 queue peers.length = true) :
    f_ref21_idle.f 1000 (ctl cs live next tag new 0 timer queue peers given done undone junk) = some (tickC cs live next tag new 0 timer queue peers given done undone junk, ()) := by
  have f1 := h.c
  have f2 := h.p
  have f3 := h.q
  have f4 := h.g
  have hr : ∀ x ∈ cs, ∀ l ∈ x, l.length ≤ 60 := fun x hx => (h.r x hx).2
  unfold f_ref21_idle.f
  rw [ref_ready _ (show peers.length ≤ 12 from f2), Option.bind_some]
  unfold f_ref21_idle.j1 ctl
  dsimp only
  by_cases hz : queue.length = 0
  · rw [if_pos (by rw [beq_iff_eq]; omega), if_pos rfl, tk0s hq rfl (.inl hz)]
    rfl
  · rw [if_neg (by rw [beq_iff_eq]; omega)]
    cases hd : (!peers.any busyP) with
    | false =>
      rw [if_pos (by rfl), tk0s hq rfl (.inr (is_busy hd))]
      rfl
    | true =>
      rw [if_neg (by exact Bool.false_ne_true), if_pos (by omega), if_pos (by omega), tk0 hq rfl hz (not_busy hd), if_pos (by rw [Int.toNat_natCast, List.take_length, List.length_drop]; omega), ref_next, Option.bind_some, if_pos (by omega), if_pos (by omega), if_pos (by omega)]
      have hm : inR cs.length (att (.int .i64) queue 0) = true := by
        unfold isB at hq
        simp only [Bool.and_eq_true] at hq
        have h1 := hq.2.2.1
        have h2 : queue.any (fun q => !inR cs.length q) = false := by simpa using h1
        have h3 := List.any_eq_false.1 h2 _ (att_mem (e := .int .i64) queue (i := 0) (by decide) (by omega))
        simpa using h3
      have hm2 := inR_iff.1 hm
      have hr2 := hr _ (att_mem (e := .slice (.slice T1383)) cs hm2.1 hm2.2)
      have hqd : (queue.take (queue.length : Int).toNat).drop (1 : Int).toNat = queue.drop 1 := by rw [Int.toNat_natCast, List.take_length]; rfl
      rw [hqd]
      dsimp only
      generalize f_tags_Next.nextSpec tag [] = nt
      generalize att (.int .i64) queue 0 = q0 at hm2 hr2 ⊢
      have hmS : ∀ i : Nat, (addsOf nt (rulesAt (att (.slice (.slice T1383)) cs q0) (i : Int))).length ≤ 200 := fun i => by
        have hl := rules_len _ (i : Int) 60 hr2
        unfold addsOf
        rw [List.length_map]
        omega
      refine tell_loop (fun k i s => f_ref21_idle.l2 1000 k (i : Int) cs live q0 tag nt 1 timer peers done undone junk 0 0 0 0 0 0 0 s (queue.drop 1) (given ++ [(nt, q0)])) (fun s => some (ctl cs live q0 tag nt 1 timer (queue.drop 1) s (given ++ [(nt, q0)]) done undone junk, ())) peers (fun i => addsOf nt (rulesAt (att (.slice (.slice T1383)) cs q0) (i : Int))) (fun k i s hi hs ha => ?_) (fun k s hs => ?_) 1000 (by omega)
      · have h1 := pushF_ok peers[i].2.2 _ (h.o _ (List.getElem_mem hi)) (hmS i)
        have hl := rules_len _ (i : Int) 60 hr2
        simp only [f_ref21_idle.l2, f_ref21_idle.b2]
        rw [if_pos (by (first | omega | (dsimp only [Ty.T]; omega) | (simp only [decide_eq_true_eq, decide_eq_false_iff_not, Bool.not_eq_true, Ty.T]; omega) | (simp only [decide_eq_true_eq, decide_eq_false_iff_not, Ty.T]; omega) | (simp only [beq_iff_eq, bne_iff_ne, ne_eq, decide_eq_true_eq, Ty.T]; omega))), if_pos (by omega), if_pos (by omega), if_pos hm2.1, if_pos hm2.2, ref_at 1000 _ _ (fun l hl => by have := hr2 l hl; omega), Option.bind_some, ref_adds _ _ (by dsimp only; omega), Option.bind_some, ha, h1.2.2, Option.bind_some, wsucc i (by omega), Int.toNat_natCast]
      · simp only [f_ref21_idle.l2, f_ref21_idle.b2]
        rw [if_neg (by (first | omega | (dsimp only [Ty.T]; omega) | (simp only [decide_eq_true_eq, decide_eq_false_iff_not, Bool.not_eq_true, Ty.T]; omega) | (simp only [decide_eq_true_eq, decide_eq_false_iff_not, Ty.T]; omega) | (simp only [beq_iff_eq, bne_iff_ne, ne_eq, decide_eq_true_eq, Ty.T]; omega)))]
        rfl
theorem ref_install (cs : List (List (List Rl))) (live next tag new timer : Int) (queue : List Int) (peers : List T23b6.T) (given : List T713d.T) (done undone : List Int) (junk : Int) (h : FewC cs peers queue done undone given) (hq : isB cs.length live next 1 queue peers.length = true) :
    f_ref21_install.f 1000 (ctl cs live next tag new 1 timer queue peers given done undone junk) = some (tickC cs live next tag new 1 timer queue peers given done undone junk, ()) := by
  have f2 := h.p
  have f6 := h.u
  unfold f_ref21_install.f
  have hle : peers.findIdx (badP new) ≤ peers.length := List.findIdx_le_length
  refine loop (fun m i => f_ref21_install.l1 (ctl cs live next tag new 1 timer queue peers given done undone junk) 1000 m (i : Int) 0 0 0 0 0 0 0) (peers.findIdx (badP new)) _ (fun m i hi => ?_) (fun m => ?_) 1000 (by omega)
  · have hl : i < peers.length := by omega
    have hn : badP new peers[i] = false := fi_not hi hl
    simp only [f_ref21_install.l1, f_ref21_install.b1]
    unfold ctl
    dsimp only
    unfold badP at hn
    rw [if_pos (by (first | omega | (dsimp only [Ty.T]; omega) | (simp only [decide_eq_true_eq, decide_eq_false_iff_not, Bool.not_eq_true, Ty.T]; omega) | (simp only [decide_eq_true_eq, decide_eq_false_iff_not, Ty.T]; omega) | (simp only [beq_iff_eq, bne_iff_ne, ne_eq, decide_eq_true_eq, Ty.T]; omega))), if_pos (by omega), if_pos (by omega), att_n (e := T23b6) peers i hl, wsucc i (by omega), if_neg (by rw [hn]; exact Bool.false_ne_true)]
  · simp only [f_ref21_install.l1, f_ref21_install.b1, f_ref21_install.j2]
    by_cases hl : peers.findIdx (badP new) < peers.length
    · have hy := List.findIdx_getElem (w := hl)
      have hany : peers.any (badP new) = true := List.any_eq_true.2 ⟨_, List.getElem_mem hl, hy⟩
      rw [tk1b hq rfl hany, ref_tell _ _ (show peers.length ≤ 12 from f2) h.o, Option.bind_some]
      unfold ctl withP
      dsimp only
      unfold badP at hy
      rw [if_pos (by (first | omega | (dsimp only [Ty.T]; omega) | (simp only [decide_eq_true_eq, decide_eq_false_iff_not, Bool.not_eq_true, Ty.T]; omega) | (simp only [decide_eq_true_eq, decide_eq_false_iff_not, Ty.T]; omega) | (simp only [beq_iff_eq, bne_iff_ne, ne_eq, decide_eq_true_eq, Ty.T]; omega))), if_pos (by omega), if_pos (by omega), att_n (e := T23b6) peers _ hl, if_pos (by exact hy), if_pos (by omega), if_pos (by omega)]
      rfl
    · have hany : peers.any (badP new) = false := by
        rw [Bool.eq_false_iff]
        intro hc
        obtain ⟨y, h1, h2⟩ := List.any_eq_true.1 hc
        exact hl (List.findIdx_lt_length_of_exists ⟨y, h1, h2⟩)
      have hany' : ¬ peers.any (badP new) = true := by rw [hany]; exact Bool.false_ne_true
      rw [ref_ready _ (show peers.length ≤ 12 from f2), Option.bind_some]
      have ht := ref_tell (ctl cs live next tag new 1 timer queue peers given done undone junk) (mgK 3 new) (show peers.length ≤ 12 from f2) h.o
      unfold ctl at ht ⊢
      dsimp only
      rw [if_neg (by (first | omega | (dsimp only [Ty.T]; omega) | (simp only [decide_eq_true_eq, decide_eq_false_iff_not, Bool.not_eq_true, Ty.T]; omega) | (simp only [decide_eq_true_eq, decide_eq_false_iff_not, Ty.T]; omega) | (simp only [beq_iff_eq, bne_iff_ne, ne_eq, decide_eq_true_eq, Ty.T]; omega)))]
      cases hd : (!peers.any busyP) with
      | false =>
        rw [if_neg (by exact Bool.false_ne_true), tk1s hq rfl hany' (is_busy hd)]
        rfl
      | true =>
        rw [if_pos (by rfl), tk1 hq rfl hany' (not_busy hd)]
        unfold mgK at ht
        rw [ht]
        rfl
theorem ref_drain (cs : List (List (List Rl))) (live next tag new timer : Int) (queue : List Int) (peers : List T23b6.T) (given : List T713d.T) (done undone : List Int) (junk : Int) (h : FewC cs peers queue done undone given) (hq : isB cs.length live next 3 queue peers.length = true) :
    f_ref21_drain.f 1000 (ctl cs live next tag new 3 timer queue peers given done undone junk) = some (tickC cs live next tag new 3 timer queue peers given done undone junk, ()) := by
  have f2 := h.p
  have f5 := h.d
  unfold f_ref21_drain.f
  unfold ctl
  dsimp only
  by_cases ht : IntKind.i64.wrap (timer - 1) ≥ 1
  · rw [if_pos (decide_eq_true ht), tk3s hq rfl ht]
    rfl
  · rw [if_neg (by rw [decide_eq_false ht]; exact Bool.false_ne_true), tk3 hq rfl ht, ref_tell _ _ (show peers.length ≤ 12 from f2) h.o, Option.bind_some]
    unfold withP
    dsimp only
    rw [if_pos (by omega), if_pos (by omega)]
    rfl
theorem tick_ref (cs : List (List (List Rl))) (live next tag new ph timer : Int) (queue : List Int) (peers : List T23b6.T) (given : List T713d.T) (done undone : List Int) (junk : Int) (h : FewC cs peers queue done undone given) :
    f_ref21_Tick.f 1000 (ctl cs live next tag new ph timer queue peers given done undone junk) = some (tickC cs live next tag new ph timer queue peers given done undone junk, ()) := by
  have f2 := h.p
  unfold f_ref21_Tick.f
  rw [ref_may _ h, Option.bind_some, ref_ready _ (show peers.length ≤ 12 from f2), Option.bind_some]
  have hisC : isC (ctl cs live next tag new ph timer queue peers given done undone junk) = isB cs.length live next ph queue peers.length := rfl
  rw [hisC]
  cases hq : isB cs.length live next ph queue peers.length with
  | false =>
    rw [if_pos (by rfl), tkNo hq]
  | true =>
    rw [if_neg (by exact Bool.false_ne_true)]
    show (if (ph == (0 : Int)) = true then _ else _) = _
    by_cases e0 : ph = 0
    · subst e0
      rw [if_pos (by rfl), ref_idle _ _ _ _ _ _ _ _ _ _ _ _ h hq]
      rfl
    rw [if_neg (by rw [beq_iff_eq]; exact e0)]
    show (if (ph == (1 : Int)) = true then _ else _) = _
    by_cases e1 : ph = 1
    · subst e1
      rw [if_pos (by rfl), ref_install _ _ _ _ _ _ _ _ _ _ _ _ h hq]
      rfl
    rw [if_neg (by rw [beq_iff_eq]; exact e1)]
    show (if (ph == (2 : Int)) = true then _ else _) = _
    by_cases e2 : ph = 2
    · subst e2
      unfold f_ref21_Tick.j1
      rw [if_pos (by rfl)]
      show (if (!peers.any busyP) = true then _ else _) = _
      cases hd : (!peers.any busyP) with
      | false => rw [if_neg (by exact Bool.false_ne_true), tk2s hq rfl (is_busy hd)]
      | true =>
        rw [if_pos (by rfl), tk2 hq rfl (not_busy hd)]
        rfl
    rw [if_neg (by rw [beq_iff_eq]; exact e2)]
    show (if (ph == (3 : Int)) = true then _ else _) = _
    by_cases e3 : ph = 3
    · subst e3
      rw [if_pos (by rfl), ref_drain _ _ _ _ _ _ _ _ _ _ _ _ h hq]
      rfl
    rw [if_neg (by rw [beq_iff_eq]; exact e3)]
    show (if (ph == (4 : Int)) = true then f_ref21_Tick.j2 (ctl cs live next tag new ph timer queue peers given done undone junk) 1000 (!peers.any busyP) (ph == (4 : Int)) 0 0 0 0 0 0 0 else f_ref21_Tick.j2 (ctl cs live next tag new ph timer queue peers given done undone junk) 1000 (!peers.any busyP) (ph == (5 : Int)) 0 0 0 0 0 0 0) = _
    unfold f_ref21_Tick.j2 f_ref21_Tick.j1
    by_cases e4 : ph = 4
    · rw [if_pos (beq_iff_eq.2 e4), if_pos (beq_iff_eq.2 e4)]
      cases hd : (!peers.any busyP) with
      | false => rw [if_neg (by exact Bool.false_ne_true), tk4s hq (.inl e4) (is_busy hd)]
      | true =>
        rw [if_pos (by rfl), tk4 hq (.inl e4) (not_busy hd)]
        rfl
    · rw [if_neg (by rw [beq_iff_eq]; exact e4)]
      by_cases e5 : ph = 5
      · rw [if_pos (beq_iff_eq.2 e5)]
        cases hd : (!peers.any busyP) with
        | false => rw [if_neg (by exact Bool.false_ne_true), tk4s hq (.inr e5) (is_busy hd)]
        | true =>
          rw [if_pos (by rfl), tk4 hq (.inr e5) (not_busy hd)]
          rfl
      · rw [if_neg (by rw [beq_iff_eq]; exact e5), tkOut hq (by omega)]
theorem rfold_step (k m : Nat) (p : Int) (h : 65535 < p) (h2 : p < 1099511627776) : f_ref02_Sum.l3 k (m + 1) p = f_ref02_Sum.l3 k m (p / 65536 + p % 65536) := by
  simp only [f_ref02_Sum.l3, f_ref02_Sum.b3]
  rw [if_pos (decide_eq_true h), Int.tdiv_eq_ediv_of_nonneg (by omega), Int.tmod_eq_emod_of_nonneg (by omega), IntWalk.i64_in (p / 65536) (by omega), IntWalk.i64_in _ (by omega)]
theorem rfold_end (k m : Nat) (p : Int) (h : 0 ≤ p) (h2 : p ≤ 65535) : f_ref02_Sum.l3 k (m + 1) p = some (65535 - fl p, ()) := by
  simp only [f_ref02_Sum.l3, f_ref02_Sum.b3]
  rw [if_neg (by rw [decide_eq_false (by omega)]; exact Bool.false_ne_true), fl_small p h h2, IntWalk.i64_in _ (by omega)]
theorem rfold_two (k m : Nat) (p : Int) (h : 0 ≤ p) (h2 : p < 131072) : f_ref02_Sum.l3 k (m + 3) p = some (65535 - fl p, ()) := by
  by_cases h3 : 65535 < p
  · rw [rfold_step k (m + 2) p h3 (by omega), ← fl_step p h3]
    by_cases h4 : 65535 < p / 65536 + p % 65536
    · rw [rfold_step k (m + 1) _ h4 (by omega), ← fl_step _ h4]
      exact rfold_end k m _ (by omega) (by omega)
    · exact rfold_end k (m + 1) _ (by omega) (by omega)
  · exact rfold_end k (m + 2) p h (by omega)
theorem rfold_eq (k m : Nat) (p : Int) (h : 0 ≤ p) (h2 : p < 1099511627776) : f_ref02_Sum.l3 k (m + 5) p = some (65535 - fl p, ()) := by
  by_cases h3 : 65535 < p
  · rw [rfold_step k (m + 4) p h3 h2, ← fl_step p h3]
    by_cases h4 : 65535 < p / 65536 + p % 65536
    · rw [rfold_step k (m + 3) _ h4 (by omega), ← fl_step _ h4]
      exact rfold_two k m _ (by omega) (by omega)
    · exact rfold_end k (m + 3) _ (by omega) (by omega)
  · exact rfold_end k (m + 4) p h (by omega)
theorem rsum_eq (xs : List Int) (h : Oct xs) (hs : xs.length < 900) : f_ref02_Sum.f 1000 xs = some (65535 - fl (tot xs xs.length), ()) := by
  unfold f_ref02_Sum.f
  refine loop (fun m i => f_ref02_Sum.l1 1000 m xs (tot xs i) (i : Int)) xs.length _ (fun m i hl => ?_) (fun m => ?_) 1000 (by omega)
  · have hx := h xs[i] (List.getElem_mem hl)
    have h1 := tot_range xs h i (by omega)
    have et : tot xs (i + 1) = tot xs i + xs[i] * (if i % 2 = 0 then 256 else 1) := by simp only [tot, List.getElem?_eq_getElem hl, Option.getD_some]
    simp only [f_ref02_Sum.l1, f_ref02_Sum.b1, f_ref02_Sum.j2, att_n (e := .int .u8) xs i hl]
    rw [if_pos (by (first | omega | (dsimp only [Ty.T]; omega) | (simp only [decide_eq_true_eq, decide_eq_false_iff_not, Bool.not_eq_true, Ty.T]; omega) | (simp only [decide_eq_true_eq, decide_eq_false_iff_not, Ty.T]; omega) | (simp only [beq_iff_eq, bne_iff_ne, ne_eq, decide_eq_true_eq, Ty.T]; omega))), IntWalk.i64_in xs[i] (by omega), wsucc i (by omega), et]
    by_cases h2 : i % 2 = 0
    · rw [if_pos (by rw [beq_iff_eq, Int.tmod_eq_emod_of_nonneg (by omega)]; omega), if_pos (by omega), if_pos (by omega), if_pos h2, IntWalk.i64_in (256 * xs[i]) (by omega), IntWalk.i64_in _ (by omega), Int.mul_comm 256]
    · rw [if_neg (by rw [beq_iff_eq, Int.tmod_eq_emod_of_nonneg (by omega)]; omega), if_pos (by omega), if_pos (by omega), if_neg h2, IntWalk.i64_in _ (by omega), Int.mul_one]
  · have h1 := tot_range xs h xs.length (Nat.le_refl _)
    simp only [f_ref02_Sum.l1, f_ref02_Sum.b1]
    rw [if_neg (by (first | omega | (dsimp only [Ty.T]; omega) | (simp only [decide_eq_true_eq, decide_eq_false_iff_not, Bool.not_eq_true, Ty.T]; omega) | (simp only [decide_eq_true_eq, decide_eq_false_iff_not, Ty.T]; omega) | (simp only [beq_iff_eq, bne_iff_ne, ne_eq, decide_eq_true_eq, Ty.T]; omega)))]
    exact rfold_eq 1000 995 _ h1.1 (by omega)
theorem keep_eq (X n : Nat) (hn : n ≤ 32) : X &&& ((2 ^ n - 1) * 2 ^ (32 - n)) = X % 2 ^ 32 / 2 ^ (32 - n) * 2 ^ (32 - n) := by
  apply Nat.eq_of_testBit_eq
  intro j
  rw [Nat.testBit_and, ← Nat.shiftLeft_eq, ← Nat.shiftLeft_eq, Nat.testBit_shiftLeft, Nat.testBit_shiftLeft, Nat.testBit_two_pow_sub_one, Nat.testBit_div_two_pow, Nat.testBit_mod_two_pow]
  by_cases h1 : 32 - n ≤ j
  · have e : j - (32 - n) + (32 - n) = j := by omega
    rw [e]
    by_cases h2 : j < 32
    · have : j - (32 - n) < n := by omega
      simp [h1, h2, this]
    · have : ¬ j - (32 - n) < n := by omega
      simp [h2, this]
  · simp [h1]
theorem mask_vals : ∀ b : Nat, b < 33 → IntKind.i64.wrap (IntKind.u32.wrap (IntKind.u64.wrap (4294967295 * (2 ^ (min (IntKind.i64.wrap (32 - (b : Int))).toNat IntKind.u64.bits))))) = (((2 ^ b - 1) * 2 ^ (32 - b) : Nat) : Int) := by decide +kernel
theorem mask_small (b : Nat) (hb : b ≤ 32) : (2 ^ b - 1) * 2 ^ (32 - b) < 2 ^ 32 := by
  have h1 : 2 ^ b * 2 ^ (32 - b) = 2 ^ 32 := by rw [← Nat.pow_add]; congr 1; omega
  have h2 : 0 < 2 ^ (32 - b) := Nat.two_pow_pos _
  rw [Nat.sub_mul, h1]
  omega
theorem and_mask (a : Int) (b : Nat) (hb : b ≤ 32) : (((BitVec.ofInt 64 a &&& BitVec.ofInt 64 (((2 ^ b - 1) * 2 ^ (32 - b) : Nat) : Int)).toNat : Nat) : Int) = (((a % 4294967296).toNat / 2 ^ (32 - b) * 2 ^ (32 - b) : Nat) : Int) := by
  have hs := mask_small b hb
  rw [BitVec.toNat_and, BitVec.toNat_ofInt, BitVec.toNat_ofInt]
  have h1 : ((((2 ^ b - 1) * 2 ^ (32 - b) : Nat) : Int) % ((2 ^ 64 : Nat) : Int)).toNat = (2 ^ b - 1) * 2 ^ (32 - b) := by
    generalize (2 ^ b - 1) * 2 ^ (32 - b) = m at hs ⊢
    omega
  rw [h1, keep_eq _ b hb]
  have h2 : (a % ((2 ^ 64 : Nat) : Int)).toNat % 2 ^ 32 = (a % 4294967296).toNat := by omega
  rw [h2]
theorem and_low (a : Int) : (((BitVec.ofInt 64 a &&& BitVec.ofInt 64 4294967295).toNat : Nat) : Int) = a % 4294967296 := by
  have h := and_mask a 32 (by omega)
  have e : (((2 ^ 32 - 1) * 2 ^ (32 - 32) : Nat) : Int) = 4294967295 := by decide
  rw [e] at h
  rw [h]
  simp
  omega
theorem and_not_mask (a b : Nat) (ha : a < 2 ^ 32) (hb : b ≤ 32) : (BitVec.ofInt 64 (a : Int) &&& ~~~ BitVec.ofInt 64 (((2 ^ b - 1) * 2 ^ (32 - b) : Nat) : Int)).toNat = a % 2 ^ (32 - b) := by
  apply Nat.eq_of_testBit_eq
  intro j
  rw [BitVec.ofInt_natCast, BitVec.ofInt_natCast]
  rw [← BitVec.getLsbD, BitVec.getLsbD_and, BitVec.getLsbD_not, BitVec.getLsbD_ofNat, BitVec.getLsbD_ofNat, ← Nat.shiftLeft_eq, Nat.testBit_shiftLeft, Nat.testBit_two_pow_sub_one, Nat.testBit_mod_two_pow]
  by_cases h0 : j < 32
  · by_cases h1 : 32 - b ≤ j
    · have h2 : j - (32 - b) < b := by omega
      have h3 : ¬ j < 32 - b := by omega
      simp [h1, h2, h3]
    · have h3 : j < 32 - b := by omega
      have h4 : j < 64 := by omega
      simp [h1, h3, h4]
  · have h5 : a.testBit j = false := Nat.testBit_lt_two_pow (Nat.lt_of_lt_of_le ha (Nat.pow_le_pow_right (by omega) (by omega)))
    simp [h5]
theorem low_zero (a b : Nat) (hb : b ≤ 32) : a % 2 ^ (32 - b) = 0 ↔ ∀ i, b ≤ i → i < 32 → a / 2 ^ (31 - i) % 2 ≠ 1 := by
  constructor
  · intro h i h1 h2 h3
    have ht : a.testBit (31 - i) = true := by rw [Nat.testBit_eq_decide_div_mod_eq]; simpa using h3
    have := Nat.testBit_mod_two_pow a (32 - b) (31 - i)
    rw [h, ht, decide_eq_true (by omega)] at this
    simp at this
  · intro h
    apply Nat.eq_of_testBit_eq
    intro j
    rw [Nat.testBit_mod_two_pow, Nat.zero_testBit]
    by_cases h1 : j < 32 - b
    · have := h (31 - j) (by omega) (by omega)
      rw [show 31 - (31 - j) = j by omega] at this
      rw [Nat.testBit_eq_decide_div_mod_eq, decide_eq_false this, Bool.and_false]
    · simp [h1]
def low (a : Int) : Nat := (a % 4294967296).toNat
theorem low_lt (a : Int) : low a < 4294967296 := by unfold low; omega
theorem half_eq (x : Nat) (h : x < 4294967296) : IntKind.i64.wrap (Int.tdiv (x : Int) 2) = ((x / 2 : Nat) : Int) := by
  rw [IntWalk.i64_quo _ _ ⟨by omega, by omega, by omega⟩]; rfl
theorem bit_eq (k : Nat) (a : Int) (i : Nat) (hi : i < 32) (hk : 100 ≤ k) : f_ref01_Bit.f k a (i : Int) = some (((low a / 2 ^ (31 - i) % 2 : Nat) : Int), ()) := by
  have hlt := low_lt a
  have hA : IntKind.i64.wrap ((((BitVec.ofInt IntKind.i64.bits a &&& BitVec.ofInt IntKind.i64.bits 4294967295).toNat : Nat) : Int)) = (low a : Int) := by
    rw [show ((BitVec.ofInt IntKind.i64.bits a &&& BitVec.ofInt IntKind.i64.bits 4294967295).toNat : Int) = a % 4294967296 from and_low a, IntWalk.i64_in _ (by omega)]
    unfold low
    omega
  unfold f_ref01_Bit.f f_ref01_Bit.j1
  rw [if_neg (by (first | omega | (dsimp only [Ty.T]; omega) | (simp only [decide_eq_true_eq, decide_eq_false_iff_not, Bool.not_eq_true, Ty.T]; omega) | (simp only [decide_eq_true_eq, decide_eq_false_iff_not, Ty.T]; omega) | (simp only [beq_iff_eq, bne_iff_ne, ne_eq, decide_eq_true_eq, Ty.T]; omega))), decide_eq_false (by omega), if_neg (by simp), hA]
  have hdl : ∀ q, low a / 2 ^ q < 4294967296 := fun q => Nat.lt_of_le_of_lt (Nat.div_le_self _ _) hlt
  refine (congrArg (fun z : Int => f_ref01_Bit.l2 k k (i : Int) z 31) (show (low a : Int) = ((low a / 2 ^ 0 : Nat) : Int) by simp)).trans ?_
  refine loop (fun m q => f_ref01_Bit.l2 k m (i : Int) ((low a / 2 ^ q : Nat) : Int) (31 - (q : Int))) (31 - i) _ (fun m q hq => ?_) (fun m => ?_) k (by omega)
  · simp only [f_ref01_Bit.l2, f_ref01_Bit.b2]
    have hw : IntKind.i64.wrap (31 - (q : Int) - 1) = 31 - ((q + 1 : Nat) : Int) := by rw [IntWalk.i64_in _ (by omega)]; omega
    rw [if_pos (by (first | omega | (dsimp only [Ty.T]; omega) | (simp only [decide_eq_true_eq, decide_eq_false_iff_not, Bool.not_eq_true, Ty.T]; omega) | (simp only [decide_eq_true_eq, decide_eq_false_iff_not, Ty.T]; omega) | (simp only [beq_iff_eq, bne_iff_ne, ne_eq, decide_eq_true_eq, Ty.T]; omega))), half_eq _ (hdl q), hw, Nat.div_div_eq_div_mul, ← Nat.pow_succ]
  · simp only [f_ref01_Bit.l2, f_ref01_Bit.b2]
    rw [if_neg (by (first | omega | (dsimp only [Ty.T]; omega) | (simp only [decide_eq_true_eq, decide_eq_false_iff_not, Bool.not_eq_true, Ty.T]; omega) | (simp only [decide_eq_true_eq, decide_eq_false_iff_not, Ty.T]; omega) | (simp only [beq_iff_eq, bne_iff_ne, ne_eq, decide_eq_true_eq, Ty.T]; omega)))]
    rfl
theorem mask_nat (n : Int) (b : Nat) (hb : b ≤ 32) (h : bnd n = (b : Int)) : mask n = (((2 ^ b - 1) * 2 ^ (32 - b) : Nat) : Int) := by
  unfold mask
  rw [h]
  exact mask_vals b (by omega)
theorem rpmay_eq (k : Nat) (p : T713d.T) (hk : 100 ≤ k) : f_ref01_May.f k p = some (pmay p, ()) := by
  unfold f_ref01_May.f f_ref01_May.j1
  by_cases h1 : p.2 < (0 : Int)
  · rw [if_pos (decide_eq_true h1), if_pos rfl]
    unfold pmay
    rw [decide_eq_false (Int.not_le.2 h1)]; rfl
  rw [if_neg (by rw [decide_eq_false h1]; exact Bool.false_ne_true)]
  by_cases h2 : p.2 > (32 : Int)
  · rw [if_pos (decide_eq_true h2), if_pos rfl]
    unfold pmay
    rw [decide_eq_false (p := p.2 ≤ 32) (Int.not_le.2 h2), Bool.false_and, Bool.and_false]
  rw [if_neg (by rw [decide_eq_false h2]; exact Bool.false_ne_true)]
  by_cases h3 : p.1 < (0 : Int)
  · rw [if_pos (decide_eq_true h3), if_pos rfl]
    unfold pmay
    rw [decide_eq_false (p := p.1 ≥ 0) (Int.not_le.2 h3), Bool.false_and, Bool.and_false, Bool.and_false]
  rw [if_neg (by rw [decide_eq_false h3]; exact Bool.false_ne_true)]
  by_cases h4 : p.1 > (4294967295 : Int)
  · rw [decide_eq_true h4, if_pos rfl]
    unfold pmay
    rw [decide_eq_false (p := p.1 ≤ 4294967295) (Int.not_le.2 h4), Bool.false_and, Bool.and_false, Bool.and_false, Bool.and_false]
  rw [decide_eq_false h4, if_neg Bool.false_ne_true]
  obtain ⟨pa, pn⟩ := p
  dsimp only at h1 h2 h3 h4 ⊢
  have g1 : (0 : Int) ≤ pn := Int.not_lt.1 h1
  have g2 : pn ≤ (32 : Int) := Int.not_lt.1 h2
  have g3 : (0 : Int) ≤ pa := Int.not_lt.1 h3
  have g4 : pa ≤ (4294967295 : Int) := Int.not_lt.1 h4
  obtain ⟨a, rfl⟩ : ∃ a : Nat, pa = (a : Int) := ⟨Int.toNat pa, (Int.toNat_of_nonneg g3).symm⟩
  obtain ⟨b, rfl⟩ : ∃ b : Nat, pn = (b : Int) := ⟨Int.toNat pn, (Int.toNat_of_nonneg g1).symm⟩
  have g2' : b ≤ 32 := by have : ((b : Nat) : Int) ≤ 32 := g2; omega
  have g4' : a < 2 ^ 32 := by have : ((a : Nat) : Int) ≤ 4294967295 := g4; omega
  have hb : bnd (b : Int) = (b : Int) := by unfold bnd; rw [if_neg (by omega), if_neg (by omega)]
  have hlow : low (a : Int) = a := by unfold low; omega
  have hand : IntKind.i64.wrap (((BitVec.ofInt IntKind.i64.bits (a : Int) &&& ~~~ BitVec.ofInt IntKind.i64.bits (mask (b : Int))).toNat : Nat) : Int) = ((a % 2 ^ (32 - b) : Nat) : Int) := by
    rw [mask_nat _ b g2' hb, show (BitVec.ofInt IntKind.i64.bits (a : Int) &&& ~~~ BitVec.ofInt IntKind.i64.bits (((2 ^ b - 1) * 2 ^ (32 - b) : Nat) : Int)).toNat = a % 2 ^ (32 - b) from and_not_mask a b g4' g2']
    have : a % 2 ^ (32 - b) ≤ a := Nat.mod_le _ _
    rw [IntWalk.i64_in _ (by omega)]
  have hp : pmay ((a : Int), (b : Int)) = decide (a % 2 ^ (32 - b) = 0) := by
    unfold pmay
    dsimp only
    rw [decide_eq_true (p := (b : Int) ≥ 0) (by omega), decide_eq_true (p := (b : Int) ≤ 32) (by omega), decide_eq_true (p := (a : Int) ≥ 0) (by omega), decide_eq_true (p := (a : Int) ≤ 4294967295) (by omega), hand]
    simp only [Bool.true_and]
    by_cases hz : a % 2 ^ (32 - b) = 0
    · rw [hz]; rfl
    · rw [decide_eq_false hz]
      exact beq_eq_false_iff_ne.2 (by omega)
  rw [hp]
  have hz := low_zero a b g2'
  rcases loop_or (fun m q => f_ref01_May.l2 k m ((b + q : Nat) : Int) ((a : Int), (b : Int))) (32 - b) (fun q => a / 2 ^ (31 - (b + q)) % 2 ≠ 1) (some (true, ())) (some (false, ())) (fun m q hq => by
      simp only [f_ref01_May.l2, f_ref01_May.b2]
      rw [if_pos (by (first | omega | (dsimp only [Ty.T]; omega) | (simp only [decide_eq_true_eq, decide_eq_false_iff_not, Bool.not_eq_true, Ty.T]; omega) | (simp only [decide_eq_true_eq, decide_eq_false_iff_not, Ty.T]; omega) | (simp only [beq_iff_eq, bne_iff_ne, ne_eq, decide_eq_true_eq, Ty.T]; omega))), bit_eq k _ (b + q) (by omega) hk, Option.bind_some, wsucc (b + q) (by omega), hlow]
      by_cases h5 : a / 2 ^ (31 - (b + q)) % 2 = 1
      · exact .inr (if_pos (by rw [h5]; rfl))
      · exact .inl ⟨h5, if_neg (by simp only [beq_iff_eq, Ty.T]; omega)⟩) (fun _ m => by
      simp only [f_ref01_May.l2, f_ref01_May.b2]
      rw [if_neg (by (first | omega | (dsimp only [Ty.T]; omega) | (simp only [decide_eq_true_eq, decide_eq_false_iff_not, Bool.not_eq_true, Ty.T]; omega) | (simp only [decide_eq_true_eq, decide_eq_false_iff_not, Ty.T]; omega) | (simp only [beq_iff_eq, bne_iff_ne, ne_eq, decide_eq_true_eq, Ty.T]; omega)))]) k (by omega) with ⟨h6, h7⟩ | h7
  · have : a % 2 ^ (32 - b) = 0 := hz.2 fun i hi1 hi2 => by
      have := h6 (i - b) (by omega)
      rwa [show b + (i - b) = i by omega] at this
    rw [decide_eq_true this]
    exact h7
  · by_cases h8 : a % 2 ^ (32 - b) = 0
    · have h9 := hz.1 h8
      have : f_ref01_May.l2 k k ((b + 0 : Nat) : Int) ((a : Int), (b : Int)) = some (true, ()) := by
        refine loop (fun m q => f_ref01_May.l2 k m ((b + q : Nat) : Int) ((a : Int), (b : Int))) (32 - b) _ (fun m q hq => ?_) (fun m => ?_) k (by omega)
        · have h5 := h9 (b + q) (by omega) (by omega)
          simp only [f_ref01_May.l2, f_ref01_May.b2]
          rw [if_pos (by (first | omega | (dsimp only [Ty.T]; omega) | (simp only [decide_eq_true_eq, decide_eq_false_iff_not, Bool.not_eq_true, Ty.T]; omega) | (simp only [decide_eq_true_eq, decide_eq_false_iff_not, Ty.T]; omega) | (simp only [beq_iff_eq, bne_iff_ne, ne_eq, decide_eq_true_eq, Ty.T]; omega))), bit_eq k _ (b + q) (by omega) hk, Option.bind_some, wsucc (b + q) (by omega), hlow]
          exact if_neg (by simp only [beq_iff_eq, Ty.T]; omega)
        · simp only [f_ref01_May.l2, f_ref01_May.b2]
          rw [if_neg (by (first | omega | (dsimp only [Ty.T]; omega) | (simp only [decide_eq_true_eq, decide_eq_false_iff_not, Bool.not_eq_true, Ty.T]; omega) | (simp only [decide_eq_true_eq, decide_eq_false_iff_not, Ty.T]; omega) | (simp only [beq_iff_eq, bne_iff_ne, ne_eq, decide_eq_true_eq, Ty.T]; omega)))]
      rw [decide_eq_true h8]
      exact this
    · rw [decide_eq_false h8]
      exact h7
theorem rport_eq (r : Rl) : port r = (if (r.2.2.2.1 == (0 : Int)) = true then (r.2.2.2.2 == (0 : Int)) else if (r.2.2.2.1 == (1 : Int)) = true then (if decide (r.2.2.2.2 ≥ (0 : Int)) = true then decide (r.2.2.2.2 ≤ (7 : Int)) else false) else false) := by
  unfold port
  by_cases h1 : r.2.2.2.1 = (0 : Int)
  · rw [h1]
    by_cases h2 : r.2.2.2.2 = (0 : Int)
    · rw [h2]; rfl
    · rw [beq_eq_false_iff_ne.2 h2]; simp
  · rw [beq_eq_false_iff_ne.2 h1]
    by_cases h3 : r.2.2.2.1 = (1 : Int)
    · rw [beq_iff_eq.2 h3]
      by_cases h4 : decide (r.2.2.2.2 ≥ (0 : Int)) = true
      · rw [h4]; simp
      · rw [Bool.eq_false_iff.2 h4]; simp
    · rw [beq_eq_false_iff_ne.2 h3]; simp
theorem rrmay_eq (k : Nat) (r : Rl) (hk : 100 ≤ k) : f_ref04_May.f k r = some (rmay r, ()) := by
  have hj1 : f_ref04_May.j1 k true r = some (false, ()) := by unfold f_ref04_May.j1; rw [if_pos rfl]
  have hj2 : f_ref04_May.j1 k false r = some (port r, ()) := by
    unfold f_ref04_May.j1
    rw [if_neg Bool.false_ne_true, rport_eq]
    split
    · rfl
    · split
      · split <;> rfl
      · rfl
  unfold f_ref04_May.f rmay
  rw [rpmay_eq k _ hk, Option.bind_some]
  dsimp only
  cases hp : pmay r.1
  · rw [if_pos (by rfl), hj1, Bool.false_and, Bool.and_false]
  · rw [if_neg (by simp)]
    by_cases h1 : r.2.1 < (-1 : Int)
    · rw [if_pos (decide_eq_true h1), hj1, decide_eq_false (p := r.2.1 ≥ -1) (Int.not_le.2 h1)]; simp
    · rw [if_neg (by rw [decide_eq_false h1]; exact Bool.false_ne_true), decide_eq_true (p := r.2.1 ≥ -1) (Int.not_lt.1 h1)]
      by_cases h2 : r.2.1 > (7 : Int)
      · rw [if_pos (decide_eq_true h2), hj1, decide_eq_false (p := r.2.1 ≤ 7) (Int.not_le.2 h2)]; simp
      · rw [if_neg (by rw [decide_eq_false h2]; exact Bool.false_ne_true), decide_eq_true (p := r.2.1 ≤ 7) (Int.not_lt.1 h2)]
        by_cases h3 : r.2.2.1 < (0 : Int)
        · rw [if_pos (decide_eq_true h3), hj1, decide_eq_false (p := r.2.2.1 ≥ 0) (Int.not_le.2 h3)]; simp
        · rw [if_neg (by rw [decide_eq_false h3]; exact Bool.false_ne_true), decide_eq_true (p := r.2.2.1 ≥ 0) (Int.not_lt.1 h3)]
          by_cases h4 : r.2.2.1 > (255 : Int)
          · rw [decide_eq_true h4, hj1, decide_eq_false (p := r.2.2.1 ≤ 255) (Int.not_le.2 h4)]; simp
          · rw [decide_eq_false h4, hj2, decide_eq_true (p := r.2.2.1 ≤ 255) (Int.not_lt.1 h4)]; simp
theorem itf (p x : Bool) : (if p = true then some (false, ()) else some (x, ())) = some (!p && x, ()) := by cases p <;> rfl
theorem ita (p x : Bool) : (if p = true then some (x, ()) else some (false, ())) = some (p && x, ()) := by cases p <;> rfl
theorem may_top (b : Bool) (x : Bool) (kd ep sq tg : Int) (r : Rl) (hx : f_ref05_May.j1 1000 false (kd, (ep, (sq, (tg, r)))) = some (x, ())) (k0 : 0 ≤ kd) (k1 : kd < 6) : f_ref05_May.f 1000 (kd, (ep, (sq, (tg, r)))) = some (!(decide (ep < 1)) && (!(decide (ep > 1048576)) && (!(decide (sq < 0)) && (!(decide (sq > 1048576)) && (!(decide (tg < 0)) && (!(decide (tg > 4095)) && x))))), ()) := by
  have hj : f_ref05_May.j1 1000 true (kd, (ep, (sq, (tg, r)))) = some (false, ()) := rfl
  have hb : ∀ b : Bool, f_ref05_May.j1 1000 b (kd, (ep, (sq, (tg, r)))) = some (!b && x, ()) := by
    intro b
    cases b
    · exact hx
    · exact hj
  unfold f_ref05_May.f
  dsimp only
  simp only [hb]
  rw [if_neg (by rw [decide_eq_false (Int.not_lt.2 k0)]; exact Bool.false_ne_true), if_neg (by rw [decide_eq_false (Int.not_le.2 k1)]; exact Bool.false_ne_true)]
  cases decide (ep < 1) <;> cases decide (ep > 1048576) <;> cases decide (sq < 0) <;> cases decide (sq > 1048576) <;> cases decide (tg < 0) <;> rfl
theorem rmmay_eq' (kd ep sq tg : Int) (r : Rl) : f_ref05_May.f 1000 (kd, (ep, (sq, (tg, r)))) = some (mmay (kd, (ep, (sq, (tg, r)))), ()) := by
  have hj : f_ref05_May.j1 1000 true (kd, (ep, (sq, (tg, r)))) = some (false, ()) := rfl
  by_cases k0 : kd < (0 : Int)
  · unfold f_ref05_May.f
    dsimp only
    rw [hj, if_pos (decide_eq_true k0)]
    unfold mmay
    rw [decide_eq_false (show ¬ (0 : Int) ≤ kd from Int.not_le.2 k0)]; rfl
  by_cases k1 : kd ≥ (6 : Int)
  · unfold f_ref05_May.f
    dsimp only
    rw [hj, if_neg (by rw [decide_eq_false k0]; exact Bool.false_ne_true), if_pos (decide_eq_true k1)]
    unfold mmay
    rw [decide_eq_false (show ¬ kd < (6 : Int) from Int.not_lt.2 k1), Bool.false_and, Bool.and_false]
  have k0' : (0 : Int) ≤ kd := Int.not_lt.1 k0
  have k1' : kd < (6 : Int) := Int.not_le.1 k1
  have fin : ∀ a b : Bool, (a = true ↔ b = true) → (some (a, ()) : Option (Bool × Unit)) = some (b, ()) := fun a b h => by rw [Bool.eq_iff_iff.2 h]
  rcases kinds6 kd k0' k1' with rfl | rfl | rfl | rfl | rfl | rfl
  · have e : f_ref05_May.j1 1000 false (0, (ep, (sq, (tg, r)))) = if (!zr r) = true then some (false, ()) else if (sq == (0 : Int)) = true then some ((tg == (0 : Int)), ()) else some (false, ()) := by kernel_rfl
    rw [ita, itf] at e
    rw [may_top false _ 0 ep sq tg r e (by decide) (by decide)]
    refine fin _ _ ?_
    unfold mmay inb
    rw [show kindOf 0 = (((0 : Int), (0 : Int)), (((0 : Int), (0 : Int)), false)) from rfl]
    dsimp only
    rw [if_neg Bool.false_ne_true]
    simp only [Bool.and_eq_true, Bool.not_eq_true', decide_eq_true_eq, decide_eq_false_iff_not, beq_iff_eq, Bool.not_not]
    cases zr r <;> simp <;> omega
  · have e : f_ref05_May.j1 1000 false (1, (ep, (sq, (tg, r)))) = if (!zr r) = true then some (false, ()) else some (true, ()) := by kernel_rfl
    rw [itf] at e
    rw [may_top false _ 1 ep sq tg r e (by decide) (by decide)]
    refine fin _ _ ?_
    unfold mmay inb
    rw [show kindOf 1 = (((0 : Int), (1048576 : Int)), (((0 : Int), (4095 : Int)), false)) from rfl]
    dsimp only
    rw [if_neg Bool.false_ne_true]
    simp only [Bool.and_eq_true, Bool.not_eq_true', decide_eq_true_eq, decide_eq_false_iff_not, beq_iff_eq, Bool.not_not]
    cases zr r <;> simp <;> omega
  · have e : f_ref05_May.j1 1000 false (2, (ep, (sq, (tg, r)))) = (f_ref04_May.f 1000 r).bind fun y => if y.1 = true then (if (decide (sq ≥ (1 : Int))) = true then some (decide (tg ≥ (1 : Int)), ()) else some (false, ())) else some (false, ()) := by kernel_rfl
    rw [rrmay_eq 1000 r (by decide), Option.bind_some] at e
    simp only [ita] at e
    rw [may_top false _ 2 ep sq tg r e (by decide) (by decide)]
    refine fin _ _ ?_
    unfold mmay inb
    rw [show kindOf 2 = (((1 : Int), (1048576 : Int)), (((1 : Int), (4095 : Int)), true)) from rfl]
    dsimp only
    rw [if_pos rfl]
    simp only [Bool.and_eq_true, Bool.not_eq_true', decide_eq_true_eq, decide_eq_false_iff_not, beq_iff_eq, Bool.not_not]
    cases rmay r <;> simp <;> omega
  · have e : f_ref05_May.j1 1000 false (3, (ep, (sq, (tg, r)))) = if (!zr r) = true then some (false, ()) else if (decide (sq ≥ (1 : Int))) = true then some (decide (tg ≥ (1 : Int)), ()) else some (false, ()) := by kernel_rfl
    rw [ita, itf] at e
    rw [may_top false _ 3 ep sq tg r e (by decide) (by decide)]
    refine fin _ _ ?_
    unfold mmay inb
    rw [show kindOf 3 = (((1 : Int), (1048576 : Int)), (((1 : Int), (4095 : Int)), false)) from rfl]
    dsimp only
    rw [if_neg Bool.false_ne_true]
    simp only [Bool.and_eq_true, Bool.not_eq_true', decide_eq_true_eq, decide_eq_false_iff_not, beq_iff_eq, Bool.not_not]
    cases zr r <;> simp <;> omega
  · have e : f_ref05_May.j1 1000 false (4, (ep, (sq, (tg, r)))) = if (!zr r) = true then some (false, ()) else if (decide (sq ≥ (1 : Int))) = true then some (decide (tg ≥ (1 : Int)), ()) else some (false, ()) := by kernel_rfl
    rw [ita, itf] at e
    rw [may_top false _ 4 ep sq tg r e (by decide) (by decide)]
    refine fin _ _ ?_
    unfold mmay inb
    rw [show kindOf 4 = (((1 : Int), (1048576 : Int)), (((1 : Int), (4095 : Int)), false)) from rfl]
    dsimp only
    rw [if_neg Bool.false_ne_true]
    simp only [Bool.and_eq_true, Bool.not_eq_true', decide_eq_true_eq, decide_eq_false_iff_not, beq_iff_eq, Bool.not_not]
    cases zr r <;> simp <;> omega
  · have e : f_ref05_May.j1 1000 false (5, (ep, (sq, (tg, r)))) = if (!zr r) = true then some (false, ()) else if (decide (sq ≥ (1 : Int))) = true then some ((tg == (0 : Int)), ()) else some (false, ()) := by kernel_rfl
    rw [ita, itf] at e
    rw [may_top false _ 5 ep sq tg r e (by decide) (by decide)]
    refine fin _ _ ?_
    unfold mmay inb
    rw [show kindOf 5 = (((1 : Int), (1048576 : Int)), (((0 : Int), (0 : Int)), false)) from rfl]
    dsimp only
    rw [if_neg Bool.false_ne_true]
    simp only [Bool.and_eq_true, Bool.not_eq_true', decide_eq_true_eq, decide_eq_false_iff_not, beq_iff_eq, Bool.not_not]
    cases zr r <;> simp <;> omega
theorem rmmay_eq (m : Mg) : f_ref05_May.f 1000 m = some (mmay m, ()) := rmmay_eq' _ _ _ _ _
theorem tb (n c : Int) (h : 0 ≤ n) (h2 : n < 4294967296) (hc : 1 ≤ c) : IntKind.u8.wrap (Int.tmod (IntKind.i64.wrap (Int.tdiv n c)) 256) = n / c % 256 := by
  rw [Int.tdiv_eq_ediv_of_nonneg h]
  have h3 : 0 ≤ n / c := Int.ediv_nonneg h (by omega)
  have h4 : n / c ≤ n := Int.ediv_le_self c h
  rw [IntWalk.i64_in _ (by omega), Int.tmod_eq_emod_of_nonneg h3, u8_in _ (by omega) (by omega)]
theorem rp1 (n : Int) (h : 0 ≤ n) (h2 : n < 256) : f_ref02_Put.f 1000 n 1 = some ([n], (0, ())) := by
  have e : f_ref02_Put.f 1000 n 1 = if (decide (n < (0 : Int))) = true then f_ref02_Put.j1 1000 n 1 true else f_ref02_Put.j1 1000 n 1 (decide (n ≥ 256)) := by kernel_rfl
  rw [e, if_neg (by rw [decide_eq_false (by omega)]; exact Bool.false_ne_true), decide_eq_false (by omega)]
  have e2 : f_ref02_Put.j1 1000 n 1 false = some ([IntKind.u8.wrap (Int.tmod (IntKind.i64.wrap (Int.tdiv n 1)) 256)], (0, ())) := by kernel_rfl
  rw [e2, tb n 1 h (by omega) (by omega), show n / 1 % 256 = n by omega]
theorem rp2 (n : Int) (h : 0 ≤ n) (h2 : n < 65536) : f_ref02_Put.f 1000 n 2 = some ([n / 256, n % 256], (0, ())) := by
  have e : f_ref02_Put.f 1000 n 2 = if (decide (n < (0 : Int))) = true then f_ref02_Put.j1 1000 n 2 true else f_ref02_Put.j1 1000 n 2 (decide (n ≥ 65536)) := by kernel_rfl
  rw [e, if_neg (by rw [decide_eq_false (by omega)]; exact Bool.false_ne_true), decide_eq_false (by omega)]
  have e2 : f_ref02_Put.j1 1000 n 2 false = some ([IntKind.u8.wrap (Int.tmod (IntKind.i64.wrap (Int.tdiv n 256)) 256), IntKind.u8.wrap (Int.tmod (IntKind.i64.wrap (Int.tdiv n 1)) 256)], (0, ())) := by kernel_rfl
  rw [e2, tb n 256 h (by omega) (by omega), tb n 1 h (by omega) (by omega), show n / 1 = n by omega, show n / 256 % 256 = n / 256 by omega]
theorem rp3 (n : Int) (h : 0 ≤ n) (h2 : n < 16777216) : f_ref02_Put.f 1000 n 3 = some ([n / 65536, n / 256 % 256, n % 256], (0, ())) := by
  have e : f_ref02_Put.f 1000 n 3 = if (decide (n < (0 : Int))) = true then f_ref02_Put.j1 1000 n 3 true else f_ref02_Put.j1 1000 n 3 (decide (n ≥ 16777216)) := by kernel_rfl
  rw [e, if_neg (by rw [decide_eq_false (by omega)]; exact Bool.false_ne_true), decide_eq_false (by omega)]
  have e2 : f_ref02_Put.j1 1000 n 3 false = some ([IntKind.u8.wrap (Int.tmod (IntKind.i64.wrap (Int.tdiv n 65536)) 256), IntKind.u8.wrap (Int.tmod (IntKind.i64.wrap (Int.tdiv n 256)) 256), IntKind.u8.wrap (Int.tmod (IntKind.i64.wrap (Int.tdiv n 1)) 256)], (0, ())) := by kernel_rfl
  rw [e2, tb n 65536 h (by omega) (by omega), tb n 256 h (by omega) (by omega), tb n 1 h (by omega) (by omega), show n / 1 = n by omega, show n / 65536 % 256 = n / 65536 by omega]
theorem rp4 (n : Int) (h : 0 ≤ n) (h2 : n < 4294967296) : f_ref02_Put.f 1000 n 4 = some ([n / 16777216, n / 65536 % 256, n / 256 % 256, n % 256], (0, ())) := by
  have e : f_ref02_Put.f 1000 n 4 = if (decide (n < (0 : Int))) = true then f_ref02_Put.j1 1000 n 4 true else f_ref02_Put.j1 1000 n 4 (decide (n ≥ 4294967296)) := by kernel_rfl
  rw [e, if_neg (by rw [decide_eq_false (by omega)]; exact Bool.false_ne_true), decide_eq_false (by omega)]
  have e2 : f_ref02_Put.j1 1000 n 4 false = some ([IntKind.u8.wrap (Int.tmod (IntKind.i64.wrap (Int.tdiv n 16777216)) 256), IntKind.u8.wrap (Int.tmod (IntKind.i64.wrap (Int.tdiv n 65536)) 256), IntKind.u8.wrap (Int.tmod (IntKind.i64.wrap (Int.tdiv n 256)) 256), IntKind.u8.wrap (Int.tmod (IntKind.i64.wrap (Int.tdiv n 1)) 256)], (0, ())) := by kernel_rfl
  rw [e2, tb n 16777216 h (by omega) (by omega), tb n 65536 h (by omega) (by omega), tb n 256 h (by omega) (by omega), tb n 1 h (by omega) (by omega), show n / 1 = n by omega, show n / 16777216 % 256 = n / 16777216 by omega]
theorem rpall (a b c d : Int) (ha : 0 ≤ a ∧ a < 256) (hb : 0 ≤ b ∧ b < 16777216) (hc : 0 ≤ c ∧ c < 16777216) (hd : 0 ≤ d ∧ d < 65536) :
    f_ref02_PutAllO.f 1000 [a, b, c, d] [1, 3, 3, 2] = some ([a, b / 65536, b / 256 % 256, b % 256, c / 65536, c / 256 % 256, c % 256, d / 256, d % 256], (0, ())) := by
  have e : f_ref02_PutAllO.f 1000 [a, b, c, d] [1, 3, 3, 2] = stepP (f_ref02_Put.f 1000 a 1) [] (fun e => some ([], (e, ()))) fun s1 => stepP (f_ref02_Put.f 1000 b 3) s1 (fun e => some ([], (e, ()))) fun s2 => stepP (f_ref02_Put.f 1000 c 3) s2 (fun e => some ([], (e, ()))) fun s3 => stepP (f_ref02_Put.f 1000 d 2) s3 (fun e => some ([], (e, ()))) fun s4 => some (s4, (0, ())) := by kernel_rfl
  rw [e, stepP_ok (rp1 a ha.1 ha.2) (by simp only [List.length_append, List.length_cons, List.length_nil]; omega), stepP_ok (rp3 b hb.1 hb.2) (by simp only [List.length_append, List.length_cons, List.length_nil]; omega), stepP_ok (rp3 c hc.1 hc.2) (by simp only [List.length_append, List.length_cons, List.length_nil]; omega), stepP_ok (rp2 d hd.1 hd.2) (by simp only [List.length_append, List.length_cons, List.length_nil]; omega)]
  rfl
theorem rpall6 (a l i p k o : Int) (ha : 0 ≤ a ∧ a < 4294967296) (hl : 0 ≤ l ∧ l < 256) (hi : 0 ≤ i ∧ i < 256) (hp : 0 ≤ p ∧ p < 256) (hk : 0 ≤ k ∧ k < 256) (ho : 0 ≤ o ∧ o < 256) :
    f_ref02_PutAll.f 1000 [a, l, i, p, k, o] [4, 1, 1, 1, 1, 1] = some ([a / 16777216, a / 65536 % 256, a / 256 % 256, a % 256, l, i, p, k, o], (0, ())) := by
  have e : f_ref02_PutAll.f 1000 [a, l, i, p, k, o] [4, 1, 1, 1, 1, 1] = stepP (f_ref02_Put.f 1000 a 4) [] (fun e => some ([], (e, ()))) fun s1 => stepP (f_ref02_Put.f 1000 l 1) s1 (fun e => some ([], (e, ()))) fun s2 => stepP (f_ref02_Put.f 1000 i 1) s2 (fun e => some ([], (e, ()))) fun s3 => stepP (f_ref02_Put.f 1000 p 1) s3 (fun e => some ([], (e, ()))) fun s4 => stepP (f_ref02_Put.f 1000 k 1) s4 (fun e => some ([], (e, ()))) fun s5 => stepP (f_ref02_Put.f 1000 o 1) s5 (fun e => some ([], (e, ()))) fun s6 => some (s6, (0, ())) := by kernel_rfl
  rw [e, stepP_ok (rp4 a ha.1 ha.2) (by simp only [List.length_append, List.length_cons, List.length_nil]; omega), stepP_ok (rp1 l hl.1 hl.2) (by simp only [List.length_append, List.length_cons, List.length_nil]; omega), stepP_ok (rp1 i hi.1 hi.2) (by simp only [List.length_append, List.length_cons, List.length_nil]; omega), stepP_ok (rp1 p hp.1 hp.2) (by simp only [List.length_append, List.length_cons, List.length_nil]; omega), stepP_ok (rp1 k hk.1 hk.2) (by simp only [List.length_append, List.length_cons, List.length_nil]; omega), stepP_ok (rp1 o ho.1 ho.2) (by simp only [List.length_append, List.length_cons, List.length_nil]; omega)]
  rfl
theorem rrput (r : Rl) (h : rmay r = true) : f_ref04_Put.f 1000 r = some (rby r, (0, ())) := by
  have q := rmay_ok h
  unfold f_ref04_Put.f
  have := q.a0; have := q.a1; have := q.l0; have := q.l1; have := q.i0; have := q.i1; have := q.p0; have := q.p1; have := q.k0; have := q.k1; have := q.o0; have := q.o1
  rw [rrmay_eq 1000 _ (by omega), h, Option.bind_some, if_neg (by decide), IntWalk.i64_in (r.2.1 + 1) (by omega), rpall6 _ _ _ _ _ _ ⟨by omega, by omega⟩ ⟨by omega, by omega⟩ ⟨by omega, by omega⟩ ⟨by omega, by omega⟩ ⟨by omega, by omega⟩ ⟨by omega, by omega⟩, Option.bind_some]
  rfl
theorem rmput (m : Mg) (h : mmay m = true) : f_ref05_Put.f 1000 m = some (mby m, (0, ())) := by
  have q := mmay_ok h
  unfold f_ref05_Put.f
  rw [rmmay_eq, h, Option.bind_some, if_neg (by decide), rpall m.1 m.2.1 m.2.2.1 m.2.2.2.1 ⟨q.k0, by have := q.k1; omega⟩ ⟨by have := q.e0; omega, by have := q.e1; omega⟩ ⟨q.s0, by have := q.s1; omega⟩ ⟨q.t0, by have := q.t1; omega⟩, Option.bind_some]
  unfold f_ref05_Put.j1 mby
  by_cases h2 : m.1 = (2 : Int)
  · rw [if_pos (beq_iff_eq.2 h2), rrput _ (q.two h2), Option.bind_some, if_pos (show _ by unfold rby; simp only [List.length_append, List.length_cons, List.length_nil]; omega), if_pos h2]
    rfl
  · rw [if_neg (by rw [beq_iff_eq]; exact h2), if_neg h2]
    rfl
theorem rseal_pre (m : Mg) (h : mmay m = true) : f_ref06_Seal.f 1000 m = f_ref06_Seal.j1 1000 (pre m) := by
  unfold f_ref06_Seal.f
  rw [rmput m h, Option.bind_some]
  unfold pre mby
  by_cases h2 : m.1 = (2 : Int)
  · rw [if_pos h2, if_pos h2]; kernel_rfl
  · rw [if_neg h2, if_neg h2]; kernel_rfl
theorem seal_same (m : Mg) : ∃ b e, f_frame_Seal.f 1000 m = some (b, (e, ())) ∧ f_ref06_Seal.f 1000 m = some (b, (e, ())) ∧ b.length < 30 := by
  by_cases h : mmay m = true
  · have hl := pre_len m
    have hl2 : (pre m).length ≤ 20 := by rw [hl]; split <;> omega
    have hp := pre_pos m h
    have hf := fl_range _ hp
    have hs := sum_eq (pre m) (pre_oct m h) (by omega)
    have hs2 := rsum_eq (pre m) (pre_oct m h) (by omega)
    refine ⟨pre m ++ [(65535 - fl (tot (pre m) (pre m).length)) / 256, (65535 - fl (tot (pre m) (pre m).length)) % 256], 0, ?_, ?_, by simp; omega⟩
    · rw [seal_pre m h]
      unfold f_frame_Seal.j1
      rw [hs, Option.bind_some, if_pos (by omega)]
      generalize fl (tot (pre m) (pre m).length) = F at hf ⊢
      have e1 : (2 : Int) ^ (min (8 : Int).toNat IntKind.i64.bits) = 256 := by decide
      dsimp only
      rw [e1, fdiv_pos _ _ (by omega), u8_mod, u8_mod, show (65535 - F) / 256 % 256 = (65535 - F) / 256 by omega]
    · rw [rseal_pre m h]
      unfold f_ref06_Seal.j1
      rw [hs2, Option.bind_some, rp2 _ (by omega) (by omega), Option.bind_some, if_pos (by simp only [List.length_cons, List.length_nil]; omega)]
  · refine ⟨[], 1, seal_no m h, ?_, by simp⟩
    unfold f_ref06_Seal.f f_ref05_Put.f
    rw [rmmay_eq, Bool.eq_false_iff.2 h]
    rfl
abbrev Wr' := T2b36.T
def wireU (i : Nat) : Option f_frame_Seal.R → Option Wr'
  | some y => if y.2.1 = (0 : Int) then some ((i : Int), (false, y.1)) else none
  | none => none
noncomputable def wires (i : Nat) (l : List Mg) : List Wr' := l.filterMap fun m => wireU i (f_frame_Seal.f 1000 m)
theorem wires_len (i : Nat) (l : List Mg) : (wires i l).length ≤ l.length := List.length_filterMap_le _ _
noncomputable def sentBy (i : Nat) (p : Pr) : List Wr' := if p.1 ≤ (0 : Int) then [] else wires i (p.2.2.2.2.take 2)
theorem sent_len (i : Nat) (p : Pr) : (sentBy i p).length ≤ 2 := by
  unfold sentBy
  split
  · simp
  · have := wires_len i (p.2.2.2.2.take 2)
    rw [List.length_take] at this
    omega
noncomputable def sends (xs : List Pr) : List Wr' := (xs.mapIdx sentBy).flatten
theorem first_code (S : Ss) (h : S.2.2.length ≤ 1000) : f_sess_First.f 1000 S 2 = some (S.2.2.take 2, ()) := by
  unfold f_sess_First.f
  have e : (if 0 > (2 : Int) then (0 : Int) else 2) = 2 := rfl
  rw [e]
  by_cases hl : (S.2.2.length : Int) < 2
  · rw [if_pos hl, if_pos ⟨by omega, by omega, by omega⟩, clone_m 1000 _ (by rw [List.length_drop, List.length_take]; omega), Option.bind_some]
    rw [Int.toNat_natCast, List.take_length, List.take_of_length_le (show S.2.2.length ≤ 2 by omega)]
    rfl
  · rw [if_neg hl, if_pos ⟨by omega, by omega, by omega⟩, clone_m 1000 _ (by rw [List.length_drop, List.length_take]; omega), Option.bind_some]
    rfl
theorem first_ref (S : Ss) (h : S.2.2.length ≤ 1000) : f_ref15_First.f 1000 S 2 = some (S.2.2.take 2, ()) := by
  unfold f_ref15_First.f
  refine loop (fun m i => f_ref15_First.l1 1000 m 2 (i : Int) S (S.2.2.take i)) (min 2 S.2.2.length) _ (fun m i hi => ?_) (fun m => ?_) 1000 (by omega)
  · have hl : i < S.2.2.length := by omega
    simp only [f_ref15_First.l1, f_ref15_First.b1, f_ref15_First.j2]
    rw [if_pos (by (first | omega | (dsimp only [Ty.T]; omega) | (simp only [decide_eq_true_eq, decide_eq_false_iff_not, Bool.not_eq_true, Ty.T]; omega) | (simp only [decide_eq_true_eq, decide_eq_false_iff_not, Ty.T]; omega) | (simp only [beq_iff_eq, bne_iff_ne, ne_eq, decide_eq_true_eq, Ty.T]; omega))), if_pos (by (first | omega | (dsimp only [Ty.T]; omega) | (simp only [decide_eq_true_eq, decide_eq_false_iff_not, Bool.not_eq_true, Ty.T]; omega) | (simp only [decide_eq_true_eq, decide_eq_false_iff_not, Ty.T]; omega) | (simp only [beq_iff_eq, bne_iff_ne, ne_eq, decide_eq_true_eq, Ty.T]; omega))), if_pos (by omega), if_pos (by omega), if_pos (by rw [List.length_take]; omega), wsucc i (by omega), att_n (e := T4414) S.2.2 i hl, List.take_succ_eq_append_getElem hl]
  · simp only [f_ref15_First.l1, f_ref15_First.b1, f_ref15_First.j2]
    by_cases hl : S.2.2.length < 2
    · rw [Nat.min_eq_right (by omega), if_neg (by (first | omega | (dsimp only [Ty.T]; omega) | (simp only [decide_eq_true_eq, decide_eq_false_iff_not, Bool.not_eq_true, Ty.T]; omega) | (simp only [decide_eq_true_eq, decide_eq_false_iff_not, Ty.T]; omega) | (simp only [beq_iff_eq, bne_iff_ne, ne_eq, decide_eq_true_eq, Ty.T]; omega))), if_neg Bool.false_ne_true, List.take_of_length_le (Nat.le_refl _), List.take_of_length_le (by omega)]
    · rw [Nat.min_eq_left (by omega)]
      by_cases h2 : (((2 : Nat) : Int) < (S.2.2.length : Int))
      · rw [if_pos (decide_eq_true h2), if_neg (by decide)]
      · rw [if_neg (by rw [decide_eq_false h2]; exact Bool.false_ne_true), if_neg Bool.false_ne_true]
theorem in_code (L1 : List T23b6.T → Int → Int → List T2b36.T → Option f_control_Sends.R) (xs : List Pr) (n : Int) (i : Nat) (hi : i < 1000) (l : List Mg) (hl : l.length ≤ 2) : ∀ d j m (acc : List Wr'), j + d = l.length → d < m → acc.length ≤ 100 + j → f_control_Sends.l2 L1 1000 m (i : Int) xs n (i : Int) l (l.length : Int) (j : Int) acc = L1 xs n ((i + 1 : Nat) : Int) (acc ++ wires i (l.drop j)) := by
  intro d
  induction d with
  | zero =>
    intro j m acc h hm ha
    obtain ⟨m, rfl⟩ : ∃ m', m = m' + 1 := ⟨m - 1, by omega⟩
    simp only [f_control_Sends.l2, f_control_Sends.b2, f_control_Sends.j4]
    rw [if_neg (by (first | omega | (dsimp only [Ty.T]; omega) | (simp only [decide_eq_true_eq, decide_eq_false_iff_not, Bool.not_eq_true, Ty.T]; omega) | (simp only [decide_eq_true_eq, decide_eq_false_iff_not, Ty.T]; omega) | (simp only [beq_iff_eq, bne_iff_ne, ne_eq, decide_eq_true_eq, Ty.T]; omega))), wsucc i (by omega), List.drop_eq_nil_of_le (by omega)]
    unfold wires
    rw [List.filterMap_nil, List.append_nil]
  | succ d ih =>
    intro j m acc h hm ha
    obtain ⟨m, rfl⟩ : ∃ m', m = m' + 1 := ⟨m - 1, by omega⟩
    have hj : j < l.length := by omega
    obtain ⟨b, e, h1, h2, h3⟩ := seal_same l[j]
    simp only [f_control_Sends.l2, f_control_Sends.b2, f_control_Sends.j3]
    rw [if_pos (by (first | omega | (dsimp only [Ty.T]; omega) | (simp only [decide_eq_true_eq, decide_eq_false_iff_not, Bool.not_eq_true, Ty.T]; omega) | (simp only [decide_eq_true_eq, decide_eq_false_iff_not, Ty.T]; omega) | (simp only [beq_iff_eq, bne_iff_ne, ne_eq, decide_eq_true_eq, Ty.T]; omega))), if_pos (by omega), if_pos (by omega), att_n (e := T4414) l j hj, h1, Option.bind_some, wsucc j (by omega)]
    have hw : wires i (l.drop j) = (if e = (0 : Int) then [((i : Int), (false, b))] else []) ++ wires i (l.drop (j + 1)) := by
      unfold wires
      rw [List.drop_eq_getElem_cons hj, List.filterMap_cons, h1]
      unfold wireU
      dsimp only
      by_cases he : e = (0 : Int)
      · rw [if_pos he, if_pos he]; rfl
      · rw [if_neg he, if_neg he]; rfl
    dsimp only
    by_cases he : e = (0 : Int)
    · rw [if_pos (beq_iff_eq.2 he), if_pos (by omega), ih (j + 1) m _ (by omega) (by omega) (by rw [List.length_append, List.length_singleton]; omega), hw, if_pos he, List.append_assoc]
    · rw [if_neg (by rw [beq_iff_eq]; exact he), ih (j + 1) m _ (by omega) (by omega) (by omega), hw, if_neg he, List.nil_append]
theorem in_ref (c : Ct) (L1 : Int → List T2b36.T → Option f_ref21_Sends.R) (i : Nat) (hi : i < c.2.2.2.2.2.2.2.2.1.length) (hc : c.2.2.2.2.2.2.2.2.1.length ≤ 12) (he0 : ¬ c.2.2.2.2.2.2.2.2.1[i].1 ≤ (0 : Int)) (l : List Mg) (hl : l.length ≤ 2) : ∀ d j m (acc : List Wr'), j + d = l.length → d < m → acc.length ≤ 100 + j → f_ref21_Sends.l2 c L1 1000 m (i : Int) l (j : Int) acc = L1 ((i + 1 : Nat) : Int) (acc ++ wires i (l.drop j)) := by
  intro d
  induction d with
  | zero =>
    intro j m acc h hm ha
    obtain ⟨m, rfl⟩ : ∃ m', m = m' + 1 := ⟨m - 1, by omega⟩
    simp only [f_ref21_Sends.l2, f_ref21_Sends.b2, f_ref21_Sends.j4]
    rw [if_neg (by (first | omega | (dsimp only [Ty.T]; omega) | (simp only [decide_eq_true_eq, decide_eq_false_iff_not, Bool.not_eq_true, Ty.T]; omega) | (simp only [decide_eq_true_eq, decide_eq_false_iff_not, Ty.T]; omega) | (simp only [beq_iff_eq, bne_iff_ne, ne_eq, decide_eq_true_eq, Ty.T]; omega))), if_neg Bool.false_ne_true, wsucc i (by omega), List.drop_eq_nil_of_le (by omega)]
    unfold wires
    rw [List.filterMap_nil, List.append_nil]
  | succ d ih =>
    intro j m acc h hm ha
    obtain ⟨m, rfl⟩ : ∃ m', m = m' + 1 := ⟨m - 1, by omega⟩
    have hj : j < l.length := by omega
    obtain ⟨b, e, h1, h2, h3⟩ := seal_same l[j]
    simp only [f_ref21_Sends.l2, f_ref21_Sends.b2, f_ref21_Sends.j4, f_ref21_Sends.j3]
    rw [if_pos (by (first | omega | (dsimp only [Ty.T]; omega) | (simp only [decide_eq_true_eq, decide_eq_false_iff_not, Bool.not_eq_true, Ty.T]; omega) | (simp only [decide_eq_true_eq, decide_eq_false_iff_not, Ty.T]; omega) | (simp only [beq_iff_eq, bne_iff_ne, ne_eq, decide_eq_true_eq, Ty.T]; omega))), if_pos (by omega), if_pos (by omega), att_n (e := T23b6) _ i hi, decide_eq_true (Int.not_le.1 he0), if_pos rfl, if_pos (by omega), if_pos (by omega), att_n (e := T4414) l j hj, h2, Option.bind_some, wsucc j (by omega)]
    have hw : wires i (l.drop j) = (if e = (0 : Int) then [((i : Int), (false, b))] else []) ++ wires i (l.drop (j + 1)) := by
      unfold wires
      rw [List.drop_eq_getElem_cons hj, List.filterMap_cons, h1]
      unfold wireU
      dsimp only
      by_cases he : e = (0 : Int)
      · rw [if_pos he, if_pos he]; rfl
      · rw [if_neg he, if_neg he]; rfl
    dsimp only
    by_cases he : e = (0 : Int)
    · rw [if_pos (beq_iff_eq.2 he), if_pos (by omega), ih (j + 1) m _ (by omega) (by omega) (by rw [List.length_append, List.length_singleton]; omega), hw, if_pos he, List.append_assoc]
    · rw [if_neg (by rw [beq_iff_eq]; exact he), ih (j + 1) m _ (by omega) (by omega) (by omega), hw, if_neg he, List.nil_append]
theorem out_code (xs : List Pr) (hx : xs.length ≤ 12) (ho : ∀ y ∈ xs, y.2.2.2.2.length ≤ 100) : ∀ d i m (acc : List Wr'), i + d = xs.length → d < m → acc.length ≤ 2 * i → f_control_Sends.l1 1000 m xs (xs.length : Int) (i : Int) acc = some (acc ++ ((xs.mapIdx sentBy).drop i).flatten, ()) := by
  intro d
  induction d with
  | zero =>
    intro i m acc h hm ha
    obtain ⟨m, rfl⟩ : ∃ m', m = m' + 1 := ⟨m - 1, by omega⟩
    simp only [f_control_Sends.l1, f_control_Sends.b1]
    rw [if_neg (by (first | omega | (dsimp only [Ty.T]; omega) | (simp only [decide_eq_true_eq, decide_eq_false_iff_not, Bool.not_eq_true, Ty.T]; omega) | (simp only [decide_eq_true_eq, decide_eq_false_iff_not, Ty.T]; omega) | (simp only [beq_iff_eq, bne_iff_ne, ne_eq, decide_eq_true_eq, Ty.T]; omega))), List.drop_eq_nil_of_le (by rw [List.length_mapIdx]; omega)]
    simp
  | succ d ih =>
    intro i m acc h hm ha
    obtain ⟨m, rfl⟩ : ∃ m', m = m' + 1 := ⟨m - 1, by omega⟩
    have hi : i < xs.length := by omega
    have hoi := ho _ (List.getElem_mem hi)
    have hs := sent_len i xs[i]
    simp only [f_control_Sends.l1, f_control_Sends.b1, f_control_Sends.j4]
    rw [if_pos (by (first | omega | (dsimp only [Ty.T]; omega) | (simp only [decide_eq_true_eq, decide_eq_false_iff_not, Bool.not_eq_true, Ty.T]; omega) | (simp only [decide_eq_true_eq, decide_eq_false_iff_not, Ty.T]; omega) | (simp only [beq_iff_eq, bne_iff_ne, ne_eq, decide_eq_true_eq, Ty.T]; omega))), if_pos (by omega), if_pos (by omega), att_n (e := T23b6) xs i hi, List.drop_eq_getElem_cons (by rw [List.length_mapIdx]; exact hi), List.getElem_mapIdx, List.flatten_cons]
    by_cases he : xs[i].1 ≤ (0 : Int)
    · rw [if_pos (decide_eq_true he), wsucc i (by omega), ih (i + 1) m acc (by omega) (by omega) (by omega)]
      unfold sentBy
      rw [if_pos he, List.nil_append]
    · rw [if_neg (by rw [decide_eq_false he]; exact Bool.false_ne_true), first_code _ (by omega), Option.bind_some]
      have hin := in_code (f_control_Sends.l1 1000 m) xs (xs.length : Int) i (by omega) (xs[i].2.2.2.2.take 2) (by rw [List.length_take]; omega) (xs[i].2.2.2.2.take 2).length 0 1000 acc (by omega) (by rw [List.length_take]; omega) (by omega)
      dsimp only
      refine hin.trans ?_
      have hsb : sentBy i xs[i] = wires i (xs[i].2.2.2.2.take 2) := by unfold sentBy; rw [if_neg he]
      rw [hsb] at hs ⊢
      rw [List.drop_zero, ih (i + 1) m _ (by omega) (by omega) (by rw [List.length_append]; omega), List.append_assoc]
theorem out_ref (c : Ct) (hx : c.2.2.2.2.2.2.2.2.1.length ≤ 12) (ho : ∀ y ∈ c.2.2.2.2.2.2.2.2.1, y.2.2.2.2.length ≤ 100) : ∀ d i m (acc : List Wr'), i + d = c.2.2.2.2.2.2.2.2.1.length → d < m → acc.length ≤ 2 * i → f_ref21_Sends.l1 c 1000 m (i : Int) acc = some (acc ++ ((c.2.2.2.2.2.2.2.2.1.mapIdx sentBy).drop i).flatten, ()) := by
  intro d
  induction d with
  | zero =>
    intro i m acc h hm ha
    obtain ⟨m, rfl⟩ : ∃ m', m = m' + 1 := ⟨m - 1, by omega⟩
    simp only [f_ref21_Sends.l1, f_ref21_Sends.b1]
    rw [if_neg (by (first | omega | (dsimp only [Ty.T]; omega) | (simp only [decide_eq_true_eq, decide_eq_false_iff_not, Bool.not_eq_true, Ty.T]; omega) | (simp only [decide_eq_true_eq, decide_eq_false_iff_not, Ty.T]; omega) | (simp only [beq_iff_eq, bne_iff_ne, ne_eq, decide_eq_true_eq, Ty.T]; omega))), List.drop_eq_nil_of_le (by rw [List.length_mapIdx]; omega)]
    simp
  | succ d ih =>
    intro i m acc h hm ha
    obtain ⟨m, rfl⟩ : ∃ m', m = m' + 1 := ⟨m - 1, by omega⟩
    have hi : i < c.2.2.2.2.2.2.2.2.1.length := by omega
    have hoi := ho _ (List.getElem_mem hi)
    have hs := sent_len i c.2.2.2.2.2.2.2.2.1[i]
    simp only [f_ref21_Sends.l1, f_ref21_Sends.b1]
    rw [if_pos (by (first | omega | (dsimp only [Ty.T]; omega) | (simp only [decide_eq_true_eq, decide_eq_false_iff_not, Bool.not_eq_true, Ty.T]; omega) | (simp only [decide_eq_true_eq, decide_eq_false_iff_not, Ty.T]; omega) | (simp only [beq_iff_eq, bne_iff_ne, ne_eq, decide_eq_true_eq, Ty.T]; omega))), if_pos (by omega), if_pos (by omega), att_n (e := T23b6) _ i hi, first_ref _ (by omega), Option.bind_some, List.drop_eq_getElem_cons (by rw [List.length_mapIdx]; exact hi), List.getElem_mapIdx, List.flatten_cons]
    by_cases he : c.2.2.2.2.2.2.2.2.1[i].1 ≤ (0 : Int)
    · have hsb : sentBy i c.2.2.2.2.2.2.2.2.1[i] = [] := by unfold sentBy; rw [if_pos he]
      rw [hsb, List.nil_append]
      have hz : ∀ l : List Mg, f_ref21_Sends.l2 c (f_ref21_Sends.l1 c 1000 m) 1000 1000 (i : Int) l 0 acc = f_ref21_Sends.l1 c 1000 m ((i + 1 : Nat) : Int) acc := by
        intro l
        have hb : ∀ q, f_ref21_Sends.l2 c (f_ref21_Sends.l1 c 1000 m) 1000 (q + 1) (i : Int) l 0 acc = f_ref21_Sends.b2 c (f_ref21_Sends.l1 c 1000 m) (f_ref21_Sends.l2 c (f_ref21_Sends.l1 c 1000 m) 1000 q) 1000 (i : Int) l 0 acc := fun _ => rfl
        rw [hb 999]
        unfold f_ref21_Sends.b2 f_ref21_Sends.j4
        rw [wsucc i (by omega)]
        by_cases hl : (0 : Int) < (l.length : Int)
        · rw [if_pos (decide_eq_true hl), if_pos (by omega), if_pos (by omega), att_n (e := T23b6) _ i hi, decide_eq_false (Int.not_lt.2 he), if_neg Bool.false_ne_true]
        · rw [if_neg (by rw [decide_eq_false hl]; exact Bool.false_ne_true), if_neg Bool.false_ne_true]
      dsimp only
      rw [hz, ih (i + 1) m acc (by omega) (by omega) (by omega)]
    · have hin := in_ref c (f_ref21_Sends.l1 c 1000 m) i hi hx he (c.2.2.2.2.2.2.2.2.1[i].2.2.2.2.take 2) (by rw [List.length_take]; omega) (c.2.2.2.2.2.2.2.2.1[i].2.2.2.2.take 2).length 0 1000 acc (by omega) (by rw [List.length_take]; omega) (by omega)
      dsimp only
      refine hin.trans ?_
      have hsb : sentBy i c.2.2.2.2.2.2.2.2.1[i] = wires i (c.2.2.2.2.2.2.2.2.1[i].2.2.2.2.take 2) := by unfold sentBy; rw [if_neg he]
      rw [hsb] at hs ⊢
      rw [List.drop_zero, ih (i + 1) m _ (by omega) (by omega) (by rw [List.length_append]; omega), List.append_assoc]
noncomputable def sendsC (c : Ct) : List Wr' := if isC c = true then sends c.2.2.2.2.2.2.2.2.1 else []
theorem sends_code (c : Ct) (h : FewOf c) : f_control_Sends.f 1000 c = some (sendsC c, ()) := by
  unfold f_control_Sends.f sendsC
  rw [qi_control_controller_is_023 (h := by have := h.q; omega), Option.bind_some]
  have hq : isB c.1.length c.2.1 c.2.2.1 c.2.2.2.2.2.1 c.2.2.2.2.2.2.2.1 c.2.2.2.2.2.2.2.2.1.length = isC c := rfl
  dsimp only
  rw [hq]
  cases hc : isC c with
  | false => rw [if_pos (by rfl), if_neg Bool.false_ne_true]
  | true =>
    rw [if_neg (by exact Bool.false_ne_true), if_pos rfl]
    exact out_code _ h.p h.o c.2.2.2.2.2.2.2.2.1.length 0 1000 [] (by omega) (by have := h.p; omega) (by simp)
theorem sends_ref (c : Ct) (h : FewOf c) : f_ref21_Sends.f 1000 c = some (sendsC c, ()) := by
  unfold f_ref21_Sends.f sendsC
  rw [ref_may c h, Option.bind_some]
  cases hc : isC c with
  | false => rw [if_pos (by rfl), if_neg Bool.false_ne_true]
  | true =>
    rw [if_neg (by exact Bool.false_ne_true), if_pos rfl]
    exact out_ref c h.p h.o c.2.2.2.2.2.2.2.2.1.length 0 1000 [] (by omega) (by have := h.p; omega) (by simp)
theorem sends_len (xs : List Pr) (h : xs.length ≤ 12) : (sends xs).length ≤ 24 := by
  unfold sends
  have key : ∀ (l : List (List Wr')), (∀ y ∈ l, y.length ≤ 2) → l.flatten.length ≤ 2 * l.length := by
    intro l
    induction l with
    | nil => intro _; simp
    | cons a r ih =>
      intro hl
      have h1 := hl a (List.mem_cons_self ..)
      have h2 := ih fun y hy => hl y (List.mem_cons_of_mem _ hy)
      rw [List.flatten_cons, List.length_append, List.length_cons]
      omega
  have := key (xs.mapIdx sentBy) fun y hy => by
    obtain ⟨i, hi, rfl⟩ := List.getElem_of_mem hy
    rw [List.getElem_mapIdx]
    exact sent_len _ _
  rw [List.length_mapIdx] at this
  omega
theorem str_refl (x : List Int) : strEq x x = true := by
  unfold strEq
  exact beq_self_eq_true _
theorem same_14 (l : List T2b36.T) (h : l.length ≤ 24) : f_ref14_Same.f 1000 l l = some (true, ()) := by
  unfold f_ref14_Same.f
  rw [if_neg (by simp)]
  refine loop (fun m i => f_ref14_Same.l1 1000 m l l (i : Int)) l.length _ (fun m i hi => ?_) (fun m => ?_) 1000 (by omega)
  · simp only [f_ref14_Same.l1, f_ref14_Same.b1, f_ref14_One.f]
    rw [if_pos (by (first | omega | (dsimp only [Ty.T]; omega) | (simp only [decide_eq_true_eq, decide_eq_false_iff_not, Bool.not_eq_true, Ty.T]; omega) | (simp only [decide_eq_true_eq, decide_eq_false_iff_not, Ty.T]; omega) | (simp only [beq_iff_eq, bne_iff_ne, ne_eq, decide_eq_true_eq, Ty.T]; omega))), if_pos (by omega), if_pos (by omega), if_pos (by omega), wsucc i (by omega), if_pos (by simp), if_pos (by simp), Option.bind_some, str_refl, if_neg (by decide)]
  · simp only [f_ref14_Same.l1, f_ref14_Same.b1]
    rw [if_neg (by (first | omega | (dsimp only [Ty.T]; omega) | (simp only [decide_eq_true_eq, decide_eq_false_iff_not, Bool.not_eq_true, Ty.T]; omega) | (simp only [decide_eq_true_eq, decide_eq_false_iff_not, Ty.T]; omega) | (simp only [beq_iff_eq, bne_iff_ne, ne_eq, decide_eq_true_eq, Ty.T]; omega)))]
theorem same_9 (l : List T814c.T) (h : l.length ≤ 2) (hr : ∀ v ∈ l, v.2.length < 1000) : f_ref09_Same.f 1000 l l = some (true, ()) := by
  unfold f_ref09_Same.f
  rw [if_neg (by simp)]
  refine loop (fun m i => f_ref09_Same.l1 1000 m l l (i : Int)) l.length _ (fun m i hi => ?_) (fun m => ?_) 1000 (by omega)
  · simp only [f_ref09_Same.l1, f_ref09_Same.b1, f_ref09_Same.j2]
    rw [if_pos (by (first | omega | (dsimp only [Ty.T]; omega) | (simp only [decide_eq_true_eq, decide_eq_false_iff_not, Bool.not_eq_true, Ty.T]; omega) | (simp only [decide_eq_true_eq, decide_eq_false_iff_not, Ty.T]; omega) | (simp only [beq_iff_eq, bne_iff_ne, ne_eq, decide_eq_true_eq, Ty.T]; omega))), if_pos (by omega), if_pos (by omega), if_pos (by omega), att_n (e := T814c) l i hi, rules_refl _ (hr _ (List.getElem_mem hi)), Option.bind_some, if_neg (by decide), wsucc i (by omega), if_neg (by simp)]
  · simp only [f_ref09_Same.l1, f_ref09_Same.b1]
    rw [if_neg (by (first | omega | (dsimp only [Ty.T]; omega) | (simp only [decide_eq_true_eq, decide_eq_false_iff_not, Bool.not_eq_true, Ty.T]; omega) | (simp only [decide_eq_true_eq, decide_eq_false_iff_not, Ty.T]; omega) | (simp only [beq_iff_eq, bne_iff_ne, ne_eq, decide_eq_true_eq, Ty.T]; omega)))]
theorem P_ControlTicks (x0 : Ct) (x1 : Int) (_ : Wf T26b3 x0) (_ : Wf (.int .i64) x1) : ∃ k, f_law21_ControlTicks.f k x0 x1 = some (true, ()) := by
  refine ⟨1000, ?_⟩
  obtain ⟨b, hb, hf⟩ := fewC x0
  unfold f_law21_ControlTicks.f
  rw [awake21, Option.bind_some, hb, Option.bind_some, if_neg (by simp)]
  unfold f_law21_ControlTicks.j1
  by_cases hbt : b = true
  · have h := hf hbt
    rw [if_neg (by rw [hbt]; simp)]
    obtain ⟨cs, live, next, tag, new, ph, timer, queue, peers, given, done, undone, junk⟩ := x0
    have ht := tick_code cs live next tag new ph timer queue peers given done undone junk h
    have hr := tick_ref cs live next tag new ph timer queue peers given done undone junk h
    have hB := tick_big cs live next tag new ph timer queue peers given done undone junk h
    unfold ctl at ht hr
    rw [ht, Option.bind_some, hr, Option.bind_some, same_big _ hB, Option.bind_some, sends_code _ h, Option.bind_some, sends_ref _ h, Option.bind_some]
    have hsl : (sendsC (cs, live, next, tag, new, ph, timer, queue, peers, given, done, undone, junk)).length ≤ 24 := by
      unfold sendsC
      split
      · exact sends_len _ h.p
      · simp
    rw [same_14 _ hsl, Option.bind_some, live_c _ h, Option.bind_some, ref_live _ h, Option.bind_some]
    by_cases hc : isC (cs, live, next, tag, new, ph, timer, queue, peers, given, done, undone, junk) = true
    · have hq : isB cs.length live next ph queue peers.length = true := hc
      have hl := isB_live hq
      rw [if_pos hc]
      have q1 := lvs_len cs live next tag new ph x1
      have q2 := lvs_each (fun x hx => (h.r x hx).2) hl.1 hl.2 (fun ht => isB_next hq ht) tag new x1
      have hs9 : f_ref09_Same.f 1000 (lvC (cs, live, next, tag, new, ph, timer, queue, peers, given, done, undone, junk) x1) (lvC (cs, live, next, tag, new, ph, timer, queue, peers, given, done, undone, junk) x1) = some (true, ()) := same_9 (lvs cs live next tag new ph x1) q1 (fun v hv => by have := q2 v hv; omega)
      dsimp only
      rw [hs9, Option.bind_some]
      simp
    · rw [if_neg hc, same_9 _ (by simp) (by simp), Option.bind_some]
      simp
  · rw [if_pos (by rw [Bool.eq_false_iff.2 hbt]; rfl)]
end Go.Proofs.YtkhjemahenkdiaaGreatDoor.V
