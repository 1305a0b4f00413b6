/- What the law needs of plain Lean, and the law itself over it. -/
import Derived.Test.YtkhjemahenkdiaaGreatDoorVF2
import Derived.Test.YtkhjemahenkdiaaGreatDoorVBase
import Derived.IntWalk
import Derived.Test.YtkhjemahenkdiaaGreatDoorVZ
namespace Go.Proofs.YtkhjemahenkdiaaGreatDoor.V
open Go Go.RowKit
set_option synthInstance.maxSize 2000
set_option synthInstance.maxHeartbeats 200000
set_option linter.unusedVariables false
set_option linter.unusedSimpArgs false
set_option maxRecDepth 10000
theorem wsucc (i : Nat) (h : i < 1000000) : IntKind.i64.wrap ((i : Int) + 1) = ((i + 1 : Nat) : Int) := by rw [IntWalk.i64_in _ (by omega)]; omega
theorem att_n {e : Ty} (xs : List e.T) (i : Nat) (h : i < xs.length) : att e xs (i : Int) = xs[i] := by
  unfold att
  rw [Int.toNat_natCast, List.getElem?_eq_getElem h]
  rfl
theorem loop_at {R : Type} (B : Nat → Nat → Option R) (j : Nat) (r : Option R) (step : ∀ m i, i < j → B (m + 1) i = B m (i + 1)) (fin : ∀ m, B (m + 1) j = r) : ∀ d i m, i + d = j → d < m → B m i = r
  | 0, i, m + 1, h, _ => by rw [show i = j by omega]; exact fin m
  | d + 1, i, m + 1, h, hm => by rw [step m i (by omega)]; exact loop_at B j r step fin d (i + 1) m (by omega) (by omega)
theorem loop {R : Type} (B : Nat → Nat → Option R) (j : Nat) (r : Option R) (step : ∀ m i, i < j → B (m + 1) i = B m (i + 1)) (fin : ∀ m, B (m + 1) j = r) (m : Nat) (hm : j < m) : B m 0 = r := loop_at B j r step fin j 0 m (by omega) hm
theorem fi_not {α : Type} {p : α → Bool} {xs : List α} {i : Nat} (hi : i < xs.findIdx p) (hl : i < xs.length) : p xs[i] = false := by simpa using List.not_of_lt_findIdx hi
abbrev Rl := T1383.T
abbrev Vr := T814c.T
def hasTag (tag : Int) (v : Vr) : Bool := v.1 == tag
def tagAt (t : List Vr) (tag : Int) : Nat := t.findIdx (hasTag tag)
def sizeOf' (t : List Vr) : Nat := (t.map fun v => v.2.length).sum
theorem size_take_le (t : List Vr) (i : Nat) : sizeOf' (t.take i) ≤ sizeOf' t := by
  unfold sizeOf'
  conv => rhs; rw [← List.take_append_drop i t, List.map_append, List.sum_append]
  omega
def bnd (n : Int) : Int := if 32 < (if 0 > n then 0 else n) then 32 else if 0 > n then 0 else n
theorem bnd_range (n : Int) : 0 ≤ bnd n ∧ bnd n ≤ 32 := by unfold bnd; split <;> split <;> omega
noncomputable def mask (n : Int) : Int := IntKind.i64.wrap (IntKind.u32.wrap (IntKind.u64.wrap (4294967295 * (2 ^ (min (IntKind.i64.wrap (32 - bnd n)).toNat IntKind.u64.bits)))))
theorem mask_eq (k : Nat) (n : Int) : f_bits_Mask.f k n = some (mask n, ()) := by
  have h := bnd_range n
  unfold f_bits_Mask.f f_bits_bound.f
  simp only [Option.bind_some]
  change (if 0 ≤ IntKind.i64.wrap (32 - bnd n) then _ else _) = _
  rw [if_pos (by rw [IntWalk.i64_in _ (by omega)]; omega)]
  rfl
noncomputable def pmay (p : T713d.T) : Bool := decide (p.2 ≥ 0) && (decide (p.2 ≤ 32) && (decide (p.1 ≥ 0) && (decide (p.1 ≤ 4294967295) && IntKind.i64.wrap (((BitVec.ofInt IntKind.i64.bits p.1 &&& ~~~ BitVec.ofInt IntKind.i64.bits (mask p.2)).toNat : Int)) == (0 : Int))))
theorem pmay_eq (k : Nat) (p : T713d.T) : f_bits_May.f k p = some (pmay p, ()) := by
  unfold f_bits_May.f pmay
  simp only [mask_eq, Option.bind_some]
  by_cases h1 : decide (p.2 ≥ 0) = true <;> by_cases h2 : decide (p.2 ≤ 32) = true <;> by_cases h3 : decide (p.1 ≥ 0) = true <;> by_cases h4 : decide (p.1 ≤ 4294967295) = true <;> simp only [h1, h2, h3, h4, if_true, if_false, Bool.true_and, Bool.false_and, Bool.false_eq_true]
def port (r : Rl) : Bool := if ((r.2.2.2.1 == (0 : Int)) && ((r.2.2.2.2 == (0 : Int)) && true)) = true then true else (r.2.2.2.1 == (1 : Int)) && (decide (r.2.2.2.2 ≥ 0) && decide (r.2.2.2.2 ≤ 7))
noncomputable def rmay (r : Rl) : Bool := port r && (pmay r.1 && (decide (r.2.1 ≥ -1) && (decide (r.2.1 ≤ 7) && (decide (r.2.2.1 ≥ 0) && decide (r.2.2.1 ≤ 255)))))
theorem rmay_eq (k : Nat) (r : Rl) : f_rule_May.f k r = some (rmay r, ()) := by
  have hj : ∀ b, f_rule_May.j1 k b r = some (b && (pmay r.1 && (decide (r.2.1 ≥ -1) && (decide (r.2.1 ≤ 7) && (decide (r.2.2.1 ≥ 0) && decide (r.2.2.1 ≤ 255))))), ()) := by
    intro b
    unfold f_rule_May.j1
    simp only [pmay_eq, Option.bind_some]
    cases b <;> cases pmay r.1 <;> by_cases h2 : decide (r.2.1 ≥ -1) = true <;> by_cases h3 : decide (r.2.1 ≤ 7) = true <;> by_cases h4 : decide (r.2.2.1 ≥ 0) = true <;> simp only [h2, h3, h4, if_true, if_false, Bool.true_and, Bool.false_and, Bool.false_eq_true]
  unfold f_rule_May.f rmay port
  simp only [hj]
  by_cases h1 : ((r.2.2.2.1 == (0 : Int)) && ((r.2.2.2.2 == (0 : Int)) && true)) = true
  · rw [if_pos h1, if_pos h1]
  · rw [if_neg h1, if_neg h1]
    by_cases h2 : (r.2.2.2.1 == (1 : Int)) = true <;> by_cases h3 : decide (r.2.2.2.2 ≥ 0) = true <;> simp only [h2, h3, if_true, if_false, Bool.true_and, Bool.false_and, Bool.false_eq_true]
theorem size_le {t : List Vr} (h : ∀ v ∈ t, v.2.length < 1000) : sizeOf' t ≤ t.length * 999 := by
  induction t with
  | nil => simp [sizeOf']
  | cons v t ih =>
    have h1 := h v List.mem_cons_self
    have h2 := ih fun x hx => h x (List.mem_cons_of_mem _ hx)
    simp only [sizeOf', List.map_cons, List.sum_cons, List.length_cons] at h2 ⊢
    omega
noncomputable def of (t : List Vr) (tag : Int) : List Rl × Bool := if h : tagAt t tag < t.length then (t[tagAt t tag].2, true) else ([], false)
theorem loop_or {R : Type} (B : Nat → Nat → Option R) (n : Nat) (Q : Nat → Prop) (r a : Option R) (step : ∀ m i, i < n → (Q i ∧ B (m + 1) i = B m (i + 1)) ∨ B (m + 1) i = a) (fin : (∀ i, i < n → Q i) → ∀ m, B (m + 1) n = r) : ∀ m, n < m → ((∀ i, i < n → Q i) ∧ B m 0 = r) ∨ B m 0 = a := by
  have key : ∀ d i m, i + d = n → d < m → (∀ j, j < i → Q j) → ((∀ i, i < n → Q i) ∧ B m i = r) ∨ B m i = a := by
    intro d
    induction d with
    | zero => intro i m h hm hq; obtain rfl : i = n := by omega
              obtain ⟨m, rfl⟩ : ∃ m', m = m' + 1 := ⟨m - 1, by omega⟩
              exact .inl ⟨hq, fin hq m⟩
    | succ d ih =>
      intro i m h hm hq
      obtain ⟨m, rfl⟩ : ∃ m', m = m' + 1 := ⟨m - 1, by omega⟩
      rcases step m i (by omega) with ⟨h1, h2⟩ | h2
      · rw [h2]
        exact ih (i + 1) m (by omega) (by omega) (fun j hj => by rcases Nat.lt_or_eq_of_le (Nat.le_of_lt_succ hj) with h | rfl; exact hq j h; exact h1)
      · exact .inr h2
  intro m hm
  exact key n 0 m (by omega) hm (fun j hj => absurd hj (Nat.not_lt_zero j))
theorem size_cons (v : Vr) (b : List Vr) : sizeOf' (v :: b) = v.2.length + sizeOf' b := by simp [sizeOf']
abbrev Mg := T4414.T
abbrev Ss := Tb104.T
theorem w_one (n : Int) (h1 : n ≤ 1048576) (h2 : -1048576 ≤ n) : IntKind.i64.wrap (n + 1) = n + 1 := IntWalk.i64_in _ (by omega)
theorem own_s (k : Nat) (S U : Ss) (m : Mg) (x y : Int) (h : S.2.2.length < 1000000) : i_sess_own_b60.f k S U m x y = some (S.1, (S.2.1, (S.2.2, ()))) := by
  unfold i_sess_own_b60.f
  rw [if_pos (by omega), if_pos (by simp)]
theorem own_d (k : Nat) (S U : Ss) (n x y : Int) (h : S.2.2.length < 1000000) : i_sess_own_9f5.f k S U n x y = some (S.1, (S.2.1, (S.2.2, ()))) := by
  unfold i_sess_own_9f5.f
  rw [if_pos (by omega), if_pos (by simp)]
def push (S : Ss) (m : Mg) : Ss := (S.1, (S.2.1 + 1, S.2.2 ++ [(m.1, (S.1, (S.2.1, m.2.2.2)))]))
theorem push_eq (k : Nat) (S : Ss) (m : Mg) (h : S.2.2.length < 1000000) (h1 : S.2.1 ≤ (1048576 : Int)) (h2 : (-1048576 : Int) ≤ S.2.1) : f_sess_Push.f k S m = some (push S m, (0, ())) := by
  unfold f_sess_Push.f push
  rw [own_s k _ _ _ _ _ h, Option.bind_some]
  dsimp only
  rw [decide_eq_false (Int.not_lt.2 h1), if_neg Bool.false_ne_true, if_pos (by omega)]
  have hw : IntKind.i64.wrap (S.2.1 + 1) = S.2.1 + 1 := w_one S.2.1 h1 h2
  rw [hw]
def fresh (n : Int) (m : Mg) : Bool := !decide (m.2.2.1 ≤ n)
theorem index_s (k : Nat) (v c n x y : Int) (xs : List Mg) (hk : xs.length < k) (hs : xs.length < 1000000) :
    i_slices_IndexFunc_Msg_c91.f k v c n x y xs = some (if xs.findIdx (fun m => decide (m.2.2.1 ≤ n)) < xs.length then (xs.findIdx (fun m => decide (m.2.2.1 ≤ n)) : Int) else -1, (v, (c, (n, (x, (y, (xs, ()))))))) := by
  have hle : xs.findIdx (fun m => decide (m.2.2.1 ≤ n)) ≤ xs.length := List.findIdx_le_length
  refine loop (fun m i => i_slices_IndexFunc_Msg_c91.l1 k m (xs.length : Int) (i : Int) v c n x y xs) (xs.findIdx (fun m => decide (m.2.2.1 ≤ n))) _ (fun m i hi => ?_) (fun m => ?_) k (by omega)
  · have hl : i < xs.length := by omega
    have hn : decide (xs[i].2.2.1 ≤ n) = false := fi_not (p := fun m : Mg => decide (m.2.2.1 ≤ n)) hi hl
    simp only [i_slices_IndexFunc_Msg_c91.l1, i_slices_IndexFunc_Msg_c91.b1, i_sess_Done_1_0ff.f, att_n xs i hl, Option.bind_some, hn]
    rw [if_pos (by (first | omega | (dsimp only [Ty.T]; omega) | (simp only [decide_eq_true_eq, decide_eq_false_iff_not, Bool.not_eq_true, Ty.T]; omega) | (simp only [decide_eq_true_eq, decide_eq_false_iff_not, Ty.T]; omega) | (simp only [beq_iff_eq, bne_iff_ne, ne_eq, decide_eq_true_eq, Ty.T]; omega))), if_pos (by omega), if_pos (by omega), wsucc i (by omega)]
    simp
  · by_cases hl : xs.findIdx (fun m => decide (m.2.2.1 ≤ n)) < xs.length
    · have hn : decide (xs[xs.findIdx (fun m => decide (m.2.2.1 ≤ n))].2.2.1 ≤ n) = true := List.findIdx_getElem (p := fun m : Mg => decide (m.2.2.1 ≤ n)) (w := hl)
      simp only [i_slices_IndexFunc_Msg_c91.l1, i_slices_IndexFunc_Msg_c91.b1, i_sess_Done_1_0ff.f, att_n xs _ hl, Option.bind_some, hn]
      rw [if_pos (by (first | omega | (dsimp only [Ty.T]; omega) | (simp only [decide_eq_true_eq, decide_eq_false_iff_not, Bool.not_eq_true, Ty.T]; omega) | (simp only [decide_eq_true_eq, decide_eq_false_iff_not, Ty.T]; omega) | (simp only [beq_iff_eq, bne_iff_ne, ne_eq, decide_eq_true_eq, Ty.T]; omega))), if_pos (by omega), if_pos (by omega), if_pos hl]
      simp
    · simp only [i_slices_IndexFunc_Msg_c91.l1, i_slices_IndexFunc_Msg_c91.b1, if_neg hl]
      rw [if_neg (by (first | omega | (dsimp only [Ty.T]; omega) | (simp only [decide_eq_true_eq, decide_eq_false_iff_not, Bool.not_eq_true, Ty.T]; omega) | (simp only [decide_eq_true_eq, decide_eq_false_iff_not, Ty.T]; omega) | (simp only [beq_iff_eq, bne_iff_ne, ne_eq, decide_eq_true_eq, Ty.T]; omega)))]
def moved (n : Int) (xs : List Mg) : Nat → List Mg × Nat
  | 0 => (xs, 0)
  | j + 1 => match xs[j]? with
    | some v => if fresh n v = true then ((moved n xs j).1.set (moved n xs j).2 v, (moved n xs j).2 + 1) else moved n xs j
    | none => moved n xs j
theorem moved_ok (n : Int) (xs : List Mg) : ∀ j, j ≤ xs.length → (moved n xs j).1.length = xs.length ∧ (moved n xs j).2 ≤ j ∧ (moved n xs j).1.take (moved n xs j).2 = (xs.take j).filter (fresh n) ∧ (moved n xs j).1.drop j = xs.drop j
  | 0, _ => ⟨rfl, Nat.le_refl _, rfl, rfl⟩
  | j + 1, h => by
    obtain ⟨h1, h2, h3, h4⟩ := moved_ok n xs j (by omega)
    have hj : j < xs.length := by omega
    unfold moved
    rw [List.getElem?_eq_getElem hj]
    rw [List.take_succ_eq_append_getElem hj, List.filter_append]
    have hd : (moved n xs j).1.drop (j + 1) = xs.drop (j + 1) := by rw [← List.drop_drop, h4, List.drop_drop]
    dsimp only
    cases hf : fresh n xs[j]
    · rw [if_neg Bool.false_ne_true]
      refine ⟨h1, by omega, ?_, hd⟩
      rw [List.filter_cons, hf, if_neg Bool.false_ne_true, List.filter_nil, List.append_nil]
      exact h3
    · rw [if_pos rfl]
      refine ⟨by rw [List.length_set]; exact h1, by dsimp only; omega, ?_, ?_⟩
      · dsimp only
        rw [List.filter_cons, hf, if_pos rfl, List.filter_nil, ← h3, List.take_succ_eq_append_getElem (by rw [List.length_set]; omega), List.getElem_set_self, List.take_set_of_le (by omega)]
      · dsimp only
        rw [List.drop_set_of_lt (by omega)]
        exact hd
theorem moved_first (n : Int) (xs : List Mg) : ∀ j, j ≤ xs.findIdx (fun m => decide (m.2.2.1 ≤ n)) → moved n xs j = (xs, j)
  | 0, _ => rfl
  | j + 1, h => by
    have hle : xs.findIdx (fun m => decide (m.2.2.1 ≤ n)) ≤ xs.length := List.findIdx_le_length
    have hj : j < xs.length := by omega
    have hn : decide (xs[j].2.2.1 ≤ n) = false := fi_not (p := fun m : Mg => decide (m.2.2.1 ≤ n)) (by omega) hj
    unfold moved
    rw [List.getElem?_eq_getElem hj, moved_first n xs j (by omega)]
    have hf : fresh n xs[j] = true := by unfold fresh; rw [hn]; rfl
    dsimp only
    rw [if_pos hf, List.set_getElem_self]
theorem delete_s (k : Nat) (v c n x y : Int) (xs : List Mg) (hk : xs.length + 5 < k) (hs : xs.length < 1000000) :
    i_slices_DeleteFunc_Msg_c91.f k v c n x y xs = some (xs.filter (fresh n), (v, (c, (n, (x, (y, ())))))) := by
  have hle : xs.findIdx (fun m => decide (m.2.2.1 ≤ n)) ≤ xs.length := List.findIdx_le_length
  unfold i_slices_DeleteFunc_Msg_c91.f
  rw [index_s k v c n x y xs (by omega) hs, Option.bind_some]
  dsimp only
  by_cases hl : xs.findIdx (fun m => decide (m.2.2.1 ≤ n)) < xs.length
  · rw [if_pos hl, if_neg (by simp only [beq_iff_eq, Ty.T]; omega), wsucc _ (by omega)]
    have hn : decide (xs[xs.findIdx (fun m => decide (m.2.2.1 ≤ n))].2.2.1 ≤ n) = true := List.findIdx_getElem (p := fun m : Mg => decide (m.2.2.1 ≤ n)) (w := hl)
    have hstart : moved n xs (xs.findIdx (fun m => decide (m.2.2.1 ≤ n)) + 1) = (xs, xs.findIdx (fun m => decide (m.2.2.1 ≤ n))) := by
      unfold moved
      rw [List.getElem?_eq_getElem hl, moved_first n xs _ (Nat.le_refl _)]
      dsimp only
      rw [if_neg (by unfold fresh; rw [hn]; exact Bool.false_ne_true)]
    generalize xs.findIdx (fun m => decide (m.2.2.1 ≤ n)) = j0 at hl hle hstart ⊢
    have key := loop_at (fun m q => i_slices_DeleteFunc_Msg_c91.l1 k m ((moved n xs q).2 : Int) (q : Int) v c n x y (moved n xs q).1) xs.length (some (xs.filter (fresh n), (v, (c, (n, (x, (y, ()))))))) (fun m q hq => by
      obtain ⟨h1, h2, h3, h4⟩ := moved_ok n xs q (by omega)
      have hql : q < (moved n xs q).1.length := by omega
      have hqv : (moved n xs q).1[q] = xs[q] := by
        have := congrArg (fun l => l[0]?) h4
        simp only [List.getElem?_drop, Nat.add_zero] at this
        rw [List.getElem?_eq_getElem hql, List.getElem?_eq_getElem hq] at this
        exact Option.some.inj this
      simp only [i_slices_DeleteFunc_Msg_c91.l1, i_slices_DeleteFunc_Msg_c91.b1, i_slices_DeleteFunc_Msg_c91.j2, i_sess_Done_1_67f.f, Option.bind_some, att_n _ q hql, hqv]
      rw [if_pos (by (first | omega | (dsimp only [Ty.T]; omega) | (simp only [decide_eq_true_eq, decide_eq_false_iff_not, Bool.not_eq_true, Ty.T]; omega) | (simp only [decide_eq_true_eq, decide_eq_false_iff_not, Ty.T]; omega) | (simp only [beq_iff_eq, bne_iff_ne, ne_eq, decide_eq_true_eq, Ty.T]; omega))), if_pos (by omega), if_pos (by omega), wsucc q (by omega)]
      conv => rhs; unfold moved
      rw [List.getElem?_eq_getElem hq]
      dsimp only
      cases hf : fresh n xs[q]
      · rw [if_neg Bool.false_ne_true, if_neg (by unfold fresh at hf; rw [hf]; exact Bool.false_ne_true)]
      · rw [if_pos rfl, if_pos (by unfold fresh at hf; exact hf), if_pos (by omega), if_pos (by omega), wsucc _ (by omega), Int.toNat_natCast]) (fun m => by
      obtain ⟨h1, h2, h3, h4⟩ := moved_ok n xs xs.length (by omega)
      simp only [i_slices_DeleteFunc_Msg_c91.l1, i_slices_DeleteFunc_Msg_c91.b1]
      rw [if_neg (by (first | omega | (dsimp only [Ty.T]; omega) | (simp only [decide_eq_true_eq, decide_eq_false_iff_not, Bool.not_eq_true, Ty.T]; omega) | (simp only [decide_eq_true_eq, decide_eq_false_iff_not, Ty.T]; omega) | (simp only [beq_iff_eq, bne_iff_ne, ne_eq, decide_eq_true_eq, Ty.T]; omega))), if_pos (by omega), if_pos (by simp only [List.length_append, List.length_take, List.length_replicate, Int.toNat_natCast]; omega), Int.toNat_natCast, List.take_append_of_le_length (by rw [List.length_take]; omega), List.take_take, Nat.min_self, h3, List.take_length]) (xs.length - (j0 + 1)) (j0 + 1) k (by omega) (by omega)
    rw [hstart] at key
    exact key
  · rw [if_neg hl, if_pos (by rfl)]
    have : xs.filter (fresh n) = xs := List.filter_eq_self.2 fun m hm => by
      have := List.findIdx_eq_length.1 (show xs.findIdx (fun m : Mg => decide (m.2.2.1 ≤ n)) = xs.length by omega) m hm
      have h2 : decide (m.2.2.1 ≤ n) = false := this
      unfold fresh
      rw [h2]; rfl
    rw [this]
noncomputable def sdone (S : Ss) (v n : Int) : Ss := if v = S.1 then (S.1, (S.2.1, S.2.2.filter (fresh n))) else S
theorem done_eq (k : Nat) (S : Ss) (v n : Int) (hk : S.2.2.length + 5 < k) (hs : S.2.2.length < 1000000) : f_sess_Done.f k S v n = some (sdone S v n, ()) := by
  unfold f_sess_Done.f f_sess_Done.j1 f_sess_Done.j2 sdone
  rw [own_d k _ _ _ _ _ hs, Option.bind_some]
  dsimp only
  by_cases h : v = S.1
  · rw [if_pos (beq_iff_eq.2 h), if_pos h, delete_s k _ _ _ _ _ _ hk hs]; rfl
  · rw [if_neg (by rw [beq_eq_false_iff_ne.2 h]; exact Bool.false_ne_true), if_neg h]
def addOf (tag : Int) (r : Rl) : Mg := (2, (0, (0, (tag, r))))
def addsOf (tag : Int) (rs : List Rl) : List Mg := rs.map (addOf tag)
theorem adds_eq (k : Nat) (tag : Int) (rs : List Rl) (hk : rs.length < k) (hs : rs.length < 1000000) : f_plan_Adds.f k tag rs = some (addsOf tag rs, ()) := by
  unfold f_plan_Adds.f
  have h : i_plan_many_Rule_do_2f5.f k rs tag = some (tag, (addsOf tag rs, ())) := by
    unfold i_plan_many_Rule_do_2f5.f
    refine loop (fun m i => i_plan_many_Rule_do_2f5.l1 k m rs (rs.length : Int) (i : Int) tag (addsOf tag (rs.take i))) rs.length _ (fun m i hi => ?_) (fun m => ?_) k (by omega)
    · simp only [i_plan_many_Rule_do_2f5.l1, i_plan_many_Rule_do_2f5.b1, i_plan_Adds_1_5da.f, att_n rs i hi]
      rw [if_pos (by (first | omega | (dsimp only [Ty.T]; omega) | (simp only [decide_eq_true_eq, decide_eq_false_iff_not, Bool.not_eq_true, Ty.T]; omega) | (simp only [decide_eq_true_eq, decide_eq_false_iff_not, Ty.T]; omega) | (simp only [beq_iff_eq, bne_iff_ne, ne_eq, decide_eq_true_eq, Ty.T]; omega))), if_pos (by omega), if_pos (by omega), if_pos (by unfold addsOf; rw [List.length_map, List.length_take]; omega), Option.bind_some, wsucc i (by omega)]
      unfold addsOf
      rw [List.take_succ_eq_append_getElem hi, List.map_append]
      rfl
    · simp only [i_plan_many_Rule_do_2f5.l1, i_plan_many_Rule_do_2f5.b1]
      rw [if_neg (by (first | omega | (dsimp only [Ty.T]; omega) | (simp only [decide_eq_true_eq, decide_eq_false_iff_not, Bool.not_eq_true, Ty.T]; omega) | (simp only [decide_eq_true_eq, decide_eq_false_iff_not, Ty.T]; omega) | (simp only [beq_iff_eq, bne_iff_ne, ne_eq, decide_eq_true_eq, Ty.T]; omega))), List.take_length]
  rw [h, Option.bind_some]
def allOf (t : List Vr) : List Mg := t.flatMap fun v => addsOf v.1 v.2
theorem all_len (t : List Vr) : (allOf t).length = sizeOf' t := by
  induction t with
  | nil => rfl
  | cons v t ih =>
    unfold allOf sizeOf' at ih ⊢
    rw [List.flatMap_cons, List.length_append, ih, List.map_cons, List.sum_cons]
    unfold addsOf
    rw [List.length_map]
def syncOf (t : List Vr) (n : Int) : List Mg := allOf t ++ [(3, (0, (0, (n, ((0, 0), (0, (0, (0, 0)))))))), (5, (0, (0, (0, ((0, 0), (0, (0, (0, 0))))))))]
theorem sync_len (t : List Vr) (n : Int) : (syncOf t n).length = sizeOf' t + 2 := by unfold syncOf; rw [List.length_append, all_len]; rfl
theorem sync_eq (k : Nat) (t : List Vr) (n : Int) (hk : 100 ≤ k) (h1 : t.length ≤ 20) (h2 : ∀ v ∈ t, v.2.length ≤ 60) : f_plan_Sync.f k t n = some (syncOf t n, ()) := by
  have hz := size_le (t := t) fun v hv => by have := h2 v hv; omega
  unfold f_plan_Sync.f
  have h : i_plan_many_Ver_do_d01.f k t = some (allOf t, ()) := by
    unfold i_plan_many_Ver_do_d01.f
    refine loop (fun m i => i_plan_many_Ver_do_d01.l1 k m t (t.length : Int) (i : Int) (allOf (t.take i))) t.length _ (fun m i hi => ?_) (fun m => ?_) k (by omega)
    · have hv := h2 _ (List.getElem_mem hi)
      have hl := all_len (t.take i)
      have hl2 := size_take_le t i
      simp only [i_plan_many_Ver_do_d01.l1, i_plan_many_Ver_do_d01.b1, i_plan_Sync_1_a74.f, att_n t i hi]
      rw [if_pos (by (first | omega | (dsimp only [Ty.T]; omega) | (simp only [decide_eq_true_eq, decide_eq_false_iff_not, Bool.not_eq_true, Ty.T]; omega) | (simp only [decide_eq_true_eq, decide_eq_false_iff_not, Ty.T]; omega) | (simp only [beq_iff_eq, bne_iff_ne, ne_eq, decide_eq_true_eq, Ty.T]; omega))), if_pos (by omega), if_pos (by omega), adds_eq k _ _ (by omega) (by omega), Option.bind_some]
      dsimp only
      rw [if_pos (by unfold addsOf; rw [List.length_map]; omega), Option.bind_some, wsucc i (by omega)]
      unfold allOf
      rw [List.take_succ_eq_append_getElem hi, List.flatMap_append]
      simp
    · simp only [i_plan_many_Ver_do_d01.l1, i_plan_many_Ver_do_d01.b1]
      rw [if_neg (by (first | omega | (dsimp only [Ty.T]; omega) | (simp only [decide_eq_true_eq, decide_eq_false_iff_not, Bool.not_eq_true, Ty.T]; omega) | (simp only [decide_eq_true_eq, decide_eq_false_iff_not, Ty.T]; omega) | (simp only [beq_iff_eq, bne_iff_ne, ne_eq, decide_eq_true_eq, Ty.T]; omega))), List.take_length]
  rw [h, Option.bind_some]
  have hl := all_len t
  rw [if_pos (by dsimp only; omega)]
  rfl
def pushed (S : Ss) (ms : List Mg) : Nat → Ss
  | 0 => S
  | i + 1 => push (pushed S ms i) (att T4414 ms (i : Int))
theorem pushed_ok (S : Ss) (ms : List Mg) : ∀ i, i ≤ ms.length → (pushed S ms i).1 = S.1 ∧ (pushed S ms i).2.1 = S.2.1 + (i : Int) ∧ (pushed S ms i).2.2.length = S.2.2.length + i ∧ ∀ j (h : j < i) (hj : j < ms.length), (pushed S ms i).2.2[S.2.2.length + j]? = some (ms[j].1, (S.1, (S.2.1 + (j : Int), ms[j].2.2.2)))
  | 0, _ => ⟨rfl, (Int.add_zero _).symm, rfl, fun j h => absurd h (Nat.not_lt_zero j)⟩
  | i + 1, hi => by
    obtain ⟨h1, h2, h3, h4⟩ := pushed_ok S ms i (by omega)
    unfold pushed push
    dsimp only
    refine ⟨h1, ?_, ?_, fun j h hj => ?_⟩
    · rw [h2]
      exact Int.add_assoc _ _ _
    · rw [List.length_append, h3]; rfl
    · by_cases e : j < i
      · rw [List.getElem?_append_left (by omega)]
        exact h4 j e hj
      · obtain rfl : j = i := by omega
        rw [List.getElem?_append_right (by omega), h3, Nat.sub_self, h1, h2, att_n ms j hj]
        rfl
theorem wrap_pred (v : Int) : IntKind.i64.wrap (v - 1) ≠ v := by
  rw [IntKind.wrap_i64]
  omega
theorem pushall_eq (k : Nat) (S : Ss) (ms : List Mg) (hk : ms.length < k) (hk2 : S.2.2.length + 5 < k) (hm : ms.length ≤ 2000) (hb : S.2.2.length ≤ 200) (n1 : (1 : Int) ≤ S.2.1) (n2 : S.2.1 ≤ (1000 : Int)) : f_plan_Push.f k S ms = some (pushed S ms ms.length, ()) := by
  unfold f_plan_Push.f
  rw [done_eq k S _ _ hk2 (by omega), Option.bind_some]
  have hd : sdone S (IntKind.i64.wrap (S.1 - 1)) 0 = S := by
    unfold sdone
    rw [if_neg (wrap_pred S.1)]
  rw [hd]
  refine loop (fun m i => f_plan_Push.l1 k m ms (ms.length : Int) (i : Int) (pushed S ms i) 0 0) ms.length _ (fun m i hi => ?_) (fun m => ?_) k (by omega)
  · obtain ⟨h1, h2, h3, h4⟩ := pushed_ok S ms i (by omega)
    have hn : ∀ a : Int, 1 ≤ a → a ≤ 1000 → a + (i : Int) ≤ 1048576 ∧ (-1048576 : Int) ≤ a + (i : Int) := fun a b c => ⟨by omega, by omega⟩
    have hn2 := hn S.2.1 n1 n2
    simp only [f_plan_Push.l1, f_plan_Push.b1]
    rw [if_pos (by (first | omega | (dsimp only [Ty.T]; omega) | (simp only [decide_eq_true_eq, decide_eq_false_iff_not, Bool.not_eq_true, Ty.T]; omega) | (simp only [decide_eq_true_eq, decide_eq_false_iff_not, Ty.T]; omega) | (simp only [beq_iff_eq, bne_iff_ne, ne_eq, decide_eq_true_eq, Ty.T]; omega))), if_pos (by omega), if_pos (by omega), push_eq k _ _ (by omega) (by rw [h2]; exact hn2.1) (by rw [h2]; exact hn2.2), Option.bind_some, if_neg (by simp), wsucc i (by omega)]
    rfl
  · simp only [f_plan_Push.l1, f_plan_Push.b1, f_plan_Push.j2]
    rw [if_neg (by (first | omega | (dsimp only [Ty.T]; omega) | (simp only [decide_eq_true_eq, decide_eq_false_iff_not, Bool.not_eq_true, Ty.T]; omega) | (simp only [decide_eq_true_eq, decide_eq_false_iff_not, Ty.T]; omega) | (simp only [beq_iff_eq, bne_iff_ne, ne_eq, decide_eq_true_eq, Ty.T]; omega)))]
abbrev Ct := T26b3.T
def inR (n : Nat) (x : Int) : Bool := decide (0 ≤ x ∧ x < (n : Int))
def two (ph : Int) : Bool := ph == 1 || ph == 2 || ph == 3
def rulesAt (x : List (List Rl)) (sw : Int) : List Rl := if 0 ≤ sw ∧ sw < (x.length : Int) then att (.slice T1383) x sw else []
def lvs (cs : List (List (List Rl))) (live next tag new ph sw : Int) : List Vr :=
  if two ph = true then
    if new < tag then [(new, rulesAt (att (.slice (.slice T1383)) cs next) sw), (tag, rulesAt (att (.slice (.slice T1383)) cs live) sw)]
    else [(tag, rulesAt (att (.slice (.slice T1383)) cs live) sw), (new, rulesAt (att (.slice (.slice T1383)) cs next) sw)]
  else [(tag, rulesAt (att (.slice (.slice T1383)) cs live) sw)]
def stampOf (tag new ph : Int) : Int := if ph = 2 ∨ ph = 3 then new else tag
def isB (nc : Nat) (live next ph : Int) (queue : List Int) (np : Nat) : Bool := ((next == -1 && !two ph) || inR nc next) && (inR nc live && (!queue.any (fun q => !inR nc q) && decide ((np : Int) ≤ 100)))
theorem wsucc2 (i : Nat) (h : i < 9223372036854775807) : IntKind.i64.wrap ((i : Int) + 1) = ((i + 1 : Nat) : Int) := by rw [IntWalk.i64_in _ (by omega)]; omega
theorem index_g (k : Nat) (xs : List Int) (x : Int) (h : xs.length < k) (h2 : xs.length ≤ 9223372036854775807) : f_slices_Index_int.f k xs x = some ((if xs.findIdx (fun y => x == y) < xs.length then ((xs.findIdx (fun y => x == y) : Nat) : Int) else -1), ()) := by
  have hle : xs.findIdx (fun y => x == y) ≤ xs.length := List.findIdx_le_length
  unfold f_slices_Index_int.f
  refine loop (fun m i => f_slices_Index_int.l1 k m xs x (xs.length : Int) (i : Int)) (xs.findIdx (fun y => x == y)) _ (fun m i hi => ?_) (fun m => ?_) k (by omega)
  · have hl : i < xs.length := by omega
    have hn := fi_not hi hl
    simp only [f_slices_Index_int.l1, f_slices_Index_int.b1]
    rw [if_pos (by (first | omega | (dsimp only [Ty.T]; omega) | (simp only [decide_eq_true_eq, decide_eq_false_iff_not, Bool.not_eq_true, Ty.T]; omega) | (simp only [decide_eq_true_eq, decide_eq_false_iff_not, Ty.T]; omega) | (simp only [beq_iff_eq, bne_iff_ne, ne_eq, decide_eq_true_eq, Ty.T]; omega))), if_pos (by omega), if_pos (by omega), att_n (e := .int .i64) xs i hl, if_neg (by rw [Bool.not_eq_true]; exact hn), wsucc2 i (by omega)]
  · simp only [f_slices_Index_int.l1, f_slices_Index_int.b1]
    by_cases hl : xs.findIdx (fun y => x == y) < xs.length
    · have hy := List.findIdx_getElem (w := hl)
      rw [if_pos (by (first | omega | (dsimp only [Ty.T]; omega) | (simp only [decide_eq_true_eq, decide_eq_false_iff_not, Bool.not_eq_true, Ty.T]; omega) | (simp only [decide_eq_true_eq, decide_eq_false_iff_not, Ty.T]; omega) | (simp only [beq_iff_eq, bne_iff_ne, ne_eq, decide_eq_true_eq, Ty.T]; omega))), if_pos (by omega), if_pos (by omega), att_n (e := .int .i64) xs _ hl, if_pos hy, if_pos hl]
    · rw [if_neg (by (first | omega | (dsimp only [Ty.T]; omega) | (simp only [decide_eq_true_eq, decide_eq_false_iff_not, Bool.not_eq_true, Ty.T]; omega) | (simp only [decide_eq_true_eq, decide_eq_false_iff_not, Ty.T]; omega) | (simp only [beq_iff_eq, bne_iff_ne, ne_eq, decide_eq_true_eq, Ty.T]; omega))), if_neg hl]
theorem contains_g (k : Nat) (xs : List Int) (x : Int) (h : xs.length < k) (h2 : xs.length ≤ 9223372036854775807) : f_slices_Contains_int.f k xs x = some (xs.any (fun y => x == y), ()) := by
  unfold f_slices_Contains_int.f
  rw [index_g k xs x h h2, Option.bind_some]
  have key : decide ((if xs.findIdx (fun y => x == y) < xs.length then ((xs.findIdx (fun y => x == y) : Nat) : Int) else -1) ≥ 0) = xs.any (fun y => x == y) := by
    rw [Bool.eq_iff_iff, decide_eq_true_eq, List.any_eq_true]
    by_cases hl : xs.findIdx (fun y => x == y) < xs.length
    · rw [if_pos hl]
      exact ⟨fun _ => ⟨_, List.getElem_mem hl, List.findIdx_getElem (w := hl)⟩, fun _ => by omega⟩
    · rw [if_neg hl]
      exact ⟨fun k => absurd k (by decide), fun ⟨y, h1, h2⟩ => absurd (List.findIdx_lt_length_of_exists ⟨y, h1, h2⟩) hl⟩
  exact congrArg (fun b => some (b, ())) key
theorem contains_eq (xs : List Int) (x : Int) (h : xs.length < 1000) : f_slices_Contains_int.f 1000 xs x = some (xs.any (fun y => x == y), ()) := contains_g 1000 xs x h (by omega)
theorem two_any (ph : Int) : [1, 2, 3].any (fun y => ph == y) = two ph := by
  unfold two
  simp only [List.any_cons, List.any_nil, Bool.or_false, Bool.or_assoc]
theorem clone_g48 (k : Nat) (xs : List Rl) (h : xs.length * 48 ≤ 140737488355328) : f_slices_Clone_Rule.f k xs = some (xs, ()) := by
  unfold f_slices_Clone_Rule.f
  rw [if_pos (by omega), if_pos (Or.inl rfl)]; rfl
theorem conf_g (k : Nat) (x : List (List Rl)) (sw : Int) (h : ∀ l ∈ x, l.length * 48 ≤ 140737488355328) : f_conf_At.f k x sw = some (rulesAt x sw, ()) := by
  unfold f_conf_At.f f_conf_At.j1 rulesAt
  by_cases h0 : sw < 0
  · rw [decide_eq_true h0, if_pos rfl, if_pos rfl, if_neg (by omega)]
  · rw [decide_eq_false h0, if_neg Bool.false_ne_true]
    by_cases h1 : sw < (x.length : Int)
    · obtain ⟨i, rfl⟩ : ∃ i : Nat, sw = (i : Int) := ⟨sw.toNat, by omega⟩
      have hi : i < x.length := by omega
      rw [decide_eq_false (by omega), if_neg Bool.false_ne_true, if_pos (by omega), if_pos h1, if_pos (by omega), att_n (e := .slice T1383) x i hi, clone_g48 k _ (h _ (List.getElem_mem hi))]
      rfl
    · rw [decide_eq_true (by omega), if_pos rfl, if_neg (by omega)]
theorem conf_at (k : Nat) (x : List (List Rl)) (sw : Int) (h : ∀ l ∈ x, l.length < 1000000) : f_conf_At.f k x sw = some (rulesAt x sw, ()) := conf_g k x sw fun l hl => by have := h l hl; omega
theorem rules_len (x : List (List Rl)) (sw : Int) (B : Nat) (h : ∀ l ∈ x, l.length ≤ B) : (rulesAt x sw).length ≤ B := by
  unfold rulesAt
  split
  · rename_i hs
    obtain ⟨i, rfl⟩ : ∃ i : Nat, sw = (i : Int) := ⟨sw.toNat, by omega⟩
    have hi : i < x.length := by omega
    rw [att_n (e := .slice T1383) x i hi]
    exact h _ (List.getElem_mem hi)
  · exact Nat.zero_le _
structure FewC (cs : List (List (List Rl))) (peers : List T23b6.T) (queue done undone : List Int) (given : List T713d.T) : Prop where
  c : cs.length ≤ 12
  p : peers.length ≤ 12
  q : queue.length ≤ 100
  g : given.length ≤ 100
  d : done.length ≤ 100
  u : undone.length ≤ 100
  r : ∀ x ∈ cs, x.length ≤ 10 ∧ ∀ l ∈ x, l.length ≤ 60
  o : ∀ y ∈ peers, y.2.2.2.2.length ≤ 100
abbrev FewOf (c : Ct) : Prop := FewC c.1 c.2.2.2.2.2.2.2.2.1 c.2.2.2.2.2.2.2.1 c.2.2.2.2.2.2.2.2.2.2.1 c.2.2.2.2.2.2.2.2.2.2.2.1 c.2.2.2.2.2.2.2.2.2.1
theorem few12 (x : List (List Rl)) : ∃ b, f_law12_Few.f 1000 x = some (b, ()) ∧ (b = true → x.length ≤ 10 ∧ ∀ l ∈ x, l.length ≤ 60) := by
  unfold f_law12_Few.f
  by_cases h : (x.length : Int) > 10
  · rw [decide_eq_true h, if_pos rfl]
    exact ⟨false, rfl, fun k => absurd k (by decide)⟩
  · rw [decide_eq_false h, if_neg Bool.false_ne_true]
    rcases loop_or (fun m i => f_law12_Few.l1 1000 m x (i : Int)) x.length (fun i => ∀ hi : i < x.length, x[i].length ≤ 60) (some (true, ())) (some (false, ())) (fun m i hi => by
        simp only [f_law12_Few.l1, f_law12_Few.b1]
        rw [if_pos (by (first | omega | (dsimp only [Ty.T]; omega) | (simp only [decide_eq_true_eq, decide_eq_false_iff_not, Bool.not_eq_true, Ty.T]; omega) | (simp only [decide_eq_true_eq, decide_eq_false_iff_not, Ty.T]; omega) | (simp only [beq_iff_eq, bne_iff_ne, ne_eq, decide_eq_true_eq, Ty.T]; omega))), if_pos (by omega), if_pos (by omega), att_n (e := .slice T1383) x i hi, wsucc i (by omega)]
        by_cases hc : (x[i].length : Int) > 60
        · right
          exact if_pos (decide_eq_true hc)
        · left
          exact ⟨fun _ => by omega, if_neg (by simpa using hc)⟩) (fun _ m => by
        simp only [f_law12_Few.l1, f_law12_Few.b1]
        rw [if_neg (by (first | omega | (dsimp only [Ty.T]; omega) | (simp only [decide_eq_true_eq, decide_eq_false_iff_not, Bool.not_eq_true, Ty.T]; omega) | (simp only [decide_eq_true_eq, decide_eq_false_iff_not, Ty.T]; omega) | (simp only [beq_iff_eq, bne_iff_ne, ne_eq, decide_eq_true_eq, Ty.T]; omega)))]) 1000 (by omega) with h | h
    · refine ⟨true, h.2, fun _ => ⟨by omega, fun l hl => ?_⟩⟩
      obtain ⟨i, hi, rfl⟩ := List.getElem_of_mem hl
      exact h.1 i hi hi
    · exact ⟨false, h, fun k => absurd k (by decide)⟩
theorem fewC (c : Ct) : ∃ b, f_law21_Few.f 1000 c = some (b, ()) ∧ (b = true → FewOf c) := by
  obtain ⟨cs, live, next, tag, new, ph, timer, queue, peers, given, done, undone, junk⟩ := c
  have nope : ∃ b, (some (false, ()) : Option f_law21_Few.R) = some (b, ()) ∧ (b = true → FewOf (cs, live, next, tag, new, ph, timer, queue, peers, given, done, undone, junk)) := ⟨false, rfl, fun k => absurd k (by decide)⟩
  unfold f_law21_Few.f f_law21_Few.j1
  dsimp only
  by_cases h1 : (cs.length : Int) > 12
  · rw [decide_eq_true h1, if_pos rfl, if_pos rfl]; exact nope
  rw [decide_eq_false h1, if_neg Bool.false_ne_true]
  by_cases h2 : (peers.length : Int) > 12
  · rw [decide_eq_true h2, if_pos rfl, if_pos rfl]; exact nope
  rw [decide_eq_false h2, if_neg Bool.false_ne_true]
  by_cases h3 : (queue.length : Int) > 100
  · rw [decide_eq_true h3, if_pos rfl, if_pos rfl]; exact nope
  rw [decide_eq_false h3, if_neg Bool.false_ne_true]
  by_cases h4 : (given.length : Int) > 100
  · rw [decide_eq_true h4, if_pos rfl, if_pos rfl]; exact nope
  rw [decide_eq_false h4, if_neg Bool.false_ne_true]
  by_cases h5 : (done.length : Int) > 100
  · rw [decide_eq_true h5, if_pos rfl, if_pos rfl]; exact nope
  rw [decide_eq_false h5, if_neg Bool.false_ne_true]
  by_cases h6 : (undone.length : Int) > 100
  · rw [decide_eq_true h6, if_pos rfl]; exact nope
  rw [decide_eq_false h6, if_neg Bool.false_ne_true]
  generalize hC : ((cs, live, next, tag, new, ph, timer, queue, peers, given, done, undone, junk) : Ct) = C at *
  have e1 : C.1 = cs := by rw [← hC]
  have e2 : C.2.2.2.2.2.2.2.2.1 = peers := by rw [← hC]
  have inner : (∀ i (hi : i < cs.length), cs[i].length ≤ 10 ∧ ∀ l ∈ cs[i], l.length ≤ 60) → ∃ b, f_law21_Few.l3 C 1000 1000 0 = some (b, ()) ∧ (b = true → FewOf C) := by
    intro hr
    rcases loop_or (fun m i => f_law21_Few.l3 C 1000 m (i : Int)) peers.length (fun i => ∀ hi : i < peers.length, peers[i].2.2.2.2.length ≤ 100) (some (true, ())) (some (false, ())) (fun m i hi => by
        simp only [f_law21_Few.l3, f_law21_Few.b3]
        rw [e2, if_pos (by (first | omega | (dsimp only [Ty.T]; omega) | (simp only [decide_eq_true_eq, decide_eq_false_iff_not, Bool.not_eq_true, Ty.T]; omega) | (simp only [decide_eq_true_eq, decide_eq_false_iff_not, Ty.T]; omega) | (simp only [beq_iff_eq, bne_iff_ne, ne_eq, decide_eq_true_eq, Ty.T]; omega))), if_pos (by omega), if_pos (by omega), att_n (e := T23b6) peers i hi, wsucc i (by omega)]
        by_cases hc : (peers[i].2.2.2.2.length : Int) > 100
        · right
          exact if_pos (decide_eq_true hc)
        · left
          exact ⟨fun _ => by omega, if_neg (by simpa using hc)⟩) (fun _ m => by
        simp only [f_law21_Few.l3, f_law21_Few.b3]
        rw [e2, if_neg (by (first | omega | (dsimp only [Ty.T]; omega) | (simp only [decide_eq_true_eq, decide_eq_false_iff_not, Bool.not_eq_true, Ty.T]; omega) | (simp only [decide_eq_true_eq, decide_eq_false_iff_not, Ty.T]; omega) | (simp only [beq_iff_eq, bne_iff_ne, ne_eq, decide_eq_true_eq, Ty.T]; omega)))]) 1000 (by omega) with h | h
    · refine ⟨true, h.2, fun _ => ?_⟩
      rw [← hC]
      exact ⟨by dsimp only; omega, by dsimp only; omega, by dsimp only; omega, by dsimp only; omega, by dsimp only; omega, by dsimp only; omega, fun x hx => by
        obtain ⟨i, hi, rfl⟩ := List.getElem_of_mem hx
        exact hr i hi, fun y hy => by
        obtain ⟨i, hi, rfl⟩ := List.getElem_of_mem hy
        exact h.1 i hi hi⟩
    · exact ⟨false, h, fun k => absurd k (by decide)⟩
  rcases loop_or (fun m i => f_law21_Few.l2 C 1000 m (i : Int)) cs.length (fun i => ∀ hi : i < cs.length, cs[i].length ≤ 10 ∧ ∀ l ∈ cs[i], l.length ≤ 60) (f_law21_Few.l3 C 1000 1000 0) (some (false, ())) (fun m i hi => by
      simp only [f_law21_Few.l2, f_law21_Few.b2]
      rw [e1, if_pos (by (first | omega | (dsimp only [Ty.T]; omega) | (simp only [decide_eq_true_eq, decide_eq_false_iff_not, Bool.not_eq_true, Ty.T]; omega) | (simp only [decide_eq_true_eq, decide_eq_false_iff_not, Ty.T]; omega) | (simp only [beq_iff_eq, bne_iff_ne, ne_eq, decide_eq_true_eq, Ty.T]; omega))), if_pos (by omega), if_pos (by omega), att_n (e := .slice (.slice T1383)) cs i hi, wsucc i (by omega)]
      obtain ⟨b, hb, hb2⟩ := few12 cs[i]
      rw [hb, Option.bind_some]
      cases b with
      | false => right; rfl
      | true => left; exact ⟨fun _ => hb2 rfl, rfl⟩) (fun _ m => by
      simp only [f_law21_Few.l2, f_law21_Few.b2]
      rw [e1, if_neg (by (first | omega | (dsimp only [Ty.T]; omega) | (simp only [decide_eq_true_eq, decide_eq_false_iff_not, Bool.not_eq_true, Ty.T]; omega) | (simp only [decide_eq_true_eq, decide_eq_false_iff_not, Ty.T]; omega) | (simp only [beq_iff_eq, bne_iff_ne, ne_eq, decide_eq_true_eq, Ty.T]; omega)))]) 1000 (by omega) with h | h
  · obtain ⟨b, hb, hb2⟩ := inner fun i hi => h.1 i hi hi
    exact ⟨b, h.2.trans hb, hb2⟩
  · exact ⟨false, h, fun k => absurd k (by decide)⟩
theorem sess_new (k : Nat) (e : Int) : f_sess_New.f k e = some ((e, (1, [])), ()) := rfl
theorem att_set {e : Ty} (xs : List e.T) (z : e.T) {i : Int} (h0 : 0 ≤ i) (h1 : i < (xs.length : Int)) : att e (xs.set i.toNat z) i = z := by
  unfold att
  rw [List.getElem?_set_self (by omega)]
  rfl
theorem att_mem {e : Ty} (xs : List e.T) {i : Int} (h0 : 0 ≤ i) (h1 : i < (xs.length : Int)) : att e xs i ∈ xs := by
  obtain ⟨j, rfl⟩ : ∃ j : Nat, i = (j : Int) := ⟨i.toNat, by omega⟩
  rw [att_n xs j (by omega)]
  exact List.getElem_mem _
theorem lvs_len (cs : List (List (List Rl))) (live next tag new ph sw : Int) : (lvs cs live next tag new ph sw).length ≤ 2 := by
  unfold lvs
  split
  · split <;> simp
  · simp
theorem lvs_each {cs : List (List (List Rl))} {live next ph : Int} (hr : ∀ x ∈ cs, ∀ l ∈ x, l.length ≤ 60) (h0 : 0 ≤ live) (h1 : live < (cs.length : Int)) (h2 : two ph = true → 0 ≤ next ∧ next < (cs.length : Int)) (tag new sw : Int) : ∀ v ∈ lvs cs live next tag new ph sw, v.2.length ≤ 60 := by
  have a1 : (rulesAt (att (.slice (.slice T1383)) cs live) sw).length ≤ 60 := rules_len _ _ _ (hr _ (att_mem (e := .slice (.slice T1383)) cs h0 h1))
  intro v hv
  unfold lvs at hv
  split at hv
  · rename_i ht
    have a2 : (rulesAt (att (.slice (.slice T1383)) cs next) sw).length ≤ 60 := rules_len _ _ _ (hr _ (att_mem (e := .slice (.slice T1383)) cs (h2 ht).1 (h2 ht).2))
    split at hv
    · rcases List.mem_cons.1 hv with rfl | hv
      · exact a2
      · rw [List.mem_singleton.1 hv]; exact a1
    · rcases List.mem_cons.1 hv with rfl | hv
      · exact a1
      · rw [List.mem_singleton.1 hv]; exact a2
  · rw [List.mem_singleton.1 hv]; exact a1
theorem size_two {l : List Vr} (h : l.length ≤ 2) (hr : ∀ v ∈ l, v.2.length ≤ 60) : sizeOf' l ≤ 120 := by
  match l, h, hr with
  | [], _, _ => simp [sizeOf']
  | [a], _, hr =>
    have := hr a (by simp)
    rw [size_cons]
    simp only [sizeOf', List.map_nil, List.sum_nil]
    omega
  | [a, b], _, hr =>
    have := hr a (by simp)
    have := hr b (by simp)
    rw [size_cons, size_cons]
    simp only [sizeOf', List.map_nil, List.sum_nil]
    omega
noncomputable def helloP (peers : List T23b6.T) (sw : Int) (m : Mg) (l : List Vr) (stamp : Int) : List T23b6.T := if m.2.1 > (att T23b6 peers sw).1 then peers.set sw.toNat (m.2.1, (0, pushed (m.2.1, (1, [])) (syncOf l stamp) (syncOf l stamp).length)) else peers
noncomputable def ackP (peers : List T23b6.T) (sw : Int) (m : Mg) : List T23b6.T := if m.2.1 = (att T23b6 peers sw).1 ∧ m.2.2.1 ≥ IntKind.i64.wrap (IntKind.i64.wrap ((att T23b6 peers sw).2.2.2.1 - 1) - ((att T23b6 peers sw).2.2.2.2.length : Int)) ∧ m.2.2.1 < (att T23b6 peers sw).2.2.2.1 then peers.set sw.toNat ((att T23b6 peers sw).1, (m.2.2.2.1, sdone (att T23b6 peers sw).2.2 m.2.1 m.2.2.1)) else peers
theorem qi_control_controller_two_f7e (x1 : Int) (x2 : Int) (x3 : Int) (x4 : Int) (x5 : Int) (x6 : Int) (x7 : Int) (x8 : Int) (x9 : Int) (x10 : Int) (x11 : Int) (x12 : Int) (x13 : Int) (x14 : Int) (x15 : List (List (List T1383.T))) (x16 : List Int) (x17 : List T23b6.T) (x18 : List T713d.T) (x19 : List Int) (x20 : List Int) : i_control_controller_two_f7e.f 1000 x1 x2 x3 x4 x5 x6 x7 x8 x9 x10 x11 x12 x13 x14 x15 x16 x17 x18 x19 x20 = some (two x12, ()) := by
  unfold i_control_controller_two_f7e.f
  rw [contains_eq [1, 2, 3] x12 (by decide), Option.bind_some]
  exact congrArg (fun b => some (b, ())) (two_any x12)
theorem qi_control_controller_is_1_29c (x1 : Int) (x2 : Int) (x3 : Int) (x4 : Int) (x5 : Int) (x6 : Int) (x7 : Int) (x8 : Int) (x9 : Int) (x10 : Int) (x11 : Int) (x12 : Int) (x13 : Int) (x14 : Int) (x15 : Int) (x16 : List (List (List T1383.T))) (x17 : List Int) (x18 : List T23b6.T) (x19 : List T713d.T) (x20 : List Int) (x21 : List Int) : i_control_controller_is_1_29c.f 1000 x1 x2 x3 x4 x5 x6 x7 x8 x9 x10 x11 x12 x13 x14 x15 x16 x17 x18 x19 x20 x21 = some (!inR x16.length x1, ()) := by
  unfold i_control_controller_is_1_29c.f inR
  by_cases h0 : x1 < 0
  · rw [decide_eq_true h0, if_pos rfl, decide_eq_false (by omega)]; rfl
  · rw [decide_eq_false h0, if_neg Bool.false_ne_true]
    by_cases h1 : x1 < (x16.length : Int)
    · rw [decide_eq_false (by omega), decide_eq_true (by omega)]; rfl
    · rw [decide_eq_true (by omega), decide_eq_false (by omega)]; rfl
theorem qi_slices_ContainsFunc_int_024 (x1 : Int) (x2 : Int) (x3 : Int) (x4 : Int) (x5 : Int) (x6 : Int) (x7 : Int) (x8 : Int) (x9 : Int) (x10 : Int) (x11 : Int) (x12 : Int) (x13 : Int) (x14 : Int) (x15 : List (List (List T1383.T))) (x16 : List Int) (x17 : List T23b6.T) (x18 : List T713d.T) (x19 : List Int) (x20 : List Int) (h : x16.length < 1000) : i_slices_ContainsFunc_int_024.f 1000 x1 x2 x3 x4 x5 x6 x7 x8 x9 x10 x11 x12 x13 x14 x15 x16 x17 x18 x19 x20 = some (x16.any (fun q => !inR x15.length q), ()) := by
  unfold i_slices_ContainsFunc_int_024.f i_slices_IndexFunc_int_024.f
  have hle : x16.findIdx (fun q => !inR x15.length q) ≤ x16.length := List.findIdx_le_length
  refine loop (fun m i => (i_slices_IndexFunc_int_024.l1 x1 x2 x3 x4 x5 x6 x7 x8 x9 x10 x11 x12 x13 x14 x15 x16 x17 x18 x19 x20 1000 m (x16.length : Int) (i : Int)).bind fun y1 => some (decide (y1.1 ≥ (0 : Int)), ())) (x16.findIdx (fun q => !inR x15.length q)) _ (fun m i hi => ?_) (fun m => ?_) 1000 (by omega)
  · have hl : i < x16.length := by omega
    have hn := fi_not hi hl
    simp only [i_slices_IndexFunc_int_024.l1, i_slices_IndexFunc_int_024.b1]
    rw [if_pos (by (first | omega | (dsimp only [Ty.T]; omega) | (simp only [decide_eq_true_eq, decide_eq_false_iff_not, Bool.not_eq_true, Ty.T]; omega) | (simp only [decide_eq_true_eq, decide_eq_false_iff_not, Ty.T]; omega) | (simp only [beq_iff_eq, bne_iff_ne, ne_eq, decide_eq_true_eq, Ty.T]; omega))), if_pos (by omega), if_pos (by omega), att_n (e := .int .i64) x16 i hl, qi_control_controller_is_1_29c, Option.bind_some, if_neg (by rw [Bool.not_eq_true]; exact hn), wsucc i (by omega)]
  · simp only [i_slices_IndexFunc_int_024.l1, i_slices_IndexFunc_int_024.b1]
    by_cases hl : x16.findIdx (fun q => !inR x15.length q) < x16.length
    · have hy := List.findIdx_getElem (w := hl)
      rw [if_pos (by (first | omega | (dsimp only [Ty.T]; omega) | (simp only [decide_eq_true_eq, decide_eq_false_iff_not, Bool.not_eq_true, Ty.T]; omega) | (simp only [decide_eq_true_eq, decide_eq_false_iff_not, Ty.T]; omega) | (simp only [beq_iff_eq, bne_iff_ne, ne_eq, decide_eq_true_eq, Ty.T]; omega))), if_pos (by omega), if_pos (by omega), att_n (e := .int .i64) x16 _ hl, qi_control_controller_is_1_29c, Option.bind_some, if_pos hy, Option.bind_some, decide_eq_true (by omega)]
      exact congrArg (fun b => some (b, ())) (List.any_eq_true.2 ⟨_, List.getElem_mem hl, hy⟩).symm
    · rw [if_neg (by (first | omega | (dsimp only [Ty.T]; omega) | (simp only [decide_eq_true_eq, decide_eq_false_iff_not, Bool.not_eq_true, Ty.T]; omega) | (simp only [decide_eq_true_eq, decide_eq_false_iff_not, Ty.T]; omega) | (simp only [beq_iff_eq, bne_iff_ne, ne_eq, decide_eq_true_eq, Ty.T]; omega))), Option.bind_some, decide_eq_false (by decide)]
      refine congrArg (fun b => some (b, ())) (Eq.symm ?_)
      rw [Bool.eq_false_iff]
      intro hc
      obtain ⟨y, h1, h2⟩ := List.any_eq_true.1 hc
      exact absurd (List.findIdx_lt_length_of_exists ⟨y, h1, h2⟩) hl
theorem qi_control_controller_is_559 (x1 : Int) (x2 : Int) (x3 : Int) (x4 : Int) (x5 : Int) (x6 : Int) (x7 : Int) (x8 : Int) (x9 : Int) (x10 : Int) (x11 : Int) (x12 : Int) (x13 : Int) (x14 : Int) (x15 : List (List (List T1383.T))) (x16 : List Int) (x17 : List T23b6.T) (x18 : List T713d.T) (x19 : List Int) (x20 : List Int) (h : x16.length < 1000) : i_control_controller_is_559.f 1000 x1 x2 x3 x4 x5 x6 x7 x8 x9 x10 x11 x12 x13 x14 x15 x16 x17 x18 x19 x20 = some (isB x15.length x8 x9 x12 x16 x17.length, ()) := by
  unfold i_control_controller_is_559.f
  have j : ∀ p, i_control_controller_is_559.j1 x1 x2 x3 x4 x5 x6 x7 x8 x9 x10 x11 x12 x13 x14 x15 x16 x17 x18 x19 x20 1000 p = some (p && (inR x15.length x8 && (!x16.any (fun q => !inR x15.length q) && decide ((x17.length : Int) ≤ 100))), ()) := by
    intro p
    unfold i_control_controller_is_559.j1
    cases p
    · rfl
    rw [if_pos rfl, qi_control_controller_is_1_29c, Option.bind_some, qi_slices_ContainsFunc_int_024 (h := h)]
    cases inR x15.length x8
    · rfl
    cases x16.any (fun q => !inR x15.length q)
    · rfl
    · rfl
  simp only [j, qi_control_controller_is_1_29c, qi_control_controller_two_f7e, Option.bind_some]
  unfold isB
  cases x9 == -1
  · rw [if_neg Bool.false_ne_true]
    cases inR x15.length x9 <;> rfl
  · rw [if_pos rfl]
    cases two x12 <;> cases inR x15.length x9 <;> rfl
theorem qi_control_controller_two_234 (x1 : Int) (x2 : Int) (x3 : Int) (x4 : Int) (x5 : Int) (x6 : Int) (x7 : Int) (x8 : Int) (x9 : Int) (x10 : Int) (x11 : Int) (x12 : Int) (x13 : Int) (x14 : Int) (x15 : T4414.T) (x16 : List (List (List T1383.T))) (x17 : List Int) (x18 : List T23b6.T) (x19 : List T713d.T) (x20 : List Int) (x21 : List Int) (x22 : T4414.T) : i_control_controller_two_234.f 1000 x1 x2 x3 x4 x5 x6 x7 x8 x9 x10 x11 x12 x13 x14 x15 x16 x17 x18 x19 x20 x21 x22 = some (two x12, ()) := by
  unfold i_control_controller_two_234.f
  rw [contains_eq [1, 2, 3] x12 (by decide), Option.bind_some]
  exact congrArg (fun b => some (b, ())) (two_any x12)
theorem qi_slices_SortStableFunc_Ver_18c (x1 : Int) (x2 : Int) (x3 : Int) (x4 : Int) (x5 : Int) (x6 : Int) (x7 : Int) (x8 : Int) (x9 : Int) (x10 : Int) (x11 : Int) (x12 : Int) (x13 : Int) (x14 : Int) (x15 : T4414.T) (x16 : List (List (List T1383.T))) (x17 : List Int) (x18 : List T23b6.T) (x19 : List T713d.T) (x20 : List Int) (x21 : List Int) (x22 : T4414.T) (u v : Vr) : i_slices_SortStableFunc_Ver_18c.f 1000 x1 x2 x3 x4 x5 x6 x7 x8 x9 x10 x11 x12 x13 x14 x15 x16 x17 x18 x19 x20 x21 x22 [u, v] = some (if v.1 < u.1 then [v, u] else [u, v], ()) := by
  have hc : ∀ (x3 : Int) (x4 : Int) (x5 : Int) (x6 : Int) (x7 : Int) (x8 : Int) (x9 : Int) (x10 : Int) (x11 : Int) (x12 : Int) (x13 : Int) (x14 : Int) (x15 : Int) (x16 : Int) (x17 : T4414.T) (x18 : List (List (List T1383.T))) (x19 : List Int) (x20 : List T23b6.T) (x21 : List T713d.T) (x22 : List Int) (x23 : List Int) (x24 : T4414.T) (x25 : List T814c.T), i_control_controller_live_1_90e.f 1000 v u x3 x4 x5 x6 x7 x8 x9 x10 x11 x12 x13 x14 x15 x16 x17 x18 x19 x20 x21 x22 x23 x24 x25 = some (if v.1 < u.1 then -1 else if v.1 > u.1 then 1 else 0, ()) := by
    intros
    unfold i_control_controller_live_1_90e.f
    by_cases h1 : v.1 < u.1
    · rw [if_pos (decide_eq_true h1), if_pos h1]
    · rw [if_neg (by rw [decide_eq_false h1]; exact Bool.false_ne_true), if_neg h1]
      by_cases h2 : v.1 > u.1
      · rw [if_pos (decide_eq_true h2), if_pos h2]
      · rw [if_neg (by rw [decide_eq_false h2]; exact Bool.false_ne_true), if_neg h2]
  unfold i_slices_SortStableFunc_Ver_18c.f i_slices_stableCmpFunc_Ver_dbc.f i_slices_stableCmpFunc_Ver_dbc.l1
  dsimp only
  unfold i_slices_stableCmpFunc_Ver_dbc.b1
  rw [if_neg (by exact Bool.false_ne_true)]
  unfold i_slices_insertionSortCmpFunc_Ver_6b1.f i_slices_insertionSortCmpFunc_Ver_6b1.l1
  dsimp only
  unfold i_slices_insertionSortCmpFunc_Ver_6b1.b1
  rw [if_pos (by exact rfl)]
  unfold i_slices_insertionSortCmpFunc_Ver_6b1.l2
  dsimp only
  unfold i_slices_insertionSortCmpFunc_Ver_6b1.b2
  rw [if_pos (by exact rfl), if_pos (by exact of_decide_eq_true rfl), if_pos (by exact of_decide_eq_true rfl), if_pos (by exact of_decide_eq_true rfl), if_pos (by exact of_decide_eq_true rfl), show att T814c [u, v] (IntKind.i64.wrap (0 + 1)) = v from rfl, show att T814c [u, v] (IntKind.i64.wrap (IntKind.i64.wrap (0 + 1) - 1)) = u from rfl, hc]
  by_cases h1 : v.1 < u.1
  · rw [if_pos h1, if_pos h1]
    show _ = _
    kernel_rfl
  · rw [if_neg h1, if_neg h1]
    by_cases h2 : v.1 > u.1
    · rw [if_pos h2]
      show _ = _
      kernel_rfl
    · rw [if_neg h2]
      show _ = _
      kernel_rfl
theorem qi_control_controller_flips_854 (x1 : Int) (x2 : Int) (x3 : Int) (x4 : Int) (x5 : Int) (x6 : Int) (x7 : Int) (x8 : Int) (x9 : Int) (x10 : Int) (x11 : Int) (x12 : Int) (x13 : Int) (x14 : Int) (x15 : T4414.T) (x16 : List (List (List T1383.T))) (x17 : List Int) (x18 : List T23b6.T) (x19 : List T713d.T) (x20 : List Int) (x21 : List Int) (x22 : T4414.T) (x23 : List T814c.T) : i_control_controller_flips_854.f 1000 x1 x2 x3 x4 x5 x6 x7 x8 x9 x10 x11 x12 x13 x14 x15 x16 x17 x18 x19 x20 x21 x22 x23 = some (decide (x12 = 2 ∨ x12 = 3), ()) := by
  unfold i_control_controller_flips_854.f
  by_cases h2 : x12 = 2
  · rw [if_pos (beq_iff_eq.2 h2), decide_eq_true (.inl h2)]
  · rw [if_neg (by rw [beq_iff_eq]; exact h2)]
    by_cases h3 : x12 = 3
    · rw [beq_iff_eq.2 h3, decide_eq_true (.inr h3)]
    · rw [beq_eq_false_iff_ne.2 h3, decide_eq_false (by intro h; cases h with | inl h => exact h2 h | inr h => exact h3 h)]
theorem qi_control_controller_flips_234 (x1 : Int) (x2 : Int) (x3 : Int) (x4 : Int) (x5 : Int) (x6 : Int) (x7 : Int) (x8 : Int) (x9 : Int) (x10 : Int) (x11 : Int) (x12 : Int) (x13 : Int) (x14 : Int) (x15 : T4414.T) (x16 : List (List (List T1383.T))) (x17 : List Int) (x18 : List T23b6.T) (x19 : List T713d.T) (x20 : List Int) (x21 : List Int) (x22 : T4414.T) : i_control_controller_flips_234.f 1000 x1 x2 x3 x4 x5 x6 x7 x8 x9 x10 x11 x12 x13 x14 x15 x16 x17 x18 x19 x20 x21 x22 = some (decide (x12 = 2 ∨ x12 = 3), ()) := by
  unfold i_control_controller_flips_234.f
  by_cases h2 : x12 = 2
  · rw [if_pos (beq_iff_eq.2 h2), decide_eq_true (.inl h2)]
  · rw [if_neg (by rw [beq_iff_eq]; exact h2)]
    by_cases h3 : x12 = 3
    · rw [beq_iff_eq.2 h3, decide_eq_true (.inr h3)]
    · rw [beq_eq_false_iff_ne.2 h3, decide_eq_false (by intro h; cases h with | inl h => exact h2 h | inr h => exact h3 h)]
theorem qi_control_controller_live_eda (x1 : Int) (x2 : Int) (x3 : Int) (x4 : Int) (x5 : Int) (x6 : Int) (x7 : Int) (x8 : Int) (x9 : Int) (x10 : Int) (x11 : Int) (x12 : Int) (x13 : Int) (x14 : Int) (x15 : Int) (x16 : T4414.T) (x17 : List (List (List T1383.T))) (x18 : List Int) (x19 : List T23b6.T) (x20 : List T713d.T) (x21 : List Int) (x22 : List Int) (x23 : T4414.T) (h0 : 0 ≤ x9) (h1 : x9 < (x17.length : Int)) (h2 : two x13 = true → 0 ≤ x10 ∧ x10 < (x17.length : Int)) (hr : ∀ x ∈ x17, ∀ l ∈ x, l.length < 1000000) : i_control_controller_live_eda.f 1000 x1 x2 x3 x4 x5 x6 x7 x8 x9 x10 x11 x12 x13 x14 x15 x16 x17 x18 x19 x20 x21 x22 x23 = some (lvs x17 x9 x10 x11 x12 x13 x1, (stampOf x11 x12 x13, ())) := by
  unfold i_control_controller_live_eda.f lvs stampOf
  rw [if_pos h0, if_pos h1, conf_at 1000 _ _ (hr _ (att_mem _ h0 h1)), Option.bind_some, qi_control_controller_two_234, Option.bind_some]
  by_cases ht : two x13 = true
  · obtain ⟨h3, h4⟩ := h2 ht
    rw [if_pos ht, if_pos ht, if_pos h3, if_pos h4, conf_at 1000 _ _ (hr _ (att_mem _ h3 h4)), Option.bind_some, qi_slices_SortStableFunc_Ver_18c, Option.bind_some]
    unfold i_control_controller_live_eda.j2
    rw [qi_control_controller_flips_854, Option.bind_some]
    by_cases hf : x13 = 2 ∨ x13 = 3
    · rw [decide_eq_true hf, if_pos hf]; rfl
    · rw [decide_eq_false hf, if_neg hf]; rfl
  · rw [if_neg ht, if_neg ht]
    unfold i_control_controller_live_eda.j3
    rw [qi_control_controller_flips_234, Option.bind_some]
    by_cases hf : x13 = 2 ∨ x13 = 3
    · rw [decide_eq_true hf, if_pos hf]; rfl
    · rw [decide_eq_false hf, if_neg hf]; rfl
theorem qf_slices_Clone_Rule (a1 : List T1383.T) (h : a1.length < 1000000) : f_slices_Clone_Rule.f 1000 a1 = some (a1, ()) := by
  unfold f_slices_Clone_Rule.f
  rw [if_pos (by omega), if_pos (.inl rfl)]
  rfl
theorem qf_slices_Clone_Msg (a1 : List T4414.T) (h : a1.length < 1000000) : f_slices_Clone_Msg.f 1000 a1 = some (a1, ()) := by
  unfold f_slices_Clone_Msg.f
  rw [if_pos (by omega), if_pos (.inl rfl)]
  rfl
theorem qf_slices_Clone_intO (a1 : List Int) (h : a1.length < 1000000) : f_slices_Clone_intO.f 1000 a1 = some (a1, ()) := by
  unfold f_slices_Clone_intO.f
  rw [if_pos (by omega), if_pos (.inl rfl)]
  rfl
theorem qf_slices_Clone_GivenO (a1 : List T713d.T) (h : a1.length < 1000000) : f_slices_Clone_GivenO.f 1000 a1 = some (a1, ()) := by
  unfold f_slices_Clone_GivenO.f
  rw [if_pos (by omega), if_pos (.inl rfl)]
  rfl
theorem qf_slices_Clone_Conf_RuleO (a1 : List (List T1383.T)) (h : a1.length < 1000000) : f_slices_Clone_Conf_RuleO.f 1000 a1 = some (a1, ()) := by
  unfold f_slices_Clone_Conf_RuleO.f
  rw [if_pos (by omega), if_pos (.inl rfl)]
  rfl
theorem qf_slices_Clone_PeerO (a1 : List T23b6.T) (h : a1.length < 1000000) : f_slices_Clone_PeerO.f 1000 a1 = some (a1, ()) := by
  unfold f_slices_Clone_PeerO.f
  rw [if_pos (by omega), if_pos (.inl rfl)]
  rfl
theorem qf_slices_Clone_ConfO (a1 : List (List (List T1383.T))) (h : a1.length < 1000000) : f_slices_Clone_ConfO.f 1000 a1 = some (a1, ()) := by
  unfold f_slices_Clone_ConfO.f
  rw [if_pos (by omega), if_pos (.inl rfl)]
  rfl
theorem qi_control_own_776m (x1 : T26b3.T) (x2 : T26b3.T) (x3 : Int) (x4 : Int) (x5 : Int) (x6 : Int) (x7 : Int) (x8 : Int) (x9 : Int) (h : FewOf x1) : i_control_own_776m.f 1000 x1 x2 x3 x4 x5 x6 x7 x8 x9 = some (x1.2.1, (x1.2.2.1, (x1.2.2.2.1, (x1.2.2.2.2.1, (x1.2.2.2.2.2.1, (x1.2.2.2.2.2.2.1, (x1.2.2.2.2.2.2.2.2.2.2.2.2, (x1.1, (x1.2.2.2.2.2.2.2.1, (x1.2.2.2.2.2.2.2.2.1, (x1.2.2.2.2.2.2.2.2.2.1, (x1.2.2.2.2.2.2.2.2.2.2.1, (x1.2.2.2.2.2.2.2.2.2.2.2.1, ()))))))))))))) := by
  have f1 := h.c
  have f2 := h.p
  unfold i_control_own_776m.f
  rw [qf_slices_Clone_ConfO (h := by omega), Option.bind_some]
  refine loop (fun m i => i_control_own_776m.l1 x2 x3 x4 x5 x6 x7 x8 x9 1000 m (x1.1.length : Int) (i : Int) x1.2.1 x1.2.2.1 x1.2.2.2.1 x1.2.2.2.2.1 x1.2.2.2.2.2.1 x1.2.2.2.2.2.2.1 x1.2.2.2.2.2.2.2.1 x1.2.2.2.2.2.2.2.2.1 x1.2.2.2.2.2.2.2.2.2.1 x1.2.2.2.2.2.2.2.2.2.2.1 x1.2.2.2.2.2.2.2.2.2.2.2.1 x1.2.2.2.2.2.2.2.2.2.2.2.2 x1.1) x1.1.length _ (fun m i hi => ?_) (fun m => ?_) 1000 (by omega)
  · have hx := h.r _ (List.getElem_mem hi)
    have hx1 : x1.1[i].length ≤ 10 := hx.1
    simp only [i_control_own_776m.l1, i_control_own_776m.b1]
    rw [if_pos (by (first | omega | (dsimp only [Ty.T]; omega) | (simp only [decide_eq_true_eq, decide_eq_false_iff_not, Bool.not_eq_true, Ty.T]; omega) | (simp only [decide_eq_true_eq, decide_eq_false_iff_not, Ty.T]; omega) | (simp only [beq_iff_eq, bne_iff_ne, ne_eq, decide_eq_true_eq, Ty.T]; omega))), if_pos (by omega), if_pos (by omega), att_n (e := .slice (.slice T1383)) x1.1 i hi, qf_slices_Clone_Conf_RuleO (h := by omega), Option.bind_some]
    refine loop (fun q j => i_control_own_776m.l2 x2 x3 x4 x5 x6 x7 x8 x9 (i_control_own_776m.l1 x2 x3 x4 x5 x6 x7 x8 x9 1000 m) 1000 q (i : Int) (x1.1.length : Int) (i : Int) ((x1.1[i]).length : Int) (j : Int) x1.2.1 x1.2.2.1 x1.2.2.2.1 x1.2.2.2.2.1 x1.2.2.2.2.2.1 x1.2.2.2.2.2.2.1 x1.2.2.2.2.2.2.2.1 x1.2.2.2.2.2.2.2.2.1 x1.2.2.2.2.2.2.2.2.2.1 x1.2.2.2.2.2.2.2.2.2.2.1 x1.2.2.2.2.2.2.2.2.2.2.2.1 x1.2.2.2.2.2.2.2.2.2.2.2.2 x1.1[i] x1.1) (x1.1[i]).length _ (fun q j hj => ?_) (fun q => ?_) 1000 (by omega)
    · have hy := hx.2 _ (List.getElem_mem hj)
      simp only [i_control_own_776m.l2, i_control_own_776m.b2]
      rw [if_pos (by (first | omega | (dsimp only [Ty.T]; omega) | (simp only [decide_eq_true_eq, decide_eq_false_iff_not, Bool.not_eq_true, Ty.T]; omega) | (simp only [decide_eq_true_eq, decide_eq_false_iff_not, Ty.T]; omega) | (simp only [beq_iff_eq, bne_iff_ne, ne_eq, decide_eq_true_eq, Ty.T]; omega))), if_pos (by omega), if_pos (by omega), att_n (e := .slice T1383) x1.1[i] j hj, qf_slices_Clone_Rule (h := by omega), Option.bind_some, wsucc j (by omega), Int.toNat_natCast, List.set_getElem_self]
    · simp only [i_control_own_776m.l2, i_control_own_776m.b2]
      rw [if_neg (by (first | omega | (dsimp only [Ty.T]; omega) | (simp only [decide_eq_true_eq, decide_eq_false_iff_not, Bool.not_eq_true, Ty.T]; omega) | (simp only [decide_eq_true_eq, decide_eq_false_iff_not, Ty.T]; omega) | (simp only [beq_iff_eq, bne_iff_ne, ne_eq, decide_eq_true_eq, Ty.T]; omega))), if_pos (by omega), if_pos (by omega), wsucc i (by omega), Int.toNat_natCast, List.set_getElem_self]
  · simp only [i_control_own_776m.l1, i_control_own_776m.b1]
    rw [if_neg (by (first | omega | (dsimp only [Ty.T]; omega) | (simp only [decide_eq_true_eq, decide_eq_false_iff_not, Bool.not_eq_true, Ty.T]; omega) | (simp only [decide_eq_true_eq, decide_eq_false_iff_not, Ty.T]; omega) | (simp only [beq_iff_eq, bne_iff_ne, ne_eq, decide_eq_true_eq, Ty.T]; omega))), qf_slices_Clone_PeerO (h := by omega), Option.bind_some]
    refine loop (fun m i => i_control_own_776m.l3 x2 x3 x4 x5 x6 x7 x8 x9 1000 m (x1.2.2.2.2.2.2.2.2.1.length : Int) (i : Int) x1.2.1 x1.2.2.1 x1.2.2.2.1 x1.2.2.2.2.1 x1.2.2.2.2.2.1 x1.2.2.2.2.2.2.1 x1.2.2.2.2.2.2.2.1 x1.2.2.2.2.2.2.2.2.2.1 x1.2.2.2.2.2.2.2.2.2.2.1 x1.2.2.2.2.2.2.2.2.2.2.2.1 x1.2.2.2.2.2.2.2.2.2.2.2.2 x1.1 x1.2.2.2.2.2.2.2.2.1) x1.2.2.2.2.2.2.2.2.1.length _ (fun m i hi => ?_) (fun m => ?_) 1000 (by omega)
    · have hy := h.o _ (List.getElem_mem hi)
      simp only [i_control_own_776m.l3, i_control_own_776m.b3]
      rw [if_pos (by (first | omega | (dsimp only [Ty.T]; omega) | (simp only [decide_eq_true_eq, decide_eq_false_iff_not, Bool.not_eq_true, Ty.T]; omega) | (simp only [decide_eq_true_eq, decide_eq_false_iff_not, Ty.T]; omega) | (simp only [beq_iff_eq, bne_iff_ne, ne_eq, decide_eq_true_eq, Ty.T]; omega))), if_pos (by omega), if_pos (by omega), att_n (e := T23b6) x1.2.2.2.2.2.2.2.2.1 i hi, qf_slices_Clone_Msg (h := by omega), Option.bind_some, wsucc i (by omega), Int.toNat_natCast, show x1.2.2.2.2.2.2.2.2.1.set i ((x1.2.2.2.2.2.2.2.2.1[i]).1, ((x1.2.2.2.2.2.2.2.2.1[i]).2.1, ((x1.2.2.2.2.2.2.2.2.1[i]).2.2.1, ((x1.2.2.2.2.2.2.2.2.1[i]).2.2.2.1, (x1.2.2.2.2.2.2.2.2.1[i]).2.2.2.2)))) = x1.2.2.2.2.2.2.2.2.1 from List.set_getElem_self hi]
    · have f3 := h.q
      have f4 := h.g
      have f5 := h.d
      have f6 := h.u
      simp only [i_control_own_776m.l3, i_control_own_776m.b3]
      rw [if_neg (by (first | omega | (dsimp only [Ty.T]; omega) | (simp only [decide_eq_true_eq, decide_eq_false_iff_not, Bool.not_eq_true, Ty.T]; omega) | (simp only [decide_eq_true_eq, decide_eq_false_iff_not, Ty.T]; omega) | (simp only [beq_iff_eq, bne_iff_ne, ne_eq, decide_eq_true_eq, Ty.T]; omega))), qf_slices_Clone_intO (h := by omega), Option.bind_some, qf_slices_Clone_GivenO (h := by omega), Option.bind_some, qf_slices_Clone_intO (h := by omega), Option.bind_some, qf_slices_Clone_intO (h := by omega), Option.bind_some]
theorem qi_control_controller_ack_399 (x1 : Int) (x2 : T4414.T) (x3 : Int) (x4 : Int) (x5 : Int) (x6 : Int) (x7 : Int) (x8 : Int) (x9 : Int) (x10 : Int) (x11 : Int) (x12 : Int) (x13 : Int) (x14 : Int) (x15 : Int) (x16 : Int) (x17 : T4414.T) (x18 : List (List (List T1383.T))) (x19 : List Int) (x20 : List T23b6.T) (x21 : List T713d.T) (x22 : List Int) (x23 : List Int) (hs : 0 ≤ x1) (hs1 : x1 < (x20.length : Int)) (ho : ∀ y ∈ x20, y.2.2.2.2.length ≤ 100) : i_control_controller_ack_399.f 1000 x1 x2 x3 x4 x5 x6 x7 x8 x9 x10 x11 x12 x13 x14 x15 x16 x17 x18 x19 x20 x21 x22 x23 = some (ackP x20 x1 x2, ()) := by
  unfold i_control_controller_ack_399.f ackP
  rw [if_pos hs, if_pos hs1]
  have hm := ho _ (att_mem (e := T23b6) x20 hs hs1)
  have ha : ∀ z, att T23b6 (x20.set x1.toNat z) x1 = z := fun z => att_set x20 z hs hs1
  have hj : i_control_controller_ack_399.j1 x1 x2 x3 x4 x5 x6 x7 x8 x9 x10 x11 x12 x13 x14 x15 x16 x17 x18 x19 x20 x21 x22 x23 1000 true = some (x20.set x1.toNat ((att T23b6 x20 x1).1, (x2.2.2.2.1, sdone (att T23b6 x20 x1).2.2 x2.2.1 x2.2.2.1)), ()) := by
    unfold i_control_controller_ack_399.j1
    rw [if_pos rfl, done_eq 1000 _ _ _ (by omega) (by omega), Option.bind_some, ha, List.set_set]
  have hf : i_control_controller_ack_399.j1 x1 x2 x3 x4 x5 x6 x7 x8 x9 x10 x11 x12 x13 x14 x15 x16 x17 x18 x19 x20 x21 x22 x23 1000 false = some (x20, ()) := rfl
  by_cases e1 : x2.2.1 = (att T23b6 x20 x1).1
  · rw [if_pos (beq_iff_eq.2 e1)]
    by_cases e2 : x2.2.2.1 ≥ IntKind.i64.wrap (IntKind.i64.wrap ((att T23b6 x20 x1).2.2.2.1 - 1) - ((att T23b6 x20 x1).2.2.2.2.length : Int))
    · rw [if_pos (decide_eq_true e2)]
      by_cases e3 : x2.2.2.1 < (att T23b6 x20 x1).2.2.2.1
      · rw [decide_eq_true e3, hj, if_pos ⟨e1, e2, e3⟩]
      · rw [decide_eq_false e3, hf, if_neg fun k => e3 k.2.2]
    · rw [if_neg (by rw [decide_eq_false e2]; exact Bool.false_ne_true), hf, if_neg fun k => e2 k.2.1]
  · rw [if_neg (by rw [beq_iff_eq]; exact e1), hf, if_neg fun k => e1 k.1]
theorem qi_control_controller_hello_399 (x1 : Int) (x2 : T4414.T) (x3 : Int) (x4 : Int) (x5 : Int) (x6 : Int) (x7 : Int) (x8 : Int) (x9 : Int) (x10 : Int) (x11 : Int) (x12 : Int) (x13 : Int) (x14 : Int) (x15 : Int) (x16 : Int) (x17 : T4414.T) (x18 : List (List (List T1383.T))) (x19 : List Int) (x20 : List T23b6.T) (x21 : List T713d.T) (x22 : List Int) (x23 : List Int) (hs : 0 ≤ x1) (hs1 : x1 < (x20.length : Int)) (h0 : 0 ≤ x10) (h1 : x10 < (x18.length : Int)) (h2 : two x14 = true → 0 ≤ x11 ∧ x11 < (x18.length : Int)) (hr : ∀ x ∈ x18, ∀ l ∈ x, l.length ≤ 60) : i_control_controller_hello_399.f 1000 x1 x2 x3 x4 x5 x6 x7 x8 x9 x10 x11 x12 x13 x14 x15 x16 x17 x18 x19 x20 x21 x22 x23 = some (helloP x20 x1 x2 (lvs x18 x10 x11 x12 x13 x14 x1) (stampOf x12 x13 x14), ()) := by
  unfold i_control_controller_hello_399.f helloP
  rw [if_pos hs, if_pos hs1]
  by_cases he : x2.2.1 > (att T23b6 x20 x1).1
  · rw [if_pos (decide_eq_true he), if_pos he, sess_new, Option.bind_some, qi_control_controller_live_eda (h0 := h0) (h1 := h1) (h2 := h2) (hr := fun x hx l hl => by have := hr x hx l hl; omega), Option.bind_some]
    have q1 := lvs_len x18 x10 x11 x12 x13 x14 x1
    have q2 := lvs_each hr h0 h1 h2 x12 x13 x1
    have q3 := size_two q1 q2
    rw [sync_eq 1000 _ _ (by omega) (by omega) q2, Option.bind_some, pushall_eq 1000 _ _ (by rw [sync_len]; omega) (by simp) (by rw [sync_len]; omega) (by simp) (by simp) (by simp), Option.bind_some]
  · rw [if_neg (by rw [decide_eq_false he]; exact Bool.false_ne_true), if_neg he]
theorem awake21 : f_law21_awake.f 1000 = some (true, ()) := by decide +kernel
theorem inR_iff {n : Nat} {x : Int} : inR n x = true ↔ 0 ≤ x ∧ x < (n : Int) := by unfold inR; exact decide_eq_true_iff
theorem isB_live {nc : Nat} {live next ph : Int} {queue : List Int} {np : Nat} (h : isB nc live next ph queue np = true) : 0 ≤ live ∧ live < (nc : Int) := by
  unfold isB at h
  simp only [Bool.and_eq_true] at h
  exact inR_iff.1 h.2.1
theorem isB_next {nc : Nat} {live next ph : Int} {queue : List Int} {np : Nat} (h : isB nc live next ph queue np = true) (ht : two ph = true) : 0 ≤ next ∧ next < (nc : Int) := by
  unfold isB at h
  rw [ht] at h
  simp only [Bool.and_eq_true, Bool.not_true, Bool.and_false, Bool.false_or] at h
  exact inR_iff.1 h.1
def isC (c : Ct) : Bool := isB c.1.length c.2.1 c.2.2.1 c.2.2.2.2.2.1 c.2.2.2.2.2.2.2.1 c.2.2.2.2.2.2.2.2.1.length
def lvC (c : Ct) (sw : Int) : List Vr := lvs c.1 c.2.1 c.2.2.1 c.2.2.2.1 c.2.2.2.2.1 c.2.2.2.2.2.1 sw
def stC (c : Ct) : Int := stampOf c.2.2.2.1 c.2.2.2.2.1 c.2.2.2.2.2.1
theorem FewC.rl {cs : List (List (List Rl))} {peers : List T23b6.T} {queue done undone : List Int} {given : List T713d.T} (h : FewC cs peers queue done undone given) : ∀ x ∈ cs, ∀ l ∈ x, l.length < 1000000 := fun x hx l hl => by have := (h.r x hx).2 l hl; omega
theorem u32_in (n : Int) (h : 0 ≤ n) (h2 : n < 4294967296) : IntKind.u32.wrap n = n := by
  unfold IntKind.wrap
  simp [IntKind.bits, IntKind.signed]
  omega
theorem fdiv_pos (a : Int) (b : Int) (h : 0 < b) : Int.fdiv a b = a / b := Int.fdiv_eq_ediv_of_nonneg a (by omega)
-- folding
def fl (p : Int) : Int := if p = 0 then 0 else if p % 65535 = 0 then 65535 else p % 65535
theorem fl_small (p : Int) (h : 0 ≤ p) (h2 : p ≤ 65535) : fl p = p := by unfold fl; split <;> (try split) <;> omega
theorem fl_step (p : Int) (h : 65535 < p) : fl (p / 65536 + p % 65536) = fl p := by
  unfold fl
  have : (p / 65536 + p % 65536) % 65535 = p % 65535 := by omega
  rw [this]
  have : ¬ (p / 65536 + p % 65536 = 0) := by omega
  rw [if_neg this, if_neg (show ¬ p = 0 by omega)]
theorem and16 (p : Int) (h : 0 ≤ p) (h2 : p < 1099511627776) : IntKind.i64.wrap (((BitVec.ofInt IntKind.i64.bits p &&& BitVec.ofInt IntKind.i64.bits 65535).toNat : Nat) : Int) = p % 65536 := by
  obtain ⟨n, rfl⟩ : ∃ n : Nat, p = (n : Int) := ⟨p.toNat, by omega⟩
  have h3 : (BitVec.ofInt IntKind.i64.bits (n : Int) &&& BitVec.ofInt IntKind.i64.bits 65535).toNat = n % 65536 := by
    have e1 : (BitVec.ofInt IntKind.i64.bits (n : Int)).toNat = n := by
      show (BitVec.ofInt 64 (n : Int)).toNat = n
      rw [BitVec.toNat_ofInt]; omega
    have e2 : (BitVec.ofInt IntKind.i64.bits 65535).toNat = 2 ^ 16 - 1 := by decide
    rw [BitVec.toNat_and, e1, e2, Nat.and_two_pow_sub_one_eq_mod]
  rw [h3, IntWalk.i64_in _ (by omega)]
  omega
theorem fold_step (k m : Nat) (p : Int) (h : 65535 < p) (h2 : p < 1099511627776) : f_octets_Sum.l2 k (m + 1) p = f_octets_Sum.l2 k m (p / 65536 + p % 65536) := by
  simp only [f_octets_Sum.l2, f_octets_Sum.b2]
  rw [if_pos (decide_eq_true h), and16 p (by omega) h2, show (2 : Int) ^ (min (16 : Int).toNat IntKind.i64.bits) = 65536 by decide, fdiv_pos _ _ (by omega), IntWalk.i64_in _ (by omega)]
theorem fold_end (k m : Nat) (p : Int) (h : 0 ≤ p) (h2 : p ≤ 65535) : f_octets_Sum.l2 k (m + 1) p = some (65535 - fl p, ()) := by
  simp only [f_octets_Sum.l2, f_octets_Sum.b2]
  rw [if_neg (by rw [decide_eq_false (by omega)]; exact Bool.false_ne_true), fl_small p h h2, IntWalk.i64_in _ (by omega)]
theorem fold_two (k m : Nat) (p : Int) (h : 0 ≤ p) (h2 : p < 131072) : f_octets_Sum.l2 k (m + 3) p = some (65535 - fl p, ()) := by
  by_cases h3 : 65535 < p
  · rw [fold_step k (m + 2) p h3 (by omega), ← fl_step p h3]
    by_cases h4 : 65535 < p / 65536 + p % 65536
    · rw [fold_step k (m + 1) _ h4 (by omega), ← fl_step _ h4]
      exact fold_end k m _ (by omega) (by omega)
    · exact fold_end k (m + 1) _ (by omega) (by omega)
  · exact fold_end k (m + 2) p h (by omega)
theorem fold_eq (k m : Nat) (p : Int) (h : 0 ≤ p) (h2 : p < 1099511627776) : f_octets_Sum.l2 k (m + 5) p = some (65535 - fl p, ()) := by
  by_cases h3 : 65535 < p
  · rw [fold_step k (m + 4) p h3 h2, ← fl_step p h3]
    by_cases h4 : 65535 < p / 65536 + p % 65536
    · rw [fold_step k (m + 3) _ h4 (by omega), ← fl_step _ h4]
      exact fold_two k m _ (by omega) (by omega)
    · exact fold_end k (m + 3) _ (by omega) (by omega)
  · exact fold_end k (m + 4) p h (by omega)
-- the sum of bytes
def Oct (xs : List Int) : Prop := ∀ x ∈ xs, (0 : Int) ≤ x ∧ x < 256
def tot (xs : List Int) : Nat → Int
  | 0 => 0
  | i + 1 => tot xs i + (xs[i]?).getD 0 * (if i % 2 = 0 then 256 else 1)
theorem tot_range (xs : List Int) (h : Oct xs) : ∀ i, i ≤ xs.length → 0 ≤ tot xs i ∧ tot xs i ≤ 65280 * (i : Int)
  | 0, _ => by simp [tot]
  | i + 1, hi => by
    have h1 := tot_range xs h i (by omega)
    have hl : i < xs.length := by omega
    have h2 := h xs[i] (List.getElem_mem hl)
    simp only [tot, List.getElem?_eq_getElem hl, Option.getD_some]
    split <;> omega
theorem sum_eq (xs : List Int) (h : Oct xs) (hs : xs.length < 900) : f_octets_Sum.f 1000 xs = some (65535 - fl (tot xs xs.length), ()) := by
  unfold f_octets_Sum.f
  have key : ∀ d i m, i + d = xs.length → d < m → f_octets_Sum.l1 1000 m (tot xs i) xs (xs.length : Int) (i : Int) = some (65535 - fl (tot xs xs.length), ()) := by
    intro d
    induction d with
    | zero =>
      intro i m hi hm
      obtain ⟨m, rfl⟩ : ∃ q, m = q + 1 := ⟨m - 1, by omega⟩
      obtain rfl : i = xs.length := by omega
      simp only [f_octets_Sum.l1, f_octets_Sum.b1]
      rw [if_neg (by simp)]
      have := tot_range xs h xs.length (Nat.le_refl _)
      obtain ⟨m', hm'⟩ : ∃ m' : Nat, 1000000 = m' + 5 := ⟨999995, by decide⟩
      rw [hm']
      exact (show f_octets_Sum.l2 1000 (m' + 1 + 5) (tot xs xs.length) = _ from fold_eq 1000 (m' + 1) _ this.1 (by omega))
    | succ d ih =>
      intro i m hi hm
      obtain ⟨m, rfl⟩ : ∃ q, m = q + 1 := ⟨m - 1, by omega⟩
      have hl : i < xs.length := by omega
      have hx := h xs[i] (List.getElem_mem hl)
      have h1 := tot_range xs h i (by omega)
      have e8 : IntKind.i64.wrap (8 * (Int.tmod (IntKind.i64.wrap ((i : Int) + 1)) 2)) = 8 * (((i + 1) % 2 : Nat) : Int) := by
        rw [wsucc i (by omega), show Int.tmod (((i + 1 : Nat) : Int)) 2 = (((i + 1) % 2 : Nat) : Int) by rw [Int.tmod_eq_emod_of_nonneg (by omega)]; omega, IntWalk.i64_in _ (by omega)]
      have et : tot xs (i + 1) = tot xs i + xs[i] * (if i % 2 = 0 then 256 else 1) := by simp only [tot, List.getElem?_eq_getElem hl, Option.getD_some]
      have ep : (2 : Int) ^ (min (8 * (((i + 1) % 2 : Nat) : Int)).toNat IntKind.i64.bits) = if i % 2 = 0 then 256 else 1 := by
        rcases Nat.mod_two_eq_zero_or_one i with h2 | h2
        · rw [if_pos h2, show (i + 1) % 2 = 1 by omega]; decide
        · rw [if_neg (by omega), show (i + 1) % 2 = 0 by omega]; decide
      simp only [f_octets_Sum.l1, f_octets_Sum.b1, e8, att_n (e := .int .u8) xs i hl]
      rw [if_pos (by simp; exact hl), if_pos (by omega), if_pos (by omega), if_pos (by omega), ep, IntWalk.i64_in xs[i] (by omega), wsucc i (by omega)]
      have hb : xs[i] * (if i % 2 = 0 then 256 else 1) < 65536 ∧ 0 ≤ xs[i] * (if i % 2 = 0 then 256 else 1) := by split <;> omega
      rw [IntWalk.i64_in (xs[i] * _) (by omega), IntWalk.i64_in (tot xs i + _) (by omega), ← et]
      exact ih (i + 1) m (by omega) (by omega)
  exact key xs.length 0 1000 (by omega) (by omega)
theorem sh8 : (2 : Int) ^ (min (8 : Int).toNat IntKind.u32.bits) = 256 := by decide
theorem or8 (x c : Int) (hx : 0 ≤ x) (hx2 : x < 16777216) (hc : 0 ≤ c) (hc2 : c < 256) :
    IntKind.u32.wrap (((BitVec.ofInt IntKind.u32.bits (IntKind.u32.wrap (x * (2 ^ (min (8 : Int).toNat (IntKind.u32.bits))))) ||| BitVec.ofInt IntKind.u32.bits (IntKind.u32.wrap c)).toNat : Int)) = x * 256 + c := by
  obtain ⟨a, rfl⟩ : ∃ a : Nat, x = (a : Int) := ⟨x.toNat, by omega⟩
  obtain ⟨b, rfl⟩ : ∃ b : Nat, c = (b : Int) := ⟨c.toNat, by omega⟩
  rw [sh8, u32_in ((a : Int) * 256) (by omega) (by omega), u32_in (b : Int) (by omega) (by omega)]
  have e1 : (BitVec.ofInt IntKind.u32.bits ((a : Int) * 256)).toNat = a * 2 ^ 8 := by
    show (BitVec.ofInt 32 ((a : Int) * 256)).toNat = _
    rw [BitVec.toNat_ofInt]; omega
  have e2 : (BitVec.ofInt IntKind.u32.bits (b : Int)).toNat = b := by
    show (BitVec.ofInt 32 (b : Int)).toNat = _
    rw [BitVec.toNat_ofInt]; omega
  rw [BitVec.toNat_or, e1, e2, ← Nat.shiftLeft_eq, ← Nat.shiftLeft_add_eq_or_of_lt (show b < 2 ^ 8 by omega), Nat.shiftLeft_eq, u32_in _ (by omega) (by omega)]
  omega
def o8 (x c : Int) : Int := IntKind.u32.wrap (((BitVec.ofInt IntKind.u32.bits (IntKind.u32.wrap (x * (2 ^ (min (8 : Int).toNat (IntKind.u32.bits))))) ||| BitVec.ofInt IntKind.u32.bits (IntKind.u32.wrap c)).toNat : Int))
theorem o8_eq (x c : Int) (hx : 0 ≤ x) (hx2 : x < 16777216) (hc : 0 ≤ c) (hc2 : c < 256) : o8 x c = x * 256 + c := or8 x c hx hx2 hc hc2
def bev (xs : List Int) : Int := xs.foldl (fun n c => n * 256 + c) 0
theorem get1 (a : Int) (r : List Int) (ha : 0 ≤ a ∧ a < 256) : f_octets_Get.f 1000 (a :: r) 1 = some (a, (0, ())) := by
  have e : f_octets_Get.f 1000 (a :: r) 1 = if (decide (((a :: r).length : Int) < 1)) = true then some ((0 : Int), ((3 : Int), ())) else if 0 ≤ (0 : Int) ∧ (0 : Int) ≤ 1 ∧ 1 ≤ ((a :: r).length : Int) then some (IntKind.i64.wrap (o8 0 a), (0, ())) else none := by kernel_rfl
  rw [e, if_neg (by simp only [List.length_cons, decide_eq_true_eq]; omega), if_pos (by simp only [List.length_cons]; omega), o8_eq _ _ (by omega) (by omega) (by omega) (by omega), IntWalk.i64_in _ (by omega), show (0 : Int) * 256 + a = a by omega]
theorem get2 (a b : Int) (r : List Int) (ha : 0 ≤ a ∧ a < 256) (hb : 0 ≤ b ∧ b < 256) : f_octets_Get.f 1000 (a :: b :: r) 2 = some (a * 256 + b, (0, ())) := by
  have e : f_octets_Get.f 1000 (a :: b :: r) 2 = if (decide (((a :: b :: r).length : Int) < 2)) = true then some ((0 : Int), ((3 : Int), ())) else if 0 ≤ (0 : Int) ∧ (0 : Int) ≤ 2 ∧ 2 ≤ ((a :: b :: r).length : Int) then some (IntKind.i64.wrap (o8 (o8 0 a) b), (0, ())) else none := by kernel_rfl
  have e1 := o8_eq 0 a (by omega) (by omega) (by omega) (by omega)
  rw [e, if_neg (by simp only [List.length_cons, decide_eq_true_eq]; omega), if_pos (by simp only [List.length_cons]; omega), e1, o8_eq _ _ (by omega) (by omega) (by omega) (by omega), IntWalk.i64_in _ (by omega), show ((0 : Int) * 256 + a) * 256 + b = a * 256 + b by omega]
theorem get3 (a b c : Int) (r : List Int) (ha : 0 ≤ a ∧ a < 256) (hb : 0 ≤ b ∧ b < 256) (hc : 0 ≤ c ∧ c < 256) : f_octets_Get.f 1000 (a :: b :: c :: r) 3 = some ((a * 256 + b) * 256 + c, (0, ())) := by
  have e : f_octets_Get.f 1000 (a :: b :: c :: r) 3 = if (decide (((a :: b :: c :: r).length : Int) < 3)) = true then some ((0 : Int), ((3 : Int), ())) else if 0 ≤ (0 : Int) ∧ (0 : Int) ≤ 3 ∧ 3 ≤ ((a :: b :: c :: r).length : Int) then some (IntKind.i64.wrap (o8 (o8 (o8 0 a) b) c), (0, ())) else none := by kernel_rfl
  have e1 := o8_eq 0 a (by omega) (by omega) (by omega) (by omega)
  have e2 := o8_eq (0 * 256 + a) b (by omega) (by omega) (by omega) (by omega)
  rw [e, if_neg (by simp only [List.length_cons, decide_eq_true_eq]; omega), if_pos (by simp only [List.length_cons]; omega), e1, e2, o8_eq _ _ (by omega) (by omega) (by omega) (by omega), IntWalk.i64_in _ (by omega), show (((0 : Int) * 256 + a) * 256 + b) * 256 + c = (a * 256 + b) * 256 + c by omega]
theorem get4 (a b c d : Int) (r : List Int) (ha : 0 ≤ a ∧ a < 256) (hb : 0 ≤ b ∧ b < 256) (hc : 0 ≤ c ∧ c < 256) (hd : 0 ≤ d ∧ d < 256) : f_octets_Get.f 1000 (a :: b :: c :: d :: r) 4 = some (((a * 256 + b) * 256 + c) * 256 + d, (0, ())) := by
  have e : f_octets_Get.f 1000 (a :: b :: c :: d :: r) 4 = if (decide (((a :: b :: c :: d :: r).length : Int) < 4)) = true then some ((0 : Int), ((3 : Int), ())) else if 0 ≤ (0 : Int) ∧ (0 : Int) ≤ 4 ∧ 4 ≤ ((a :: b :: c :: d :: r).length : Int) then some (IntKind.i64.wrap (o8 (o8 (o8 (o8 0 a) b) c) d), (0, ())) else none := by kernel_rfl
  have e1 := o8_eq 0 a (by omega) (by omega) (by omega) (by omega)
  have e2 := o8_eq (0 * 256 + a) b (by omega) (by omega) (by omega) (by omega)
  have e3 := o8_eq ((0 * 256 + a) * 256 + b) c (by omega) (by omega) (by omega) (by omega)
  rw [e, if_neg (by simp only [List.length_cons, decide_eq_true_eq]; omega), if_pos (by simp only [List.length_cons]; omega), e1, e2, e3, o8_eq _ _ (by omega) (by omega) (by omega) (by omega), IntWalk.i64_in _ (by omega), show ((((0 : Int) * 256 + a) * 256 + b) * 256 + c) * 256 + d = ((a * 256 + b) * 256 + c) * 256 + d by omega]
def inb (x : Int × Int) (n : Int) : Bool := decide (n ≥ x.1) && decide (n ≤ x.2)
theorem inb_eq (k : Nat) (x : Int × Int) (n : Int) : f_msg_bounds_in.f k x n = some (inb x n, ()) := by
  unfold f_msg_bounds_in.f inb
  cases h : decide (n ≥ x.1)
  · rw [if_neg Bool.false_ne_true]; rfl
  · rw [if_pos rfl]; rfl
def kindOf (n : Int) : Ta655.T := att Ta655 glob0 n
def zr (r : Rl) : Bool := (r.1.1 == (0 : Int)) && ((r.1.2 == (0 : Int)) && ((r.2.1 == (0 : Int)) && ((r.2.2.1 == (0 : Int)) && ((r.2.2.2.1 == (0 : Int)) && ((r.2.2.2.2 == (0 : Int)) && true)))))
noncomputable def mmay (m : Mg) : Bool := decide (0 ≤ m.1) && (decide (m.1 < 6) && ((if (kindOf m.1).2.2 = true then rmay m.2.2.2.2 else zr m.2.2.2.2) && (inb (1, 1048576) m.2.1 && (inb (kindOf m.1).1 m.2.2.1 && inb (kindOf m.1).2.1 m.2.2.2.1))))
theorem mmay_eq (k : Nat) (m : Mg) : f_msg_May.f k m = some (mmay m, ()) := by
  unfold f_msg_May.f mmay
  have hj : f_msg_May.j1 k true m = some (false, ()) := by unfold f_msg_May.j1; rw [if_pos rfl]
  by_cases h1 : m.1 < (0 : Int)
  · rw [if_pos (decide_eq_true h1), hj, decide_eq_false (show ¬ (0 : Int) ≤ m.1 from Int.not_le.2 h1)]; rfl
  rw [if_neg (by rw [decide_eq_false h1]; exact Bool.false_ne_true), decide_eq_true (show (0 : Int) ≤ m.1 from Int.not_lt.1 h1)]
  by_cases h2 : m.1 < (6 : Int)
  · rw [decide_eq_false (show ¬ m.1 ≥ (6 : Int) from Int.not_le.2 h2), decide_eq_true h2]
    unfold f_msg_May.j1
    rw [if_neg Bool.false_ne_true, if_pos (Int.not_lt.1 h1), if_pos h2]
    simp only [Bool.true_and]
    have h3 : ∀ b, f_msg_May.j2 k b m (att Ta655 glob0 m.1) = some (b && (inb (1, 1048576) m.2.1 && (inb (kindOf m.1).1 m.2.2.1 && inb (kindOf m.1).2.1 m.2.2.2.1)), ()) := by
      intro b
      unfold f_msg_May.j2
      cases b
      · rw [if_neg Bool.false_ne_true]; rfl
      · rw [if_pos rfl, inb_eq, Option.bind_some]
        cases inb (1, 1048576) m.2.1
        · rw [if_neg Bool.false_ne_true]; rfl
        · rw [if_pos rfl, inb_eq, Option.bind_some]
          show (if inb (kindOf m.1).1 m.2.2.1 = true then _ else _) = _
          cases inb (kindOf m.1).1 m.2.2.1
          · rw [if_neg Bool.false_ne_true]; rfl
          · rw [if_pos rfl, inb_eq]; rfl
    show (if (kindOf m.1).2.2 = true then _ else _) = _
    by_cases h4 : (kindOf m.1).2.2 = true
    · rw [if_pos h4, if_pos h4, rmay_eq, Option.bind_some, h3]
    · rw [if_neg h4, if_neg h4, h3]; rfl
  · rw [decide_eq_true (show m.1 ≥ (6 : Int) from Int.not_lt.1 h2), hj, decide_eq_false h2]; rfl
theorem kinds6 (n : Int) (h : 0 ≤ n) (h2 : n < 6) : n = 0 ∨ n = 1 ∨ n = 2 ∨ n = 3 ∨ n = 4 ∨ n = 5 := by omega
noncomputable def stepG {R : Type} (o : Option (Int × Int × Unit)) (z : Int → Option R) (K : Int → Option R) : Option R := o.bind fun y => if (y.2.1 != (0 : Int)) = true then z y.2.1 else K y.1
theorem stepG_ok {R : Type} {o : Option (Int × Int × Unit)} {n : Int} {z : Int → Option R} {K : Int → Option R} (h : o = some (n, (0, ()))) : stepG o z K = K n := by
  subst h
  unfold stepG
  rw [Option.bind_some, if_neg (show ¬ ((0 : Int) != 0) = true by decide)]
abbrev mz : Mg := (0, (0, (0, (0, ((0, 0), (0, (0, (0, 0))))))))
def withP (c : Ct) (p : List T23b6.T) : Ct := (c.1, (c.2.1, (c.2.2.1, (c.2.2.2.1, (c.2.2.2.2.1, (c.2.2.2.2.2.1, (c.2.2.2.2.2.2.1, (c.2.2.2.2.2.2.2.1, (p, (c.2.2.2.2.2.2.2.2.2.1, (c.2.2.2.2.2.2.2.2.2.2.1, (c.2.2.2.2.2.2.2.2.2.2.2.1, c.2.2.2.2.2.2.2.2.2.2.2.2))))))))))))
noncomputable def heardC (c : Ct) (sw : Int) (m : Mg) (e : Int) : Ct :=
  if isC c = true ∧ 0 ≤ sw ∧ sw < (c.2.2.2.2.2.2.2.2.1.length : Int) then
    if e = 0 ∧ m.1 = 0 then withP c (helloP c.2.2.2.2.2.2.2.2.1 sw m (lvC c sw) (stC c))
    else if e = 0 ∧ m.1 = 1 then withP c (ackP c.2.2.2.2.2.2.2.2.1 sw m)
    else (c.1, (c.2.1, (c.2.2.1, (c.2.2.2.1, (c.2.2.2.2.1, (c.2.2.2.2.2.1, (c.2.2.2.2.2.2.1, (c.2.2.2.2.2.2.2.1, (c.2.2.2.2.2.2.2.2.1, (c.2.2.2.2.2.2.2.2.2.1, (c.2.2.2.2.2.2.2.2.2.2.1, (c.2.2.2.2.2.2.2.2.2.2.2.1, IntKind.i64.wrap (c.2.2.2.2.2.2.2.2.2.2.2.2 + 1)))))))))))))
  else c
theorem heard_eq (c : Ct) (h : FewOf c) (sw : Int) (b : List Int) (m : Mg) (e : Int) (hb : f_frame_Open.f 1000 b = some (m, (e, ()))) : f_control_Heard.f 1000 c sw b = some (heardC c sw m e, ()) := by
  unfold f_control_Heard.f
  rw [qi_control_own_776m (h := h), Option.bind_some]
  dsimp only
  rw [qi_control_controller_is_559 (h := by have := h.q; omega), Option.bind_some]
  unfold heardC f_control_Heard.j1
  by_cases hc : ¬ isC c = true
  · rw [if_neg (show ¬ (isC c = true ∧ 0 ≤ sw ∧ sw < (c.2.2.2.2.2.2.2.2.1.length : Int)) from fun k => hc k.1), if_pos (by rw [show isB c.1.length c.2.1 c.2.2.1 c.2.2.2.2.2.1 c.2.2.2.2.2.2.2.1 c.2.2.2.2.2.2.2.2.1.length = false from Bool.eq_false_iff.2 hc]; rfl), if_pos rfl]
  replace hc := Decidable.not_not.1 hc
  have hq : isB c.1.length c.2.1 c.2.2.1 c.2.2.2.2.2.1 c.2.2.2.2.2.2.2.1 c.2.2.2.2.2.2.2.2.1.length = true := hc
  rw [if_neg (by rw [hq]; exact Bool.false_ne_true)]
  by_cases h0 : sw < 0
  · rw [if_pos (decide_eq_true h0), if_pos rfl, if_neg fun k => absurd k.2.1 (by omega)]
  rw [if_neg (by rw [decide_eq_false h0]; exact Bool.false_ne_true)]
  by_cases h1 : ¬ sw < (c.2.2.2.2.2.2.2.2.1.length : Int)
  · rw [if_pos (decide_eq_true (by omega)), if_neg fun k => h1 k.2.2]
  replace h1 := Decidable.not_not.1 h1
  rw [if_neg (by rw [decide_eq_false (by omega)]; exact Bool.false_ne_true), if_pos ⟨hc, by omega, h1⟩, hb, Option.bind_some]
  unfold f_control_Heard.j3 f_control_Heard.j4 f_control_Heard.j2
  dsimp only
  have hl := isB_live hq
  by_cases he : e = 0
  · rw [if_pos (beq_iff_eq.2 he)]
    by_cases k0 : m.1 = 0
    · rw [if_pos (beq_iff_eq.2 k0), if_pos ⟨he, k0⟩, qi_control_controller_hello_399 (hs := by omega) (hs1 := h1) (h0 := hl.1) (h1 := hl.2) (h2 := fun ht => isB_next hq ht) (hr := fun x hx => (h.r x hx).2), Option.bind_some]
      rfl
    · rw [if_neg (by rw [beq_iff_eq]; exact k0), if_pos (beq_iff_eq.2 he), if_neg (show ¬ (e = 0 ∧ m.1 = 0) from fun k => k0 k.2)]
      by_cases k1 : m.1 = 1
      · rw [if_pos (beq_iff_eq.2 k1), if_pos ⟨he, k1⟩, qi_control_controller_ack_399 (hs := by omega) (hs1 := h1) (ho := h.o), Option.bind_some]
        rfl
      · rw [if_neg (by rw [beq_iff_eq]; exact k1), if_neg (show ¬ (e = 0 ∧ m.1 = 1) from fun k => k1 k.2)]
  · have he' : (e == 0) = false := beq_eq_false_iff_ne.2 he
    simp only [he', Bool.false_eq_true, if_false, if_neg (show ¬ (e = 0 ∧ m.1 = 0) from fun k => he k.1), if_neg (show ¬ (e = 0 ∧ m.1 = 1) from fun k => he k.1)]
theorem bne_self (x : Int) : (x != x) = false := by simp
theorem ints_refl (xs : List Int) (h : xs.length < 1000) : f_ref02_Ints.f 1000 xs xs = some (true, ()) := by
  unfold f_ref02_Ints.f
  rw [if_neg (by rw [bne_self]; exact Bool.false_ne_true)]
  refine loop (fun m i => f_ref02_Ints.l1 1000 m xs xs (i : Int)) xs.length _ (fun m i hi => ?_) (fun m => ?_) 1000 (by omega)
  · simp only [f_ref02_Ints.l1, f_ref02_Ints.b1]
    rw [if_pos (by (first | omega | (dsimp only [Ty.T]; omega) | (simp only [decide_eq_true_eq, decide_eq_false_iff_not, Bool.not_eq_true, Ty.T]; omega) | (simp only [decide_eq_true_eq, decide_eq_false_iff_not, Ty.T]; omega) | (simp only [beq_iff_eq, bne_iff_ne, ne_eq, decide_eq_true_eq, Ty.T]; omega))), if_pos (by omega), if_pos (by omega), if_pos (by omega), if_neg (by rw [bne_self]; exact Bool.false_ne_true), wsucc i (by omega)]
  · simp only [f_ref02_Ints.l1, f_ref02_Ints.b1]
    rw [if_neg (by (first | omega | (dsimp only [Ty.T]; omega) | (simp only [decide_eq_true_eq, decide_eq_false_iff_not, Bool.not_eq_true, Ty.T]; omega) | (simp only [decide_eq_true_eq, decide_eq_false_iff_not, Ty.T]; omega) | (simp only [beq_iff_eq, bne_iff_ne, ne_eq, decide_eq_true_eq, Ty.T]; omega)))]
theorem given_refl (xs : List T713d.T) (h : xs.length < 1000) : f_ref21_given.f 1000 xs xs = some (true, ()) := by
  unfold f_ref21_given.f
  rw [if_neg (by rw [bne_self]; exact Bool.false_ne_true)]
  refine loop (fun m i => f_ref21_given.l1 xs xs 1000 m (i : Int)) xs.length _ (fun m i hi => ?_) (fun m => ?_) 1000 (by omega)
  · simp only [f_ref21_given.l1, f_ref21_given.b1]
    rw [if_pos (by (first | omega | (dsimp only [Ty.T]; omega) | (simp only [decide_eq_true_eq, decide_eq_false_iff_not, Bool.not_eq_true, Ty.T]; omega) | (simp only [decide_eq_true_eq, decide_eq_false_iff_not, Ty.T]; omega) | (simp only [beq_iff_eq, bne_iff_ne, ne_eq, decide_eq_true_eq, Ty.T]; omega))), if_pos (by omega), if_pos (by omega), if_pos (by omega), if_neg (by simp), wsucc i (by omega)]
  · simp only [f_ref21_given.l1, f_ref21_given.b1]
    rw [if_neg (by (first | omega | (dsimp only [Ty.T]; omega) | (simp only [decide_eq_true_eq, decide_eq_false_iff_not, Bool.not_eq_true, Ty.T]; omega) | (simp only [decide_eq_true_eq, decide_eq_false_iff_not, Ty.T]; omega) | (simp only [beq_iff_eq, bne_iff_ne, ne_eq, decide_eq_true_eq, Ty.T]; omega)))]
theorem msgs_refl (xs : List T4414.T) (h : xs.length < 1000) : f_ref15_Msgs.f 1000 xs xs = some (true, ()) := by
  unfold f_ref15_Msgs.f
  rw [if_neg (by rw [bne_self]; exact Bool.false_ne_true)]
  refine loop (fun m i => f_ref15_Msgs.l1 1000 m xs xs (i : Int)) xs.length _ (fun m i hi => ?_) (fun m => ?_) 1000 (by omega)
  · simp only [f_ref15_Msgs.l1, f_ref15_Msgs.b1]
    rw [if_pos (by (first | omega | (dsimp only [Ty.T]; omega) | (simp only [decide_eq_true_eq, decide_eq_false_iff_not, Bool.not_eq_true, Ty.T]; omega) | (simp only [decide_eq_true_eq, decide_eq_false_iff_not, Ty.T]; omega) | (simp only [beq_iff_eq, bne_iff_ne, ne_eq, decide_eq_true_eq, Ty.T]; omega))), if_pos (by omega), if_pos (by omega), if_pos (by omega), if_neg (by simp), wsucc i (by omega)]
  · simp only [f_ref15_Msgs.l1, f_ref15_Msgs.b1]
    rw [if_neg (by (first | omega | (dsimp only [Ty.T]; omega) | (simp only [decide_eq_true_eq, decide_eq_false_iff_not, Bool.not_eq_true, Ty.T]; omega) | (simp only [decide_eq_true_eq, decide_eq_false_iff_not, Ty.T]; omega) | (simp only [beq_iff_eq, bne_iff_ne, ne_eq, decide_eq_true_eq, Ty.T]; omega)))]
theorem rules_refl (xs : List T1383.T) (h : xs.length < 1000) : f_ref08_Same.f 1000 xs xs = some (true, ()) := by
  unfold f_ref08_Same.f
  rw [if_neg (by rw [bne_self]; exact Bool.false_ne_true)]
  refine loop (fun m i => f_ref08_Same.l1 1000 m xs xs (i : Int)) xs.length _ (fun m i hi => ?_) (fun m => ?_) 1000 (by omega)
  · simp only [f_ref08_Same.l1, f_ref08_Same.b1]
    rw [if_pos (by (first | omega | (dsimp only [Ty.T]; omega) | (simp only [decide_eq_true_eq, decide_eq_false_iff_not, Bool.not_eq_true, Ty.T]; omega) | (simp only [decide_eq_true_eq, decide_eq_false_iff_not, Ty.T]; omega) | (simp only [beq_iff_eq, bne_iff_ne, ne_eq, decide_eq_true_eq, Ty.T]; omega))), if_pos (by omega), if_pos (by omega), if_pos (by omega), if_neg (by simp), wsucc i (by omega)]
  · simp only [f_ref08_Same.l1, f_ref08_Same.b1]
    rw [if_neg (by (first | omega | (dsimp only [Ty.T]; omega) | (simp only [decide_eq_true_eq, decide_eq_false_iff_not, Bool.not_eq_true, Ty.T]; omega) | (simp only [decide_eq_true_eq, decide_eq_false_iff_not, Ty.T]; omega) | (simp only [beq_iff_eq, bne_iff_ne, ne_eq, decide_eq_true_eq, Ty.T]; omega)))]
theorem peers_refl (xs : List T23b6.T) (h : xs.length < 1000) (ho : ∀ y ∈ xs, y.2.2.2.2.length < 1000) : f_ref21_peers.f 1000 xs xs = some (true, ()) := by
  unfold f_ref21_peers.f
  rw [if_neg (by rw [bne_self]; exact Bool.false_ne_true)]
  refine loop (fun m i => f_ref21_peers.l1 xs xs 1000 m (i : Int)) xs.length _ (fun m i hi => ?_) (fun m => ?_) 1000 (by omega)
  · have hy := ho _ (List.getElem_mem hi)
    have hs : ∀ s : Tb104.T, s.2.2.length < 1000 → f_ref15_Same.f 1000 s s = some (true, ()) := by
      intro s hs
      unfold f_ref15_Same.f
      rw [msgs_refl _ hs, Option.bind_some, if_pos rfl, if_pos (beq_iff_eq.2 rfl), show (s.2.1 == s.2.1) = true from beq_iff_eq.2 rfl]
    simp only [f_ref21_peers.l1, f_ref21_peers.b1, f_ref21_peers.j2]
    rw [if_pos (by (first | omega | (dsimp only [Ty.T]; omega) | (simp only [decide_eq_true_eq, decide_eq_false_iff_not, Bool.not_eq_true, Ty.T]; omega) | (simp only [decide_eq_true_eq, decide_eq_false_iff_not, Ty.T]; omega) | (simp only [beq_iff_eq, bne_iff_ne, ne_eq, decide_eq_true_eq, Ty.T]; omega))), if_pos (by omega), if_pos (by omega), if_pos (by omega), att_n (e := T23b6) xs i hi, hs _ (by omega), Option.bind_some, if_neg (by decide), if_neg (by rw [bne_self]; exact Bool.false_ne_true), bne_self, if_neg Bool.false_ne_true, wsucc i (by omega)]
  · simp only [f_ref21_peers.l1, f_ref21_peers.b1]
    rw [if_neg (by (first | omega | (dsimp only [Ty.T]; omega) | (simp only [decide_eq_true_eq, decide_eq_false_iff_not, Bool.not_eq_true, Ty.T]; omega) | (simp only [decide_eq_true_eq, decide_eq_false_iff_not, Ty.T]; omega) | (simp only [beq_iff_eq, bne_iff_ne, ne_eq, decide_eq_true_eq, Ty.T]; omega)))]
theorem confs_refl (xs : List (List (List Rl))) (h : xs.length < 1000) (ho : ∀ x ∈ xs, x.length ≤ 10 ∧ ∀ l ∈ x, l.length ≤ 60) : f_ref21_Confs.f 1000 xs xs = some (true, ()) := by
  unfold f_ref21_Confs.f
  rw [if_neg (by rw [bne_self]; exact Bool.false_ne_true)]
  refine loop (fun m i => f_ref21_Confs.l1 xs xs 1000 m (i : Int)) xs.length _ (fun m i hi => ?_) (fun m => ?_) 1000 (by omega)
  · have hx := ho _ (List.getElem_mem hi)
    have hx1 : xs[i].length ≤ 10 := hx.1
    simp only [f_ref21_Confs.l1, f_ref21_Confs.b1]
    rw [if_pos (by (first | omega | (dsimp only [Ty.T]; omega) | (simp only [decide_eq_true_eq, decide_eq_false_iff_not, Bool.not_eq_true, Ty.T]; omega) | (simp only [decide_eq_true_eq, decide_eq_false_iff_not, Ty.T]; omega) | (simp only [beq_iff_eq, bne_iff_ne, ne_eq, decide_eq_true_eq, Ty.T]; omega))), if_pos (by omega), if_pos (by omega), if_pos (by omega), if_neg (by rw [bne_self]; exact Bool.false_ne_true)]
    refine loop (fun q j => f_ref21_Confs.l2 xs xs (f_ref21_Confs.l1 xs xs 1000 m) 1000 q (i : Int) (j : Int)) (xs[i]).length _ (fun q j hj => ?_) (fun q => ?_) 1000 (by omega)
    · have hy := hx.2 _ (List.getElem_mem hj)
      simp only [f_ref21_Confs.l2, f_ref21_Confs.b2]
      rw [att_n (e := .slice (.slice T1383)) xs i hi, if_pos (by omega), if_pos (by omega), if_pos (by (first | omega | (dsimp only [Ty.T]; omega) | (simp only [decide_eq_true_eq, decide_eq_false_iff_not, Bool.not_eq_true, Ty.T]; omega) | (simp only [decide_eq_true_eq, decide_eq_false_iff_not, Ty.T]; omega) | (simp only [beq_iff_eq, bne_iff_ne, ne_eq, decide_eq_true_eq, Ty.T]; omega))), if_pos (by omega), if_pos (by omega), if_pos (by omega), if_pos (by omega), att_n (e := .slice T1383) xs[i] j hj, rules_refl _ (by omega), Option.bind_some, if_neg (by decide), wsucc j (by omega)]
    · simp only [f_ref21_Confs.l2, f_ref21_Confs.b2]
      rw [att_n (e := .slice (.slice T1383)) xs i hi, if_pos (by omega), if_pos (by omega), if_neg (by (first | omega | (dsimp only [Ty.T]; omega) | (simp only [decide_eq_true_eq, decide_eq_false_iff_not, Bool.not_eq_true, Ty.T]; omega) | (simp only [decide_eq_true_eq, decide_eq_false_iff_not, Ty.T]; omega) | (simp only [beq_iff_eq, bne_iff_ne, ne_eq, decide_eq_true_eq, Ty.T]; omega))), wsucc i (by omega)]
  · simp only [f_ref21_Confs.l1, f_ref21_Confs.b1]
    rw [if_neg (by (first | omega | (dsimp only [Ty.T]; omega) | (simp only [decide_eq_true_eq, decide_eq_false_iff_not, Bool.not_eq_true, Ty.T]; omega) | (simp only [decide_eq_true_eq, decide_eq_false_iff_not, Ty.T]; omega) | (simp only [beq_iff_eq, bne_iff_ne, ne_eq, decide_eq_true_eq, Ty.T]; omega)))]
structure BigC (cs : List (List (List Rl))) (peers : List T23b6.T) (queue done undone : List Int) (given : List T713d.T) : Prop where
  c : cs.length < 1000
  p : peers.length < 1000
  q : queue.length < 1000
  g : given.length < 1000
  d : done.length < 1000
  u : undone.length < 1000
  r : ∀ x ∈ cs, x.length ≤ 10 ∧ ∀ l ∈ x, l.length ≤ 60
  o : ∀ y ∈ peers, y.2.2.2.2.length < 1000
abbrev BigOf (c : Ct) : Prop := BigC c.1 c.2.2.2.2.2.2.2.2.1 c.2.2.2.2.2.2.2.1 c.2.2.2.2.2.2.2.2.2.2.1 c.2.2.2.2.2.2.2.2.2.2.2.1 c.2.2.2.2.2.2.2.2.2.1
theorem FewC.big {cs : List (List (List Rl))} {peers : List T23b6.T} {queue done undone : List Int} {given : List T713d.T} (h : FewC cs peers queue done undone given) : BigC cs peers queue done undone given := ⟨by have := h.c; omega, by have := h.p; omega, by have := h.q; omega, by have := h.g; omega, by have := h.d; omega, by have := h.u; omega, h.r, fun y hy => by have := h.o y hy; omega⟩
theorem same_big (c : Ct) (h : BigOf c) : f_ref21_Same.f 1000 c c = some (true, ()) := by
  have b : ∀ x : Int, (x == x) = true := fun x => beq_iff_eq.2 rfl
  unfold f_ref21_Same.f
  rw [confs_refl _ h.c h.r, Option.bind_some, peers_refl _ h.p h.o, Option.bind_some, given_refl _ h.g, Option.bind_some, ints_refl _ h.q, Option.bind_some, ints_refl _ h.d, Option.bind_some, ints_refl _ h.u, Option.bind_some]
  unfold f_ref21_Same.j2 f_ref21_Same.j1
  rw [if_pos (b _), if_pos (b _), if_pos (b _), if_pos (b _), if_pos (b _), b, b]
  rfl
theorem ref_two (k : Nat) (c : Ct) : f_ref21_two.f k c = some (two c.2.2.2.2.2.1, ()) := by
  unfold f_ref21_two.f two
  by_cases h1 : c.2.2.2.2.2.1 = (1 : Int)
  · rw [if_pos (beq_iff_eq.2 h1), h1]; rfl
  · rw [if_neg (by rw [beq_iff_eq]; exact h1), beq_eq_false_iff_ne.2 h1]
    by_cases h2 : c.2.2.2.2.2.1 = (2 : Int)
    · rw [if_pos (beq_iff_eq.2 h2), h2]; rfl
    · rw [if_neg (by rw [beq_iff_eq]; exact h2), beq_eq_false_iff_ne.2 h2]; rfl
theorem ref_at (k : Nat) (x : List (List Rl)) (sw : Int) (h : ∀ l ∈ x, l.length ≤ 1000) : f_ref12_At.f k x sw = some (rulesAt x sw, ()) := by
  unfold f_ref12_At.f f_ref12_At.j1 rulesAt
  by_cases h0 : sw < 0
  · rw [decide_eq_true h0, if_pos rfl, if_pos rfl, if_neg (by omega)]
  · rw [decide_eq_false h0, if_neg Bool.false_ne_true]
    by_cases h1 : sw < (x.length : Int)
    · have hm := h _ (att_mem (e := .slice T1383) x (by omega) h1)
      rw [decide_eq_false (by omega), if_neg Bool.false_ne_true, if_pos (by omega), if_pos h1, if_pos (by omega), if_pos (by omega)]
    · rw [decide_eq_true (by omega), if_pos rfl, if_neg (by omega)]
theorem ref_spush (k : Nat) (S : Ss) (m : Mg) (h : S.2.2.length < 1000000) : f_ref15_Push.f k S m = f_sess_Push.f k S m := by
  unfold f_ref15_Push.f f_sess_Push.f
  rw [own_s k _ _ _ _ _ h, Option.bind_some]
  dsimp only
  by_cases h1 : S.2.1 > (1048576 : Int)
  · rw [if_pos (decide_eq_true h1), if_pos (decide_eq_true h1)]
  · rw [if_neg (by rw [decide_eq_false h1]; exact Bool.false_ne_true), if_pos (by omega), if_pos (by omega), if_neg (by rw [decide_eq_false h1]; exact Bool.false_ne_true)]
theorem ref_done (S : Ss) (v n : Int) (hs : S.2.2.length < 900) : f_ref15_Done.f 1000 S v n = some (sdone S v n, ()) := by
  unfold f_ref15_Done.f sdone
  by_cases h : v = S.1
  · rw [if_neg (by rw [bne_iff_ne]; exact fun k => k h), if_pos h]
    refine loop (fun m i => f_ref15_Done.l1 1000 m n (i : Int) S 0 0 ((S.2.2.take i).filter (fresh n))) S.2.2.length _ (fun m i hi => ?_) (fun m => ?_) 1000 (by omega)
    · have hl : ((S.2.2.take i).filter (fresh n)).length ≤ i := Nat.le_trans (List.length_filter_le _ _) (by rw [List.length_take]; omega)
      simp only [f_ref15_Done.l1, f_ref15_Done.b1, f_ref15_Done.j2]
      rw [if_pos (by (first | omega | (dsimp only [Ty.T]; omega) | (simp only [decide_eq_true_eq, decide_eq_false_iff_not, Bool.not_eq_true, Ty.T]; omega) | (simp only [decide_eq_true_eq, decide_eq_false_iff_not, Ty.T]; omega) | (simp only [beq_iff_eq, bne_iff_ne, ne_eq, decide_eq_true_eq, Ty.T]; omega))), if_pos (by omega), if_pos (by omega), att_n (e := T4414) S.2.2 i hi, wsucc i (by omega), List.take_succ_eq_append_getElem hi, List.filter_append]
      by_cases hn : (S.2.2[i]).2.2.1 > n
      · rw [if_pos (decide_eq_true hn), if_pos (by omega)]
        have : fresh n (S.2.2[i]) = true := by unfold fresh; rw [decide_eq_false (Int.not_le.2 hn)]; rfl
        rw [List.filter_cons, this, if_pos rfl, List.filter_nil]
      · rw [if_neg (by rw [decide_eq_false hn]; exact Bool.false_ne_true)]
        have : fresh n (S.2.2[i]) = false := by unfold fresh; rw [decide_eq_true (Int.not_lt.1 hn)]; rfl
        rw [List.filter_cons, this, if_neg Bool.false_ne_true, List.filter_nil, List.append_nil]
    · simp only [f_ref15_Done.l1, f_ref15_Done.b1]
      rw [if_neg (by (first | omega | (dsimp only [Ty.T]; omega) | (simp only [decide_eq_true_eq, decide_eq_false_iff_not, Bool.not_eq_true, Ty.T]; omega) | (simp only [decide_eq_true_eq, decide_eq_false_iff_not, Ty.T]; omega) | (simp only [beq_iff_eq, bne_iff_ne, ne_eq, decide_eq_true_eq, Ty.T]; omega))), List.take_length]
  · rw [if_pos (by rw [bne_iff_ne]; exact h), if_neg h]
theorem ref_adds (tag : Int) (rs : List Rl) (h : rs.length < 900) : f_ref20_Adds.f 1000 tag rs = some (addsOf tag rs, ()) := by
  unfold f_ref20_Adds.f
  have ha : ∀ i, (addsOf tag (rs.take i)).length ≤ i := fun i => by unfold addsOf; rw [List.length_map, List.length_take]; omega
  refine loop (fun m i => f_ref20_Adds.l1 1000 m tag rs (i : Int) (addsOf tag (rs.take i))) rs.length _ (fun m i hi => ?_) (fun m => ?_) 1000 (by omega)
  · have := ha i
    simp only [f_ref20_Adds.l1, f_ref20_Adds.b1]
    rw [if_pos (by (first | omega | (dsimp only [Ty.T]; omega) | (simp only [decide_eq_true_eq, decide_eq_false_iff_not, Bool.not_eq_true, Ty.T]; omega) | (simp only [decide_eq_true_eq, decide_eq_false_iff_not, Ty.T]; omega) | (simp only [beq_iff_eq, bne_iff_ne, ne_eq, decide_eq_true_eq, Ty.T]; omega))), if_pos (by omega), if_pos (by omega), if_pos (by omega), att_n (e := T1383) rs i hi, wsucc i (by omega)]
    unfold addsOf
    rw [List.take_succ_eq_append_getElem hi, List.map_append]
    rfl
  · simp only [f_ref20_Adds.l1, f_ref20_Adds.b1]
    rw [if_neg (by (first | omega | (dsimp only [Ty.T]; omega) | (simp only [decide_eq_true_eq, decide_eq_false_iff_not, Bool.not_eq_true, Ty.T]; omega) | (simp only [decide_eq_true_eq, decide_eq_false_iff_not, Ty.T]; omega) | (simp only [beq_iff_eq, bne_iff_ne, ne_eq, decide_eq_true_eq, Ty.T]; omega))), List.take_length]
theorem ref_sync (t : List Vr) (n : Int) (h1 : t.length ≤ 20) (h2 : ∀ v ∈ t, v.2.length ≤ 60) : f_ref20_Sync.f 1000 t n = some (syncOf t n, ()) := by
  unfold f_ref20_Sync.f
  have hz := size_le (t := t) fun v hv => by have := h2 v hv; omega
  refine loop (fun m i => f_ref20_Sync.l1 1000 m t n (i : Int) (allOf (t.take i))) t.length _ (fun m i hi => ?_) (fun m => ?_) 1000 (by omega)
  · have hv := h2 _ (List.getElem_mem hi)
    have hl := all_len (t.take i)
    have hl2 := size_take_le t i
    simp only [f_ref20_Sync.l1, f_ref20_Sync.b1]
    rw [if_pos (by (first | omega | (dsimp only [Ty.T]; omega) | (simp only [decide_eq_true_eq, decide_eq_false_iff_not, Bool.not_eq_true, Ty.T]; omega) | (simp only [decide_eq_true_eq, decide_eq_false_iff_not, Ty.T]; omega) | (simp only [beq_iff_eq, bne_iff_ne, ne_eq, decide_eq_true_eq, Ty.T]; omega))), if_pos (by omega), if_pos (by omega), att_n (e := T814c) t i hi, ref_adds _ _ (by omega), Option.bind_some]
    dsimp only
    rw [if_pos (by unfold addsOf; rw [List.length_map]; omega), wsucc i (by omega)]
    unfold allOf
    rw [List.take_succ_eq_append_getElem hi, List.flatMap_append]
    simp
  · have hl := all_len t
    simp only [f_ref20_Sync.l1, f_ref20_Sync.b1]
    rw [if_neg (by (first | omega | (dsimp only [Ty.T]; omega) | (simp only [decide_eq_true_eq, decide_eq_false_iff_not, Bool.not_eq_true, Ty.T]; omega) | (simp only [decide_eq_true_eq, decide_eq_false_iff_not, Ty.T]; omega) | (simp only [beq_iff_eq, bne_iff_ne, ne_eq, decide_eq_true_eq, Ty.T]; omega))), List.take_length, if_pos (by omega)]
    rfl
theorem ref_push (S : Ss) (ms : List Mg) (hm : ms.length ≤ 200) (hb : S.2.2.length ≤ 200) (n1 : (1 : Int) ≤ S.2.1) (n2 : S.2.1 ≤ (1000 : Int)) : f_ref20_Push.f 1000 S ms = some (pushed S ms ms.length, ()) := by
  unfold f_ref20_Push.f
  refine loop (fun m i => f_ref20_Push.l1 1000 m ms (i : Int) (pushed S ms i) 0 0) ms.length _ (fun m i hi => ?_) (fun m => ?_) 1000 (by omega)
  · obtain ⟨h1, h2, h3, h4⟩ := pushed_ok S ms i (by omega)
    have hn : ∀ a : Int, 1 ≤ a → a ≤ 1000 → a + (i : Int) ≤ 1048576 ∧ (-1048576 : Int) ≤ a + (i : Int) := fun a b c => ⟨by omega, by omega⟩
    have hn2 := hn S.2.1 n1 n2
    simp only [f_ref20_Push.l1, f_ref20_Push.b1]
    rw [if_pos (by (first | omega | (dsimp only [Ty.T]; omega) | (simp only [decide_eq_true_eq, decide_eq_false_iff_not, Bool.not_eq_true, Ty.T]; omega) | (simp only [decide_eq_true_eq, decide_eq_false_iff_not, Ty.T]; omega) | (simp only [beq_iff_eq, bne_iff_ne, ne_eq, decide_eq_true_eq, Ty.T]; omega))), if_pos (by omega), if_pos (by omega), ref_spush 1000 _ _ (by omega), push_eq 1000 _ _ (by omega) (by rw [h2]; exact hn2.1) (by rw [h2]; exact hn2.2), Option.bind_some, if_neg (by simp), wsucc i (by omega)]
    rfl
  · simp only [f_ref20_Push.l1, f_ref20_Push.b1]
    rw [if_neg (by (first | omega | (dsimp only [Ty.T]; omega) | (simp only [decide_eq_true_eq, decide_eq_false_iff_not, Bool.not_eq_true, Ty.T]; omega) | (simp only [decide_eq_true_eq, decide_eq_false_iff_not, Ty.T]; omega) | (simp only [beq_iff_eq, bne_iff_ne, ne_eq, decide_eq_true_eq, Ty.T]; omega)))]
theorem next_dec (n : Nat) (next : Int) (t : Bool) : ((next == -1 && !t) || inR n next) = ((decide (next ≥ -1) && decide (next < (n : Int))) && (!t || decide (next ≥ 0))) := by
  unfold inR
  rw [Bool.eq_iff_iff]
  simp only [Bool.or_eq_true, Bool.and_eq_true, beq_iff_eq, decide_eq_true_eq, Bool.not_eq_true']
  constructor
  · rintro (⟨h1, h⟩ | ⟨h1, h2⟩)
    · exact ⟨⟨by omega, by omega⟩, .inl h⟩
    · exact ⟨⟨by omega, h2⟩, .inr h1⟩
  · rintro ⟨⟨h1, h2⟩, h3 | h3⟩
    · by_cases e : next = -1
      · exact .inl ⟨e, h3⟩
      · exact .inr ⟨by omega, h2⟩
    · exact .inr ⟨h3, h2⟩
theorem ref_may (c : Ct) (h : FewOf c) : f_ref21_May.f 1000 c = some (isC c, ()) := by
  obtain ⟨cs, live, next, tag, new, ph, timer, queue, peers, given, done, undone, junk⟩ := c
  have hq : queue.length ≤ 100 := h.q
  have hL : ∀ p1 p2 p3, f_ref21_May.l1 (cs, live, next, tag, new, ph, timer, queue, peers, given, done, undone, junk) 1000 1000 p1 p2 p3 0 = some (!queue.any (fun q => !inR cs.length q) && (p1 && (p2 && ((!p3 || decide (next ≥ (0 : Int))) && decide ((peers.length : Int) ≤ 100)))), ()) := by
    intro p1 p2 p3
    have hle : queue.findIdx (fun q => !inR cs.length q) ≤ queue.length := List.findIdx_le_length
    refine loop (fun m i => f_ref21_May.l1 (cs, live, next, tag, new, ph, timer, queue, peers, given, done, undone, junk) 1000 m p1 p2 p3 (i : Int)) (queue.findIdx (fun q => !inR cs.length q)) _ (fun m i hi => ?_) (fun m => ?_) 1000 (by omega)
    · have hl : i < queue.length := by omega
      have hn : (!inR cs.length queue[i]) = false := fi_not (p := fun q => !inR cs.length q) hi hl
      have hr : 0 ≤ queue[i] ∧ queue[i] < (cs.length : Int) := inR_iff.1 (by simpa using hn)
      simp only [f_ref21_May.l1, f_ref21_May.b1, f_ref21_May.j2]
      rw [if_pos (by (first | omega | (dsimp only [Ty.T]; omega) | (simp only [decide_eq_true_eq, decide_eq_false_iff_not, Bool.not_eq_true, Ty.T]; omega) | (simp only [decide_eq_true_eq, decide_eq_false_iff_not, Ty.T]; omega) | (simp only [beq_iff_eq, bne_iff_ne, ne_eq, decide_eq_true_eq, Ty.T]; omega))), if_pos (by omega), if_pos (by omega), att_n (e := .int .i64) queue i hl, if_neg (by rw [decide_eq_false (Int.not_lt.2 hr.1)]; exact Bool.false_ne_true), decide_eq_false (Int.not_le.2 hr.2), if_neg Bool.false_ne_true, wsucc i (by omega)]
    · simp only [f_ref21_May.l1, f_ref21_May.b1, f_ref21_May.j2]
      by_cases hl : queue.findIdx (fun q => !inR cs.length q) < queue.length
      · have hy := List.findIdx_getElem (w := hl)
        have hany : queue.any (fun q => !inR cs.length q) = true := List.any_eq_true.2 ⟨_, List.getElem_mem hl, hy⟩
        rw [if_pos (by (first | omega | (dsimp only [Ty.T]; omega) | (simp only [decide_eq_true_eq, decide_eq_false_iff_not, Bool.not_eq_true, Ty.T]; omega) | (simp only [decide_eq_true_eq, decide_eq_false_iff_not, Ty.T]; omega) | (simp only [beq_iff_eq, bne_iff_ne, ne_eq, decide_eq_true_eq, Ty.T]; omega))), if_pos (by omega), if_pos (by omega), att_n (e := .int .i64) queue _ hl, hany]
        generalize queue[queue.findIdx (fun q => !inR cs.length q)] = z at hy
        have hy2 : inR cs.length z = false := by simpa using hy
        by_cases hz : z < (0 : Int)
        · rw [if_pos (decide_eq_true hz), if_pos trivial]; rfl
        · rw [if_neg (by rw [decide_eq_false hz]; exact Bool.false_ne_true)]
          have : z ≥ (cs.length : Int) := by
            have h1 : ¬ (0 ≤ z ∧ z < (cs.length : Int)) := fun k => by rw [inR_iff.2 k] at hy2; cases hy2
            exact Int.not_lt.1 fun k => h1 ⟨Int.not_lt.1 hz, k⟩
          rw [decide_eq_true this, if_pos rfl]; rfl
      · have hany : queue.any (fun q => !inR cs.length q) = false := by
          rw [Bool.eq_false_iff]
          intro hc
          obtain ⟨y, h1, h2⟩ := List.any_eq_true.1 hc
          exact hl (List.findIdx_lt_length_of_exists ⟨y, h1, h2⟩)
        rw [if_neg (by (first | omega | (dsimp only [Ty.T]; omega) | (simp only [decide_eq_true_eq, decide_eq_false_iff_not, Bool.not_eq_true, Ty.T]; omega) | (simp only [decide_eq_true_eq, decide_eq_false_iff_not, Ty.T]; omega) | (simp only [beq_iff_eq, bne_iff_ne, ne_eq, decide_eq_true_eq, Ty.T]; omega))), hany]
        cases p1
        · rfl
        cases p2
        · rfl
        cases p3
        · rfl
        · rw [if_pos rfl, if_pos rfl, if_neg (by decide)]
          by_cases hx : next ≥ (0 : Int)
          · rw [if_pos (decide_eq_true hx), decide_eq_true hx]; rfl
          · rw [if_neg (by rw [decide_eq_false hx]; exact Bool.false_ne_true), decide_eq_false hx]; rfl
  unfold f_ref21_May.f f_ref21_May.j4 f_ref21_May.j3
  simp only [ref_two, Option.bind_some, hL]
  unfold isC isB
  have e1 : inR cs.length live = (decide (live ≥ 0) && decide (live < (cs.length : Int))) := by unfold inR; rw [← Bool.decide_and]
  have e2 := next_dec cs.length next (two ph)
  dsimp only
  rw [e1, e2]
  generalize decide (live ≥ 0) = b1
  generalize decide (live < (cs.length : Int)) = b2
  generalize decide (next ≥ -1) = b3
  generalize decide (next < (cs.length : Int)) = b4
  generalize two ph = b5
  generalize decide (next ≥ 0) = b6
  generalize queue.any (fun q => !inR cs.length q) = b7
  generalize decide ((peers.length : Int) ≤ 100) = b8
  cases b1 <;> cases b2 <;> cases b3 <;> cases b4 <;> cases b5 <;> cases b6 <;> cases b7 <;> cases b8 <;> rfl
theorem ref_live (c : Ct) (h : FewOf c) (sw : Int) : f_ref21_Live.f 1000 c sw = some (if isC c = true then (lvC c sw, (stC c, ())) else ([], (0, ()))) := by
  have hb : ∀ x ∈ c.1, ∀ l ∈ x, l.length ≤ 1000 := fun x hx l hl => by have := (h.r x hx).2 l hl; omega
  unfold f_ref21_Live.f
  rw [ref_may c h, Option.bind_some]
  by_cases hc : ¬ isC c = true
  · rw [if_neg hc, if_pos (by rw [Bool.eq_false_iff.2 hc]; rfl)]
  replace hc := Decidable.not_not.1 hc
  have hq : isB c.1.length c.2.1 c.2.2.1 c.2.2.2.2.2.1 c.2.2.2.2.2.2.2.1 c.2.2.2.2.2.2.2.2.1.length = true := hc
  have hl := isB_live hq
  rw [if_pos hc, if_neg (by rw [hc]; decide), if_pos hl.1, if_pos hl.2, ref_at 1000 _ _ (hb _ (att_mem (e := .slice (.slice T1383)) c.1 hl.1 hl.2)), Option.bind_some, ref_two, Option.bind_some]
  unfold lvC lvs stC stampOf
  by_cases ht : two c.2.2.2.2.2.1 = true
  · have hn := isB_next hq ht
    rw [if_pos ht, if_pos ht, if_pos hn.1, if_pos hn.2, ref_at 1000 _ _ (hb _ (att_mem (e := .slice (.slice T1383)) c.1 hn.1 hn.2)), Option.bind_some]
    by_cases hlt : c.2.2.2.2.1 < c.2.2.2.1
    · rw [if_pos (decide_eq_true hlt), if_pos hlt]
      unfold f_ref21_Live.j2 f_ref21_Live.j1 f_ref21_Live.j5 f_ref21_Live.j7
      by_cases h2 : c.2.2.2.2.2.1 = (2 : Int)
      · rw [if_pos (beq_iff_eq.2 h2), if_pos rfl, if_pos (.inl h2)]; rfl
      · rw [if_neg (by rw [beq_iff_eq]; exact h2)]
        by_cases h3 : c.2.2.2.2.2.1 = (3 : Int)
        · rw [beq_iff_eq.2 h3, if_pos rfl, if_pos (.inr h3)]; rfl
        · rw [beq_eq_false_iff_ne.2 h3, if_neg Bool.false_ne_true, if_neg (fun k => k.elim h2 h3)]; rfl
    · rw [if_neg (by rw [decide_eq_false hlt]; exact Bool.false_ne_true), if_neg hlt]
      unfold f_ref21_Live.j3 f_ref21_Live.j4 f_ref21_Live.j6 f_ref21_Live.j8
      by_cases h2 : c.2.2.2.2.2.1 = (2 : Int)
      · rw [if_pos (beq_iff_eq.2 h2), if_pos rfl, if_pos (.inl h2)]
      · rw [if_neg (by rw [beq_iff_eq]; exact h2)]
        by_cases h3 : c.2.2.2.2.2.1 = (3 : Int)
        · rw [beq_iff_eq.2 h3, if_pos rfl, if_pos (.inr h3)]
        · rw [beq_eq_false_iff_ne.2 h3, if_neg Bool.false_ne_true, if_neg (fun k => k.elim h2 h3)]
  · rw [if_neg ht, if_neg ht]
    unfold f_ref21_Live.j2 f_ref21_Live.j1 f_ref21_Live.j5 f_ref21_Live.j7
    by_cases h2 : c.2.2.2.2.2.1 = (2 : Int)
    · rw [if_pos (beq_iff_eq.2 h2), if_pos rfl, if_pos (.inl h2)]
    · rw [if_neg (by rw [beq_iff_eq]; exact h2)]
      by_cases h3 : c.2.2.2.2.2.1 = (3 : Int)
      · rw [beq_iff_eq.2 h3, if_pos rfl, if_pos (.inr h3)]
      · rw [beq_eq_false_iff_ne.2 h3, if_neg Bool.false_ne_true, if_neg (fun k => k.elim h2 h3)]
theorem peer_eq (k : Nat) (c : Ct) (sw : Int) (y : T23b6.T) (hp : c.2.2.2.2.2.2.2.2.1.length ≤ 100) (h0 : 0 ≤ sw) (h1 : sw < (c.2.2.2.2.2.2.2.2.1.length : Int)) : f_ref21_peer.f k c sw y = some (withP c (c.2.2.2.2.2.2.2.2.1.set sw.toNat y), ()) := by
  unfold f_ref21_peer.f
  rw [if_pos (by omega), if_pos h0, if_pos h1]
  rfl
theorem ref_heard (c : Ct) (h : FewOf c) (sw : Int) (b : List Int) (m : Mg) (e : Int) (hb : f_ref06_Open.f 1000 b = some (m, (e, ()))) : f_ref21_Heard.f 1000 c sw b = some (heardC c sw m e, ()) := by
  have hp := h.p
  unfold f_ref21_Heard.f heardC
  rw [ref_may c h, Option.bind_some]
  have j1 : f_ref21_Heard.j1 c sw b 1000 true 0 0 0 0 0 0 0 = some (c, ()) := rfl
  by_cases hc : ¬ isC c = true
  · rw [if_pos (by rw [Bool.eq_false_iff.2 hc]; rfl), j1, if_neg (show ¬ (isC c = true ∧ 0 ≤ sw ∧ sw < (c.2.2.2.2.2.2.2.2.1.length : Int)) from fun k => hc k.1)]
  replace hc := Decidable.not_not.1 hc
  rw [if_neg (by rw [hc]; decide)]
  by_cases h0 : sw < 0
  · rw [if_pos (decide_eq_true h0), j1, if_neg (show ¬ (isC c = true ∧ 0 ≤ sw ∧ sw < (c.2.2.2.2.2.2.2.2.1.length : Int)) from fun k => absurd k.2.1 (by omega))]
  rw [if_neg (by rw [decide_eq_false h0]; exact Bool.false_ne_true)]
  by_cases h1 : ¬ sw < (c.2.2.2.2.2.2.2.2.1.length : Int)
  · rw [decide_eq_true (by omega), j1, if_neg (show ¬ (isC c = true ∧ 0 ≤ sw ∧ sw < (c.2.2.2.2.2.2.2.2.1.length : Int)) from fun k => h1 k.2.2)]
  replace h1 := Decidable.not_not.1 h1
  rw [decide_eq_false (by omega), if_pos ⟨hc, by omega, h1⟩]
  unfold f_ref21_Heard.j1
  rw [if_neg Bool.false_ne_true, hb, Option.bind_some]
  dsimp only
  have jj : f_ref21_Heard.j2 c sw 1000 true 0 0 0 0 0 0 0 m = some ((c.1, (c.2.1, (c.2.2.1, (c.2.2.2.1, (c.2.2.2.2.1, (c.2.2.2.2.2.1, (c.2.2.2.2.2.2.1, (c.2.2.2.2.2.2.2.1, (c.2.2.2.2.2.2.2.2.1, (c.2.2.2.2.2.2.2.2.2.1, (c.2.2.2.2.2.2.2.2.2.2.1, (c.2.2.2.2.2.2.2.2.2.2.2.1, IntKind.i64.wrap (c.2.2.2.2.2.2.2.2.2.2.2.2 + 1))))))))))))), ()) := rfl
  by_cases he : ¬ e = 0
  · rw [if_pos (by rw [bne_iff_ne]; exact he), jj, if_neg (show ¬ (e = 0 ∧ m.1 = 0) from fun k => he k.1), if_neg (show ¬ (e = 0 ∧ m.1 = 1) from fun k => he k.1)]
  replace he := Decidable.not_not.1 he
  rw [if_neg (by rw [bne_iff_ne]; exact fun k => k he)]
  have hq : isB c.1.length c.2.1 c.2.2.1 c.2.2.2.2.2.1 c.2.2.2.2.2.2.2.1 c.2.2.2.2.2.2.2.2.1.length = true := hc
  have hl := isB_live hq
  by_cases k0 : m.1 = (0 : Int)
  · rw [if_neg (by rw [bne_iff_ne]; exact fun k => k k0), if_pos (show e = 0 ∧ m.1 = 0 from ⟨he, k0⟩)]
    unfold f_ref21_Heard.j2 helloP
    rw [if_neg Bool.false_ne_true, if_pos (by omega), if_pos h1, if_pos (beq_iff_eq.2 k0)]
    by_cases hep : m.2.1 ≤ (att T23b6 c.2.2.2.2.2.2.2.2.1 sw).1
    · rw [if_pos (decide_eq_true hep), if_neg (show ¬ m.2.1 > (att T23b6 c.2.2.2.2.2.2.2.2.1 sw).1 from Int.not_lt.2 hep)]
      rfl
    · have q1 : (lvC c sw).length ≤ 2 := lvs_len _ _ _ _ _ _ _
      have q2 : ∀ v ∈ lvC c sw, v.2.length ≤ 60 := lvs_each (fun x hx => (h.r x hx).2) hl.1 hl.2 (fun ht => isB_next hq ht) _ _ _
      have q3 := size_two q1 q2
      rw [if_neg (by rw [decide_eq_false hep]; exact Bool.false_ne_true), if_pos (show m.2.1 > (att T23b6 c.2.2.2.2.2.2.2.2.1 sw).1 from Int.not_le.1 hep), ref_live c h, Option.bind_some, if_pos hc]
      unfold f_ref15_New.f
      rw [Option.bind_some]
      dsimp only
      rw [ref_sync _ _ (by omega) q2, Option.bind_some]
      dsimp only
      rw [ref_push _ _ (by rw [sync_len]; omega) (by simp) (by simp) (by simp), Option.bind_some, peer_eq 1000 c sw _ (by omega) (by omega) h1, Option.bind_some]
  · rw [if_pos (by rw [bne_iff_ne]; exact k0), if_neg (show ¬ (e = 0 ∧ m.1 = 0) from fun k => k0 k.2)]
    by_cases k1 : m.1 = (1 : Int)
    · rw [show (m.1 != (1 : Int)) = false by rw [k1]; rfl, if_pos (show e = 0 ∧ m.1 = 1 from ⟨he, k1⟩)]
      unfold f_ref21_Heard.j2 f_ref21_Heard.j3 ackP
      rw [if_neg Bool.false_ne_true, if_pos (by omega), if_pos h1, if_neg (by rw [beq_iff_eq]; exact k0)]
      have hyo : (att T23b6 c.2.2.2.2.2.2.2.2.1 sw).2.2.2.2.length ≤ 100 := h.o _ (att_mem (e := T23b6) _ (by omega) h1)
      by_cases e1 : ¬ m.2.1 = (att T23b6 c.2.2.2.2.2.2.2.2.1 sw).1
      · rw [if_pos (by rw [bne_iff_ne]; exact e1), if_pos rfl, if_neg fun k => e1 k.1]
        rfl
      replace e1 := Decidable.not_not.1 e1
      rw [if_neg (by rw [bne_iff_ne]; exact fun k => k e1)]
      by_cases e2 : m.2.2.1 < IntKind.i64.wrap (IntKind.i64.wrap ((att T23b6 c.2.2.2.2.2.2.2.2.1 sw).2.2.2.1 - 1) - ((att T23b6 c.2.2.2.2.2.2.2.2.1 sw).2.2.2.2.length : Int))
      · rw [if_pos (decide_eq_true e2), if_pos rfl, if_neg fun k => absurd e2 (Int.not_lt.2 k.2.1)]
        rfl
      rw [if_neg (by rw [decide_eq_false e2]; exact Bool.false_ne_true)]
      by_cases e3 : m.2.2.1 ≥ (att T23b6 c.2.2.2.2.2.2.2.2.1 sw).2.2.2.1
      · rw [decide_eq_true e3, if_pos rfl, if_neg fun k => absurd k.2.2 (Int.not_lt.2 e3)]
        rfl
      rw [decide_eq_false e3, if_neg Bool.false_ne_true, if_pos ⟨e1, Int.not_lt.1 e2, Int.not_le.1 e3⟩, ref_done _ _ _ (by omega), Option.bind_some, peer_eq 1000 c sw _ (by omega) (by omega) h1, Option.bind_some]
    · rw [show (m.1 != (1 : Int)) = true from bne_iff_ne.2 k1, jj, if_neg (show ¬ (e = 0 ∧ m.1 = 1) from fun k => k1 k.2)]
theorem rfold_step (k m : Nat) (p : Int) (h : 65535 < p) (h2 : p < 1099511627776) : f_ref02_Sum.l3 k (m + 1) p = f_ref02_Sum.l3 k m (p / 65536 + p % 65536) := by
  simp only [f_ref02_Sum.l3, f_ref02_Sum.b3]
  rw [if_pos (decide_eq_true h), Int.tdiv_eq_ediv_of_nonneg (by omega), Int.tmod_eq_emod_of_nonneg (by omega), IntWalk.i64_in (p / 65536) (by omega), IntWalk.i64_in _ (by omega)]
theorem rfold_end (k m : Nat) (p : Int) (h : 0 ≤ p) (h2 : p ≤ 65535) : f_ref02_Sum.l3 k (m + 1) p = some (65535 - fl p, ()) := by
  simp only [f_ref02_Sum.l3, f_ref02_Sum.b3]
  rw [if_neg (by rw [decide_eq_false (by omega)]; exact Bool.false_ne_true), fl_small p h h2, IntWalk.i64_in _ (by omega)]
theorem rfold_two (k m : Nat) (p : Int) (h : 0 ≤ p) (h2 : p < 131072) : f_ref02_Sum.l3 k (m + 3) p = some (65535 - fl p, ()) := by
  by_cases h3 : 65535 < p
  · rw [rfold_step k (m + 2) p h3 (by omega), ← fl_step p h3]
    by_cases h4 : 65535 < p / 65536 + p % 65536
    · rw [rfold_step k (m + 1) _ h4 (by omega), ← fl_step _ h4]
      exact rfold_end k m _ (by omega) (by omega)
    · exact rfold_end k (m + 1) _ (by omega) (by omega)
  · exact rfold_end k (m + 2) p h (by omega)
theorem rfold_eq (k m : Nat) (p : Int) (h : 0 ≤ p) (h2 : p < 1099511627776) : f_ref02_Sum.l3 k (m + 5) p = some (65535 - fl p, ()) := by
  by_cases h3 : 65535 < p
  · rw [rfold_step k (m + 4) p h3 h2, ← fl_step p h3]
    by_cases h4 : 65535 < p / 65536 + p % 65536
    · rw [rfold_step k (m + 3) _ h4 (by omega), ← fl_step _ h4]
      exact rfold_two k m _ (by omega) (by omega)
    · exact rfold_end k (m + 3) _ (by omega) (by omega)
  · exact rfold_end k (m + 4) p h (by omega)
theorem rsum_eq (xs : List Int) (h : Oct xs) (hs : xs.length < 900) : f_ref02_Sum.f 1000 xs = some (65535 - fl (tot xs xs.length), ()) := by
  unfold f_ref02_Sum.f
  refine loop (fun m i => f_ref02_Sum.l1 1000 m xs (tot xs i) (i : Int)) xs.length _ (fun m i hl => ?_) (fun m => ?_) 1000 (by omega)
  · have hx := h xs[i] (List.getElem_mem hl)
    have h1 := tot_range xs h i (by omega)
    have et : tot xs (i + 1) = tot xs i + xs[i] * (if i % 2 = 0 then 256 else 1) := by simp only [tot, List.getElem?_eq_getElem hl, Option.getD_some]
    simp only [f_ref02_Sum.l1, f_ref02_Sum.b1, f_ref02_Sum.j2, att_n (e := .int .u8) xs i hl]
    rw [if_pos (by (first | omega | (dsimp only [Ty.T]; omega) | (simp only [decide_eq_true_eq, decide_eq_false_iff_not, Bool.not_eq_true, Ty.T]; omega) | (simp only [decide_eq_true_eq, decide_eq_false_iff_not, Ty.T]; omega) | (simp only [beq_iff_eq, bne_iff_ne, ne_eq, decide_eq_true_eq, Ty.T]; omega))), IntWalk.i64_in xs[i] (by omega), wsucc i (by omega), et]
    by_cases h2 : i % 2 = 0
    · rw [if_pos (by rw [beq_iff_eq, Int.tmod_eq_emod_of_nonneg (by omega)]; omega), if_pos (by omega), if_pos (by omega), if_pos h2, IntWalk.i64_in (256 * xs[i]) (by omega), IntWalk.i64_in _ (by omega), Int.mul_comm 256]
    · rw [if_neg (by rw [beq_iff_eq, Int.tmod_eq_emod_of_nonneg (by omega)]; omega), if_pos (by omega), if_pos (by omega), if_neg h2, IntWalk.i64_in _ (by omega), Int.mul_one]
  · have h1 := tot_range xs h xs.length (Nat.le_refl _)
    simp only [f_ref02_Sum.l1, f_ref02_Sum.b1]
    rw [if_neg (by (first | omega | (dsimp only [Ty.T]; omega) | (simp only [decide_eq_true_eq, decide_eq_false_iff_not, Bool.not_eq_true, Ty.T]; omega) | (simp only [decide_eq_true_eq, decide_eq_false_iff_not, Ty.T]; omega) | (simp only [beq_iff_eq, bne_iff_ne, ne_eq, decide_eq_true_eq, Ty.T]; omega)))]
    exact rfold_eq 1000 995 _ h1.1 (by omega)
theorem keep_eq (X n : Nat) (hn : n ≤ 32) : X &&& ((2 ^ n - 1) * 2 ^ (32 - n)) = X % 2 ^ 32 / 2 ^ (32 - n) * 2 ^ (32 - n) := by
  apply Nat.eq_of_testBit_eq
  intro j
  rw [Nat.testBit_and, ← Nat.shiftLeft_eq, ← Nat.shiftLeft_eq, Nat.testBit_shiftLeft, Nat.testBit_shiftLeft, Nat.testBit_two_pow_sub_one, Nat.testBit_div_two_pow, Nat.testBit_mod_two_pow]
  by_cases h1 : 32 - n ≤ j
  · have e : j - (32 - n) + (32 - n) = j := by omega
    rw [e]
    by_cases h2 : j < 32
    · have : j - (32 - n) < n := by omega
      simp [h1, h2, this]
    · have : ¬ j - (32 - n) < n := by omega
      simp [h2, this]
  · simp [h1]
theorem mask_vals : ∀ b : Nat, b < 33 → IntKind.i64.wrap (IntKind.u32.wrap (IntKind.u64.wrap (4294967295 * (2 ^ (min (IntKind.i64.wrap (32 - (b : Int))).toNat IntKind.u64.bits))))) = (((2 ^ b - 1) * 2 ^ (32 - b) : Nat) : Int) := by decide +kernel
theorem mask_small (b : Nat) (hb : b ≤ 32) : (2 ^ b - 1) * 2 ^ (32 - b) < 2 ^ 32 := by
  have h1 : 2 ^ b * 2 ^ (32 - b) = 2 ^ 32 := by rw [← Nat.pow_add]; congr 1; omega
  have h2 : 0 < 2 ^ (32 - b) := Nat.two_pow_pos _
  rw [Nat.sub_mul, h1]
  omega
theorem and_mask (a : Int) (b : Nat) (hb : b ≤ 32) : (((BitVec.ofInt 64 a &&& BitVec.ofInt 64 (((2 ^ b - 1) * 2 ^ (32 - b) : Nat) : Int)).toNat : Nat) : Int) = (((a % 4294967296).toNat / 2 ^ (32 - b) * 2 ^ (32 - b) : Nat) : Int) := by
  have hs := mask_small b hb
  rw [BitVec.toNat_and, BitVec.toNat_ofInt, BitVec.toNat_ofInt]
  have h1 : ((((2 ^ b - 1) * 2 ^ (32 - b) : Nat) : Int) % ((2 ^ 64 : Nat) : Int)).toNat = (2 ^ b - 1) * 2 ^ (32 - b) := by
    generalize (2 ^ b - 1) * 2 ^ (32 - b) = m at hs ⊢
    omega
  rw [h1, keep_eq _ b hb]
  have h2 : (a % ((2 ^ 64 : Nat) : Int)).toNat % 2 ^ 32 = (a % 4294967296).toNat := by omega
  rw [h2]
theorem and_low (a : Int) : (((BitVec.ofInt 64 a &&& BitVec.ofInt 64 4294967295).toNat : Nat) : Int) = a % 4294967296 := by
  have h := and_mask a 32 (by omega)
  have e : (((2 ^ 32 - 1) * 2 ^ (32 - 32) : Nat) : Int) = 4294967295 := by decide
  rw [e] at h
  rw [h]
  simp
  omega
theorem and_not_mask (a b : Nat) (ha : a < 2 ^ 32) (hb : b ≤ 32) : (BitVec.ofInt 64 (a : Int) &&& ~~~ BitVec.ofInt 64 (((2 ^ b - 1) * 2 ^ (32 - b) : Nat) : Int)).toNat = a % 2 ^ (32 - b) := by
  apply Nat.eq_of_testBit_eq
  intro j
  rw [BitVec.ofInt_natCast, BitVec.ofInt_natCast]
  rw [← BitVec.getLsbD, BitVec.getLsbD_and, BitVec.getLsbD_not, BitVec.getLsbD_ofNat, BitVec.getLsbD_ofNat, ← Nat.shiftLeft_eq, Nat.testBit_shiftLeft, Nat.testBit_two_pow_sub_one, Nat.testBit_mod_two_pow]
  by_cases h0 : j < 32
  · by_cases h1 : 32 - b ≤ j
    · have h2 : j - (32 - b) < b := by omega
      have h3 : ¬ j < 32 - b := by omega
      simp [h1, h2, h3]
    · have h3 : j < 32 - b := by omega
      have h4 : j < 64 := by omega
      simp [h1, h3, h4]
  · have h5 : a.testBit j = false := Nat.testBit_lt_two_pow (Nat.lt_of_lt_of_le ha (Nat.pow_le_pow_right (by omega) (by omega)))
    simp [h5]
theorem low_zero (a b : Nat) (hb : b ≤ 32) : a % 2 ^ (32 - b) = 0 ↔ ∀ i, b ≤ i → i < 32 → a / 2 ^ (31 - i) % 2 ≠ 1 := by
  constructor
  · intro h i h1 h2 h3
    have ht : a.testBit (31 - i) = true := by rw [Nat.testBit_eq_decide_div_mod_eq]; simpa using h3
    have := Nat.testBit_mod_two_pow a (32 - b) (31 - i)
    rw [h, ht, decide_eq_true (by omega)] at this
    simp at this
  · intro h
    apply Nat.eq_of_testBit_eq
    intro j
    rw [Nat.testBit_mod_two_pow, Nat.zero_testBit]
    by_cases h1 : j < 32 - b
    · have := h (31 - j) (by omega) (by omega)
      rw [show 31 - (31 - j) = j by omega] at this
      rw [Nat.testBit_eq_decide_div_mod_eq, decide_eq_false this, Bool.and_false]
    · simp [h1]
def low (a : Int) : Nat := (a % 4294967296).toNat
theorem low_lt (a : Int) : low a < 4294967296 := by unfold low; omega
theorem half_eq (x : Nat) (h : x < 4294967296) : IntKind.i64.wrap (Int.tdiv (x : Int) 2) = ((x / 2 : Nat) : Int) := by
  rw [IntWalk.i64_quo _ _ ⟨by omega, by omega, by omega⟩]; rfl
theorem bit_eq (k : Nat) (a : Int) (i : Nat) (hi : i < 32) (hk : 100 ≤ k) : f_ref01_Bit.f k a (i : Int) = some (((low a / 2 ^ (31 - i) % 2 : Nat) : Int), ()) := by
  have hlt := low_lt a
  have hA : IntKind.i64.wrap ((((BitVec.ofInt IntKind.i64.bits a &&& BitVec.ofInt IntKind.i64.bits 4294967295).toNat : Nat) : Int)) = (low a : Int) := by
    rw [show ((BitVec.ofInt IntKind.i64.bits a &&& BitVec.ofInt IntKind.i64.bits 4294967295).toNat : Int) = a % 4294967296 from and_low a, IntWalk.i64_in _ (by omega)]
    unfold low
    omega
  unfold f_ref01_Bit.f f_ref01_Bit.j1
  rw [if_neg (by (first | omega | (dsimp only [Ty.T]; omega) | (simp only [decide_eq_true_eq, decide_eq_false_iff_not, Bool.not_eq_true, Ty.T]; omega) | (simp only [decide_eq_true_eq, decide_eq_false_iff_not, Ty.T]; omega) | (simp only [beq_iff_eq, bne_iff_ne, ne_eq, decide_eq_true_eq, Ty.T]; omega))), decide_eq_false (by omega), if_neg (by simp), hA]
  have hdl : ∀ q, low a / 2 ^ q < 4294967296 := fun q => Nat.lt_of_le_of_lt (Nat.div_le_self _ _) hlt
  refine (congrArg (fun z : Int => f_ref01_Bit.l2 k k (i : Int) z 31) (show (low a : Int) = ((low a / 2 ^ 0 : Nat) : Int) by simp)).trans ?_
  refine loop (fun m q => f_ref01_Bit.l2 k m (i : Int) ((low a / 2 ^ q : Nat) : Int) (31 - (q : Int))) (31 - i) _ (fun m q hq => ?_) (fun m => ?_) k (by omega)
  · simp only [f_ref01_Bit.l2, f_ref01_Bit.b2]
    have hw : IntKind.i64.wrap (31 - (q : Int) - 1) = 31 - ((q + 1 : Nat) : Int) := by rw [IntWalk.i64_in _ (by omega)]; omega
    rw [if_pos (by (first | omega | (dsimp only [Ty.T]; omega) | (simp only [decide_eq_true_eq, decide_eq_false_iff_not, Bool.not_eq_true, Ty.T]; omega) | (simp only [decide_eq_true_eq, decide_eq_false_iff_not, Ty.T]; omega) | (simp only [beq_iff_eq, bne_iff_ne, ne_eq, decide_eq_true_eq, Ty.T]; omega))), half_eq _ (hdl q), hw, Nat.div_div_eq_div_mul, ← Nat.pow_succ]
  · simp only [f_ref01_Bit.l2, f_ref01_Bit.b2]
    rw [if_neg (by (first | omega | (dsimp only [Ty.T]; omega) | (simp only [decide_eq_true_eq, decide_eq_false_iff_not, Bool.not_eq_true, Ty.T]; omega) | (simp only [decide_eq_true_eq, decide_eq_false_iff_not, Ty.T]; omega) | (simp only [beq_iff_eq, bne_iff_ne, ne_eq, decide_eq_true_eq, Ty.T]; omega)))]
    rfl
theorem mask_nat (n : Int) (b : Nat) (hb : b ≤ 32) (h : bnd n = (b : Int)) : mask n = (((2 ^ b - 1) * 2 ^ (32 - b) : Nat) : Int) := by
  unfold mask
  rw [h]
  exact mask_vals b (by omega)
theorem rpmay_eq (k : Nat) (p : T713d.T) (hk : 100 ≤ k) : f_ref01_May.f k p = some (pmay p, ()) := by
  unfold f_ref01_May.f f_ref01_May.j1
  by_cases h1 : p.2 < (0 : Int)
  · rw [if_pos (decide_eq_true h1), if_pos rfl]
    unfold pmay
    rw [decide_eq_false (Int.not_le.2 h1)]; rfl
  rw [if_neg (by rw [decide_eq_false h1]; exact Bool.false_ne_true)]
  by_cases h2 : p.2 > (32 : Int)
  · rw [if_pos (decide_eq_true h2), if_pos rfl]
    unfold pmay
    rw [decide_eq_false (p := p.2 ≤ 32) (Int.not_le.2 h2), Bool.false_and, Bool.and_false]
  rw [if_neg (by rw [decide_eq_false h2]; exact Bool.false_ne_true)]
  by_cases h3 : p.1 < (0 : Int)
  · rw [if_pos (decide_eq_true h3), if_pos rfl]
    unfold pmay
    rw [decide_eq_false (p := p.1 ≥ 0) (Int.not_le.2 h3), Bool.false_and, Bool.and_false, Bool.and_false]
  rw [if_neg (by rw [decide_eq_false h3]; exact Bool.false_ne_true)]
  by_cases h4 : p.1 > (4294967295 : Int)
  · rw [decide_eq_true h4, if_pos rfl]
    unfold pmay
    rw [decide_eq_false (p := p.1 ≤ 4294967295) (Int.not_le.2 h4), Bool.false_and, Bool.and_false, Bool.and_false, Bool.and_false]
  rw [decide_eq_false h4, if_neg Bool.false_ne_true]
  obtain ⟨pa, pn⟩ := p
  dsimp only at h1 h2 h3 h4 ⊢
  have g1 : (0 : Int) ≤ pn := Int.not_lt.1 h1
  have g2 : pn ≤ (32 : Int) := Int.not_lt.1 h2
  have g3 : (0 : Int) ≤ pa := Int.not_lt.1 h3
  have g4 : pa ≤ (4294967295 : Int) := Int.not_lt.1 h4
  obtain ⟨a, rfl⟩ : ∃ a : Nat, pa = (a : Int) := ⟨Int.toNat pa, (Int.toNat_of_nonneg g3).symm⟩
  obtain ⟨b, rfl⟩ : ∃ b : Nat, pn = (b : Int) := ⟨Int.toNat pn, (Int.toNat_of_nonneg g1).symm⟩
  have g2' : b ≤ 32 := by have : ((b : Nat) : Int) ≤ 32 := g2; omega
  have g4' : a < 2 ^ 32 := by have : ((a : Nat) : Int) ≤ 4294967295 := g4; omega
  have hb : bnd (b : Int) = (b : Int) := by unfold bnd; rw [if_neg (by omega), if_neg (by omega)]
  have hlow : low (a : Int) = a := by unfold low; omega
  have hand : IntKind.i64.wrap (((BitVec.ofInt IntKind.i64.bits (a : Int) &&& ~~~ BitVec.ofInt IntKind.i64.bits (mask (b : Int))).toNat : Nat) : Int) = ((a % 2 ^ (32 - b) : Nat) : Int) := by
    rw [mask_nat _ b g2' hb, show (BitVec.ofInt IntKind.i64.bits (a : Int) &&& ~~~ BitVec.ofInt IntKind.i64.bits (((2 ^ b - 1) * 2 ^ (32 - b) : Nat) : Int)).toNat = a % 2 ^ (32 - b) from and_not_mask a b g4' g2']
    have : a % 2 ^ (32 - b) ≤ a := Nat.mod_le _ _
    rw [IntWalk.i64_in _ (by omega)]
  have hp : pmay ((a : Int), (b : Int)) = decide (a % 2 ^ (32 - b) = 0) := by
    unfold pmay
    dsimp only
    rw [decide_eq_true (p := (b : Int) ≥ 0) (by omega), decide_eq_true (p := (b : Int) ≤ 32) (by omega), decide_eq_true (p := (a : Int) ≥ 0) (by omega), decide_eq_true (p := (a : Int) ≤ 4294967295) (by omega), hand]
    simp only [Bool.true_and]
    by_cases hz : a % 2 ^ (32 - b) = 0
    · rw [hz]; rfl
    · rw [decide_eq_false hz]
      exact beq_eq_false_iff_ne.2 (by omega)
  rw [hp]
  have hz := low_zero a b g2'
  rcases loop_or (fun m q => f_ref01_May.l2 k m ((b + q : Nat) : Int) ((a : Int), (b : Int))) (32 - b) (fun q => a / 2 ^ (31 - (b + q)) % 2 ≠ 1) (some (true, ())) (some (false, ())) (fun m q hq => by
      simp only [f_ref01_May.l2, f_ref01_May.b2]
      rw [if_pos (by (first | omega | (dsimp only [Ty.T]; omega) | (simp only [decide_eq_true_eq, decide_eq_false_iff_not, Bool.not_eq_true, Ty.T]; omega) | (simp only [decide_eq_true_eq, decide_eq_false_iff_not, Ty.T]; omega) | (simp only [beq_iff_eq, bne_iff_ne, ne_eq, decide_eq_true_eq, Ty.T]; omega))), bit_eq k _ (b + q) (by omega) hk, Option.bind_some, wsucc (b + q) (by omega), hlow]
      by_cases h5 : a / 2 ^ (31 - (b + q)) % 2 = 1
      · exact .inr (if_pos (by rw [h5]; rfl))
      · exact .inl ⟨h5, if_neg (by simp only [beq_iff_eq, Ty.T]; omega)⟩) (fun _ m => by
      simp only [f_ref01_May.l2, f_ref01_May.b2]
      rw [if_neg (by (first | omega | (dsimp only [Ty.T]; omega) | (simp only [decide_eq_true_eq, decide_eq_false_iff_not, Bool.not_eq_true, Ty.T]; omega) | (simp only [decide_eq_true_eq, decide_eq_false_iff_not, Ty.T]; omega) | (simp only [beq_iff_eq, bne_iff_ne, ne_eq, decide_eq_true_eq, Ty.T]; omega)))]) k (by omega) with ⟨h6, h7⟩ | h7
  · have : a % 2 ^ (32 - b) = 0 := hz.2 fun i hi1 hi2 => by
      have := h6 (i - b) (by omega)
      rwa [show b + (i - b) = i by omega] at this
    rw [decide_eq_true this]
    exact h7
  · by_cases h8 : a % 2 ^ (32 - b) = 0
    · have h9 := hz.1 h8
      have : f_ref01_May.l2 k k ((b + 0 : Nat) : Int) ((a : Int), (b : Int)) = some (true, ()) := by
        refine loop (fun m q => f_ref01_May.l2 k m ((b + q : Nat) : Int) ((a : Int), (b : Int))) (32 - b) _ (fun m q hq => ?_) (fun m => ?_) k (by omega)
        · have h5 := h9 (b + q) (by omega) (by omega)
          simp only [f_ref01_May.l2, f_ref01_May.b2]
          rw [if_pos (by (first | omega | (dsimp only [Ty.T]; omega) | (simp only [decide_eq_true_eq, decide_eq_false_iff_not, Bool.not_eq_true, Ty.T]; omega) | (simp only [decide_eq_true_eq, decide_eq_false_iff_not, Ty.T]; omega) | (simp only [beq_iff_eq, bne_iff_ne, ne_eq, decide_eq_true_eq, Ty.T]; omega))), bit_eq k _ (b + q) (by omega) hk, Option.bind_some, wsucc (b + q) (by omega), hlow]
          exact if_neg (by simp only [beq_iff_eq, Ty.T]; omega)
        · simp only [f_ref01_May.l2, f_ref01_May.b2]
          rw [if_neg (by (first | omega | (dsimp only [Ty.T]; omega) | (simp only [decide_eq_true_eq, decide_eq_false_iff_not, Bool.not_eq_true, Ty.T]; omega) | (simp only [decide_eq_true_eq, decide_eq_false_iff_not, Ty.T]; omega) | (simp only [beq_iff_eq, bne_iff_ne, ne_eq, decide_eq_true_eq, Ty.T]; omega)))]
      rw [decide_eq_true h8]
      exact this
    · rw [decide_eq_false h8]
      exact h7
theorem rport_eq (r : Rl) : port r = (if (r.2.2.2.1 == (0 : Int)) = true then (r.2.2.2.2 == (0 : Int)) else if (r.2.2.2.1 == (1 : Int)) = true then (if decide (r.2.2.2.2 ≥ (0 : Int)) = true then decide (r.2.2.2.2 ≤ (7 : Int)) else false) else false) := by
  unfold port
  by_cases h1 : r.2.2.2.1 = (0 : Int)
  · rw [h1]
    by_cases h2 : r.2.2.2.2 = (0 : Int)
    · rw [h2]; rfl
    · rw [beq_eq_false_iff_ne.2 h2]; simp
  · rw [beq_eq_false_iff_ne.2 h1]
    by_cases h3 : r.2.2.2.1 = (1 : Int)
    · rw [beq_iff_eq.2 h3]
      by_cases h4 : decide (r.2.2.2.2 ≥ (0 : Int)) = true
      · rw [h4]; simp
      · rw [Bool.eq_false_iff.2 h4]; simp
    · rw [beq_eq_false_iff_ne.2 h3]; simp
theorem rrmay_eq (k : Nat) (r : Rl) (hk : 100 ≤ k) : f_ref04_May.f k r = some (rmay r, ()) := by
  have hj1 : f_ref04_May.j1 k true r = some (false, ()) := by unfold f_ref04_May.j1; rw [if_pos rfl]
  have hj2 : f_ref04_May.j1 k false r = some (port r, ()) := by
    unfold f_ref04_May.j1
    rw [if_neg Bool.false_ne_true, rport_eq]
    split
    · rfl
    · split
      · split <;> rfl
      · rfl
  unfold f_ref04_May.f rmay
  rw [rpmay_eq k _ hk, Option.bind_some]
  dsimp only
  cases hp : pmay r.1
  · rw [if_pos (by rfl), hj1, Bool.false_and, Bool.and_false]
  · rw [if_neg (by simp)]
    by_cases h1 : r.2.1 < (-1 : Int)
    · rw [if_pos (decide_eq_true h1), hj1, decide_eq_false (p := r.2.1 ≥ -1) (Int.not_le.2 h1)]; simp
    · rw [if_neg (by rw [decide_eq_false h1]; exact Bool.false_ne_true), decide_eq_true (p := r.2.1 ≥ -1) (Int.not_lt.1 h1)]
      by_cases h2 : r.2.1 > (7 : Int)
      · rw [if_pos (decide_eq_true h2), hj1, decide_eq_false (p := r.2.1 ≤ 7) (Int.not_le.2 h2)]; simp
      · rw [if_neg (by rw [decide_eq_false h2]; exact Bool.false_ne_true), decide_eq_true (p := r.2.1 ≤ 7) (Int.not_lt.1 h2)]
        by_cases h3 : r.2.2.1 < (0 : Int)
        · rw [if_pos (decide_eq_true h3), hj1, decide_eq_false (p := r.2.2.1 ≥ 0) (Int.not_le.2 h3)]; simp
        · rw [if_neg (by rw [decide_eq_false h3]; exact Bool.false_ne_true), decide_eq_true (p := r.2.2.1 ≥ 0) (Int.not_lt.1 h3)]
          by_cases h4 : r.2.2.1 > (255 : Int)
          · rw [decide_eq_true h4, hj1, decide_eq_false (p := r.2.2.1 ≤ 255) (Int.not_le.2 h4)]; simp
          · rw [decide_eq_false h4, hj2, decide_eq_true (p := r.2.2.1 ≤ 255) (Int.not_lt.1 h4)]; simp
private theorem bne_self' (x : Int) : (x != x) = false := by simp
theorem oct_drop {xs : List Int} (h : Oct xs) (n : Nat) : Oct (xs.drop n) := fun x hx => h x (List.mem_of_mem_drop hx)
theorem oct_take {xs : List Int} (h : Oct xs) (n : Nat) : Oct (xs.take n) := fun x hx => h x (List.mem_of_mem_take hx)
def W4 (w : Int) : Prop := w = 1 ∨ w = 2 ∨ w = 3 ∨ w = 4
theorem W4.pos {w : Int} (h : W4 w) : 1 ≤ w ∧ w ≤ 4 := by rcases h with h | h | h | h <;> omega
def getP (xs : List Int) (w : Int) : Int × Int × Unit := if (xs.length : Int) < w then (0, (3, ())) else (bev (xs.take w.toNat), (0, ()))
theorem getP_ok {xs : List Int} {w n : Int} (h : ¬ (xs.length : Int) < w) (e : bev (xs.take w.toNat) = n) : getP xs w = (n, (0, ())) := by unfold getP; rw [if_neg h, e]
theorem cget_eq (xs : List Int) (h : Oct xs) (w : Int) (hw : W4 w) : f_octets_Get.f 1000 xs w = some (getP xs w) := by
  rcases hw with rfl | rfl | rfl | rfl
  · match xs, h with
    | [], _ => rfl
    | a :: r, h => rw [get1 a r (h a (by simp)), getP_ok (xs := a :: r) (w := 1) (n := a) (by simp only [List.length_cons]; omega) (show (0 : Int) * 256 + a = a by omega)]
  · match xs, h with
    | [], _ => rfl
    | [a], _ => rfl
    | a :: b :: r, h => rw [get2 a b r (h a (by simp)) (h b (by simp)), getP_ok (xs := a :: b :: r) (w := 2) (n := a * 256 + b) (by simp only [List.length_cons]; omega) (show ((0 : Int) * 256 + a) * 256 + b = a * 256 + b by omega)]
  · match xs, h with
    | [], _ => rfl
    | [a], _ => rfl
    | [a, b], _ => rfl
    | a :: b :: c :: r, h => rw [get3 a b c r (h a (by simp)) (h b (by simp)) (h c (by simp)), getP_ok (xs := a :: b :: c :: r) (w := 3) (n := (a * 256 + b) * 256 + c) (by simp only [List.length_cons]; omega) (show (((0 : Int) * 256 + a) * 256 + b) * 256 + c = (a * 256 + b) * 256 + c by omega)]
  · match xs, h with
    | [], _ => rfl
    | [a], _ => rfl
    | [a, b], _ => rfl
    | [a, b, c], _ => rfl
    | a :: b :: c :: d :: r, h => rw [get4 a b c d r (h a (by simp)) (h b (by simp)) (h c (by simp)) (h d (by simp)), getP_ok (xs := a :: b :: c :: d :: r) (w := 4) (n := ((a * 256 + b) * 256 + c) * 256 + d) (by simp only [List.length_cons]; omega) (show ((((0 : Int) * 256 + a) * 256 + b) * 256 + c) * 256 + d = ((a * 256 + b) * 256 + c) * 256 + d by omega)]
theorem rg_step (m : Nat) (xs : List Int) (w n c : Int) (i : Nat) (hi : (i : Int) < w) (hw : w ≤ 4) (hl : i < xs.length) (hc : xs[i] = c) (h0 : 0 ≤ n) (h1 : n < 16777216) (h2 : 0 ≤ c ∧ c < 256) : f_ref02_Get.l2 1000 (m + 1) xs w n (i : Int) = f_ref02_Get.l2 1000 m xs w (n * 256 + c) ((i + 1 : Nat) : Int) := by
  simp only [f_ref02_Get.l2, f_ref02_Get.b2]
  rw [if_pos (decide_eq_true hi), if_pos (by omega), if_pos (by omega), att_n (e := .int .u8) xs i hl, hc, IntWalk.i64_in c (by omega), IntWalk.i64_in (n * 256) (by omega), IntWalk.i64_in _ (by omega), wsucc i (by omega)]
theorem rg_end (m : Nat) (xs : List Int) (w n : Int) (i : Nat) (h : (i : Int) = w) : f_ref02_Get.l2 1000 (m + 1) xs w n (i : Int) = some (n, (0, ())) := by
  simp only [f_ref02_Get.l2, f_ref02_Get.b2]
  rw [if_neg (by rw [decide_eq_false (by omega)]; exact Bool.false_ne_true)]
theorem rget_eq (xs : List Int) (h : Oct xs) (w : Int) (hw : W4 w) : f_ref02_Get.f 1000 xs w = some (getP xs w) := by
  have e : f_ref02_Get.f 1000 xs w = if (decide ((xs.length : Int) < w)) = true then some ((0 : Int), ((3 : Int), ())) else f_ref02_Get.l2 1000 1000 xs w 0 0 := by rcases hw with rfl | rfl | rfl | rfl <;> rfl
  rw [e]
  by_cases hs : (xs.length : Int) < w
  · rw [if_pos (decide_eq_true hs)]; unfold getP; rw [if_pos hs]
  rw [if_neg (by rw [decide_eq_false hs]; exact Bool.false_ne_true)]
  rcases hw with rfl | rfl | rfl | rfl
  · match xs, h, hs with
    | [], _, hs => exact absurd (by decide) hs
    | a :: r, h, hs =>
      have ha := h a (by simp)
      rw [getP_ok (n := 0 * 256 + a) hs rfl]
      exact (rg_step 999 (a :: r) 1 0 a 0 (by decide) (by decide) (by simp) rfl (by omega) (by omega) ha).trans (rg_end 998 _ 1 _ 1 rfl)
  · match xs, h, hs with
    | [], _, hs => exact absurd (by decide) hs
    | [a], _, hs => exact absurd (by simp) hs
    | a :: b :: r, h, hs =>
      have ha := h a (by simp)
      have hb := h b (by simp)
      rw [getP_ok (n := (0 * 256 + a) * 256 + b) hs rfl]
      exact (rg_step 999 (a :: b :: r) 2 0 a 0 (by decide) (by decide) (by simp) rfl (by omega) (by omega) ha).trans ((rg_step 998 _ 2 _ b 1 (by decide) (by decide) (by simp) rfl (by omega) (by omega) hb).trans (rg_end 997 _ 2 _ 2 rfl))
  · match xs, h, hs with
    | [], _, hs => exact absurd (by decide) hs
    | [a], _, hs => exact absurd (by simp) hs
    | [a, b], _, hs => exact absurd (by simp) hs
    | a :: b :: c :: r, h, hs =>
      have ha := h a (by simp)
      have hb := h b (by simp)
      have hc := h c (by simp)
      rw [getP_ok (n := ((0 * 256 + a) * 256 + b) * 256 + c) hs rfl]
      exact (rg_step 999 (a :: b :: c :: r) 3 0 a 0 (by decide) (by decide) (by simp) rfl (by omega) (by omega) ha).trans ((rg_step 998 _ 3 _ b 1 (by decide) (by decide) (by simp) rfl (by omega) (by omega) hb).trans ((rg_step 997 _ 3 _ c 2 (by decide) (by decide) (by simp) rfl (by omega) (by omega) hc).trans (rg_end 996 _ 3 _ 3 rfl)))
  · match xs, h, hs with
    | [], _, hs => exact absurd (by decide) hs
    | [a], _, hs => exact absurd (by simp) hs
    | [a, b], _, hs => exact absurd (by simp) hs
    | [a, b, c], _, hs => exact absurd (by simp) hs
    | a :: b :: c :: d :: r, h, hs =>
      have ha := h a (by simp)
      have hb := h b (by simp)
      have hc := h c (by simp)
      have hd := h d (by simp)
      rw [getP_ok (n := (((0 * 256 + a) * 256 + b) * 256 + c) * 256 + d) hs rfl]
      exact (rg_step 999 (a :: b :: c :: d :: r) 4 0 a 0 (by decide) (by decide) (by simp) rfl (by omega) (by omega) ha).trans ((rg_step 998 _ 4 _ b 1 (by decide) (by decide) (by simp) rfl (by omega) (by omega) hb).trans ((rg_step 997 _ 4 _ c 2 (by decide) (by decide) (by simp) rfl (by omega) (by omega) hc).trans ((rg_step 996 _ 4 _ d 3 (by decide) (by decide) (by simp) rfl (by omega) (by omega) hd).trans (rg_end 995 _ 4 _ 4 rfl))))
def gall : List Int → List Int → List Int → Int → (List Int × Int × Int × Unit)
  | [], _, acc, q => (acc, (q, (0, ())))
  | w :: ws, xs, acc, q => if (xs.length : Int) < w then ([], (0, (3, ()))) else gall ws (xs.drop w.toNat) (acc ++ [bev (xs.take w.toNat)]) (q + w)
theorem ga_eq (p1 ws : List Int) (hw : ∀ w ∈ ws, W4 w) (hp : p1.length ≤ 1000) (hl : ws.length ≤ 50) : ∀ (d i m : Nat) (xs acc : List Int) (q : Int), i + d = ws.length → d < m → Oct xs → acc.length ≤ i → 0 ≤ q → (p1.length : Int) = q + (xs.length : Int) → f_octets_GetAll.l1 1000 m p1 xs ws (ws.length : Int) (i : Int) acc = some (gall (ws.drop i) xs acc q)
  | 0, i, m + 1, xs, acc, q, h, _, ho, ha, h0, hq => by
    simp only [f_octets_GetAll.l1, f_octets_GetAll.b1]
    rw [if_neg (by (first | omega | (dsimp only [Ty.T]; omega) | (simp only [decide_eq_true_eq, decide_eq_false_iff_not, Bool.not_eq_true, Ty.T]; omega) | (simp only [decide_eq_true_eq, decide_eq_false_iff_not, Ty.T]; omega) | (simp only [beq_iff_eq, bne_iff_ne, ne_eq, decide_eq_true_eq, Ty.T]; omega))), List.drop_eq_nil_of_le (by omega), IntWalk.i64_in _ (by omega), show (p1.length : Int) - (xs.length : Int) = q by omega]
    rfl
  | d + 1, i, m + 1, xs, acc, q, h, hm, ho, ha, h0, hq => by
    have hi : i < ws.length := by omega
    have hwi := hw _ (List.getElem_mem hi)
    have hwr := hwi.pos
    simp only [f_octets_GetAll.l1, f_octets_GetAll.b1]
    rw [if_pos (by (first | omega | (dsimp only [Ty.T]; omega) | (simp only [decide_eq_true_eq, decide_eq_false_iff_not, Bool.not_eq_true, Ty.T]; omega) | (simp only [decide_eq_true_eq, decide_eq_false_iff_not, Ty.T]; omega) | (simp only [beq_iff_eq, bne_iff_ne, ne_eq, decide_eq_true_eq, Ty.T]; omega))), if_pos (by omega), if_pos (by omega), att_n (e := .int .i64) ws i hi, cget_eq xs ho _ hwi, Option.bind_some, List.drop_eq_getElem_cons hi]
    simp only [gall]
    unfold getP
    by_cases hs : (xs.length : Int) < ws[i]
    · rw [if_pos hs, if_pos hs, if_pos (by rfl)]
    · rw [if_neg hs, if_neg hs, if_neg (show ¬ ((0 : Int) != 0) = true by decide), if_pos (by omega), if_pos (by (first | omega | (dsimp only [Ty.T]; omega) | (simp only [decide_eq_true_eq, decide_eq_false_iff_not, Bool.not_eq_true, Ty.T]; omega) | (simp only [decide_eq_true_eq, decide_eq_false_iff_not, Ty.T]; omega) | (simp only [beq_iff_eq, bne_iff_ne, ne_eq, decide_eq_true_eq, Ty.T]; omega))), wsucc i (by omega), Int.toNat_natCast, List.take_length]
      exact ga_eq p1 ws hw hp hl d (i + 1) m (xs.drop ws[i].toNat) _ (q + ws[i]) (by omega) (by omega) (oct_drop ho _) (by rw [List.length_append]; simp only [List.length_cons, List.length_nil]; omega) (by omega) (by rw [List.length_drop]; omega)
theorem ra_eq (p1 ws : List Int) (hw : ∀ w ∈ ws, W4 w) (hp : p1.length ≤ 1000) (hl : ws.length ≤ 50) (ho : Oct p1) : ∀ (d i m q : Nat) (acc : List Int), i + d = ws.length → d < m → acc.length ≤ i → q ≤ p1.length → f_ref02_GetAll.l1 1000 m p1 ws (q : Int) (i : Int) acc = some (gall (ws.drop i) (p1.drop q) acc (q : Int))
  | 0, i, m + 1, q, acc, h, _, ha, hq => by
    simp only [f_ref02_GetAll.l1, f_ref02_GetAll.b1]
    rw [if_neg (by (first | omega | (dsimp only [Ty.T]; omega) | (simp only [decide_eq_true_eq, decide_eq_false_iff_not, Bool.not_eq_true, Ty.T]; omega) | (simp only [decide_eq_true_eq, decide_eq_false_iff_not, Ty.T]; omega) | (simp only [beq_iff_eq, bne_iff_ne, ne_eq, decide_eq_true_eq, Ty.T]; omega))), List.drop_eq_nil_of_le (by omega)]
    rfl
  | d + 1, i, m + 1, q, acc, h, hm, ha, hq => by
    have hi : i < ws.length := by omega
    have hwi := hw _ (List.getElem_mem hi)
    have hwr := hwi.pos
    simp only [f_ref02_GetAll.l1, f_ref02_GetAll.b1]
    rw [if_pos (by (first | omega | (dsimp only [Ty.T]; omega) | (simp only [decide_eq_true_eq, decide_eq_false_iff_not, Bool.not_eq_true, Ty.T]; omega) | (simp only [decide_eq_true_eq, decide_eq_false_iff_not, Ty.T]; omega) | (simp only [beq_iff_eq, bne_iff_ne, ne_eq, decide_eq_true_eq, Ty.T]; omega))), if_pos (by omega), if_pos (by omega), if_pos (by omega), att_n (e := .int .i64) ws i hi, Int.toNat_natCast, Int.toNat_natCast, List.take_length, rget_eq _ (oct_drop ho q) _ hwi, Option.bind_some, List.drop_eq_getElem_cons hi]
    simp only [gall]
    unfold getP
    by_cases hs : ((p1.drop q).length : Int) < ws[i]
    · rw [if_pos hs, if_pos hs, if_pos (by rfl)]
    · rw [if_neg hs, if_neg hs, if_neg (show ¬ ((0 : Int) != 0) = true by decide), if_pos (by omega), wsucc i (by omega), List.drop_drop]
      rw [List.length_drop] at hs
      rw [show IntKind.i64.wrap ((q : Int) + ws[i]) = ((q + ws[i].toNat : Nat) : Int) by rw [IntWalk.i64_in _ (by omega)]; omega, show (q : Int) + ws[i] = ((q + ws[i].toNat : Nat) : Int) by omega]
      exact ra_eq p1 ws hw hp hl ho d (i + 1) m (q + ws[i].toNat) _ (by omega) (by omega) (by rw [List.length_append]; simp only [List.length_cons, List.length_nil]; omega) (by omega)
theorem w4_m : ∀ w ∈ ([1, 3, 3, 2] : List Int), W4 w := fun w hw => by
  simp only [List.mem_cons, List.not_mem_nil, or_false] at hw
  unfold W4
  omega
theorem w4_r : ∀ w ∈ ([4, 1, 1, 1, 1, 1] : List Int), W4 w := fun w hw => by
  simp only [List.mem_cons, List.not_mem_nil, or_false] at hw
  unfold W4
  omega
theorem gall9 (xs : List Int) : gall [1, 3, 3, 2] xs [] 0 = if xs.length < 9 then ([], (0, (3, ()))) else ([bev (xs.take 1), bev ((xs.drop 1).take 3), bev ((xs.drop 4).take 3), bev ((xs.drop 7).take 2)], (9, (0, ()))) := by
  have e : gall [1, 3, 3, 2] xs [] 0 = if (xs.length : Int) < 1 then ([], (0, (3, ()))) else if ((xs.drop 1).length : Int) < 3 then ([], (0, (3, ()))) else if (((xs.drop 1).drop 3).length : Int) < 3 then ([], (0, (3, ()))) else if ((((xs.drop 1).drop 3).drop 3).length : Int) < 2 then ([], (0, (3, ()))) else ([bev (xs.take 1), bev ((xs.drop 1).take 3), bev (((xs.drop 1).drop 3).take 3), bev ((((xs.drop 1).drop 3).drop 3).take 2)], (9, (0, ()))) := rfl
  rw [e]
  simp only [List.drop_drop, List.length_drop]
  by_cases h : xs.length < 9
  · rw [if_pos h]
    repeat' split
    all_goals first | rfl | omega
  · rw [if_neg h, if_neg (by omega), if_neg (by omega), if_neg (by omega), if_neg (by omega)]
theorem cga_m (xs : List Int) (h : Oct xs) (hl : xs.length ≤ 1000) : f_octets_GetAll.f 1000 xs [1, 3, 3, 2] = some (gall [1, 3, 3, 2] xs [] 0) := ga_eq xs [1, 3, 3, 2] w4_m hl (by decide) 4 0 1000 xs [] 0 rfl (by decide) h (by decide) (by decide) (by omega)
theorem rga_m (xs : List Int) (h : Oct xs) (hl : xs.length ≤ 1000) : f_ref02_GetAll.f 1000 xs [1, 3, 3, 2] = some (gall [1, 3, 3, 2] xs [] 0) := ra_eq xs [1, 3, 3, 2] w4_m hl (by decide) h 4 0 1000 0 [] rfl (by decide) (by decide) (by omega)
theorem rga_r (xs : List Int) (h : Oct xs) (hl : xs.length ≤ 1000) : f_ref02_GetAll.f 1000 xs [4, 1, 1, 1, 1, 1] = some (gall [4, 1, 1, 1, 1, 1] xs [] 0) := ra_eq xs [4, 1, 1, 1, 1, 1] w4_r hl (by decide) h 6 0 1000 0 [] rfl (by decide) (by decide) (by omega)
theorem rule_same (xs : List Int) (h : Oct xs) (hl : xs.length = 9) : ∃ (r : Rl) (e : Int), f_rule_Get.f 1000 xs = some (r, (e, ())) ∧ f_ref04_Get.f 1000 xs = some (r, (e, ())) := by
  match xs, h, hl with
  | [c0, c1, c2, c3, c4, c5, c6, c7, c8], h, _ =>
    have h4 := h c4 (by simp)
    have h5 := h c5 (by simp)
    have h6 := h c6 (by simp)
    have h7 := h c7 (by simp)
    have h8 := h c8 (by simp)
    have e1 : f_rule_Get.f 1000 [c0, c1, c2, c3, c4, c5, c6, c7, c8] = stepG (f_octets_Get.f 1000 [c0, c1, c2, c3, c4, c5, c6, c7, c8] 4) (fun e => some (((0, 0), (0, (0, (0, 0)))), (2, ()))) fun n => (f_rule_May.f 1000 ((n, IntKind.i64.wrap c4), (IntKind.i64.wrap (IntKind.i64.wrap c5 - 1), (IntKind.i64.wrap c6, (IntKind.i64.wrap c7, IntKind.i64.wrap c8))))).bind fun y => f_rule_Get.j1 1000 (!y.1) ((0, 0), (0, (0, (0, 0)))) ((n, IntKind.i64.wrap c4), (IntKind.i64.wrap (IntKind.i64.wrap c5 - 1), (IntKind.i64.wrap c6, (IntKind.i64.wrap c7, IntKind.i64.wrap c8)))) := by kernel_rfl
    have g1 : f_octets_Get.f 1000 [c0, c1, c2, c3, c4, c5, c6, c7, c8] 4 = some (bev [c0, c1, c2, c3], (0, ())) := by rw [cget_eq _ h 4 (.inr (.inr (.inr rfl)))]; rfl
    rw [stepG_ok g1, IntWalk.i64_in c4 (by omega), IntWalk.i64_in c5 (by omega), IntWalk.i64_in (c5 - 1) (by omega), IntWalk.i64_in c6 (by omega), IntWalk.i64_in c7 (by omega), IntWalk.i64_in c8 (by omega), rmay_eq, Option.bind_some] at e1
    have g2 : f_ref02_GetAll.f 1000 [c0, c1, c2, c3, c4, c5, c6, c7, c8] [4, 1, 1, 1, 1, 1] = some ([bev [c0, c1, c2, c3], 0 * 256 + c4, 0 * 256 + c5, 0 * 256 + c6, 0 * 256 + c7, 0 * 256 + c8], (9, (0, ()))) := by rw [rga_r _ h (by simp)]; rfl
    have e2 : f_ref04_Get.f 1000 [c0, c1, c2, c3, c4, c5, c6, c7, c8] = (f_ref04_May.f 1000 ((bev [c0, c1, c2, c3], 0 * 256 + c4), (IntKind.i64.wrap (0 * 256 + c5 - 1), (0 * 256 + c6, (0 * 256 + c7, 0 * 256 + c8))))).bind fun y => if (!y.1) = true then some (((0, 0), (0, (0, (0, 0)))), (2, ())) else some (((bev [c0, c1, c2, c3], 0 * 256 + c4), (IntKind.i64.wrap (0 * 256 + c5 - 1), (0 * 256 + c6, (0 * 256 + c7, 0 * 256 + c8)))), (0, ())) := by
      unfold f_ref04_Get.f
      rw [g2, Option.bind_some]
      rfl
    rw [Int.zero_mul, Int.zero_add, Int.zero_add, Int.zero_add, Int.zero_add, Int.zero_add, IntWalk.i64_in (c5 - 1) (by omega), rrmay_eq 1000 _ (by decide), Option.bind_some] at e2
    rw [e1, e2]
    cases rmay ((bev [c0, c1, c2, c3], c4), (c5 - 1, (c6, (c7, c8)))) with
    | true => exact ⟨_, 0, rfl, rfl⟩
    | false => exact ⟨_, 2, rfl, rfl⟩
theorem itf (p x : Bool) : (if p = true then some (false, ()) else some (x, ())) = some (!p && x, ()) := by cases p <;> rfl
theorem ita (p x : Bool) : (if p = true then some (x, ()) else some (false, ())) = some (p && x, ()) := by cases p <;> rfl
theorem may_top (b : Bool) (x : Bool) (kd ep sq tg : Int) (r : Rl) (hx : f_ref05_May.j1 1000 false (kd, (ep, (sq, (tg, r)))) = some (x, ())) (k0 : 0 ≤ kd) (k1 : kd < 6) : f_ref05_May.f 1000 (kd, (ep, (sq, (tg, r)))) = some (!(decide (ep < 1)) && (!(decide (ep > 1048576)) && (!(decide (sq < 0)) && (!(decide (sq > 1048576)) && (!(decide (tg < 0)) && (!(decide (tg > 4095)) && x))))), ()) := by
  have hj : f_ref05_May.j1 1000 true (kd, (ep, (sq, (tg, r)))) = some (false, ()) := rfl
  have hb : ∀ b : Bool, f_ref05_May.j1 1000 b (kd, (ep, (sq, (tg, r)))) = some (!b && x, ()) := by
    intro b
    cases b
    · exact hx
    · exact hj
  unfold f_ref05_May.f
  dsimp only
  simp only [hb]
  rw [if_neg (by rw [decide_eq_false (Int.not_lt.2 k0)]; exact Bool.false_ne_true), if_neg (by rw [decide_eq_false (Int.not_le.2 k1)]; exact Bool.false_ne_true)]
  cases decide (ep < 1) <;> cases decide (ep > 1048576) <;> cases decide (sq < 0) <;> cases decide (sq > 1048576) <;> cases decide (tg < 0) <;> rfl
theorem rmmay_eq' (kd ep sq tg : Int) (r : Rl) : f_ref05_May.f 1000 (kd, (ep, (sq, (tg, r)))) = some (mmay (kd, (ep, (sq, (tg, r)))), ()) := by
  have hj : f_ref05_May.j1 1000 true (kd, (ep, (sq, (tg, r)))) = some (false, ()) := rfl
  by_cases k0 : kd < (0 : Int)
  · unfold f_ref05_May.f
    dsimp only
    rw [hj, if_pos (decide_eq_true k0)]
    unfold mmay
    rw [decide_eq_false (show ¬ (0 : Int) ≤ kd from Int.not_le.2 k0)]; rfl
  by_cases k1 : kd ≥ (6 : Int)
  · unfold f_ref05_May.f
    dsimp only
    rw [hj, if_neg (by rw [decide_eq_false k0]; exact Bool.false_ne_true), if_pos (decide_eq_true k1)]
    unfold mmay
    rw [decide_eq_false (show ¬ kd < (6 : Int) from Int.not_lt.2 k1), Bool.false_and, Bool.and_false]
  have k0' : (0 : Int) ≤ kd := Int.not_lt.1 k0
  have k1' : kd < (6 : Int) := Int.not_le.1 k1
  have fin : ∀ a b : Bool, (a = true ↔ b = true) → (some (a, ()) : Option (Bool × Unit)) = some (b, ()) := fun a b h => by rw [Bool.eq_iff_iff.2 h]
  rcases kinds6 kd k0' k1' with rfl | rfl | rfl | rfl | rfl | rfl
  · have e : f_ref05_May.j1 1000 false (0, (ep, (sq, (tg, r)))) = if (!zr r) = true then some (false, ()) else if (sq == (0 : Int)) = true then some ((tg == (0 : Int)), ()) else some (false, ()) := by kernel_rfl
    rw [ita, itf] at e
    rw [may_top false _ 0 ep sq tg r e (by decide) (by decide)]
    refine fin _ _ ?_
    unfold mmay inb
    rw [show kindOf 0 = (((0 : Int), (0 : Int)), (((0 : Int), (0 : Int)), false)) from rfl]
    dsimp only
    rw [if_neg Bool.false_ne_true]
    simp only [Bool.and_eq_true, Bool.not_eq_true', decide_eq_true_eq, decide_eq_false_iff_not, beq_iff_eq, Bool.not_not]
    cases zr r <;> simp <;> omega
  · have e : f_ref05_May.j1 1000 false (1, (ep, (sq, (tg, r)))) = if (!zr r) = true then some (false, ()) else some (true, ()) := by kernel_rfl
    rw [itf] at e
    rw [may_top false _ 1 ep sq tg r e (by decide) (by decide)]
    refine fin _ _ ?_
    unfold mmay inb
    rw [show kindOf 1 = (((0 : Int), (1048576 : Int)), (((0 : Int), (4095 : Int)), false)) from rfl]
    dsimp only
    rw [if_neg Bool.false_ne_true]
    simp only [Bool.and_eq_true, Bool.not_eq_true', decide_eq_true_eq, decide_eq_false_iff_not, beq_iff_eq, Bool.not_not]
    cases zr r <;> simp <;> omega
  · have e : f_ref05_May.j1 1000 false (2, (ep, (sq, (tg, r)))) = (f_ref04_May.f 1000 r).bind fun y => if y.1 = true then (if (decide (sq ≥ (1 : Int))) = true then some (decide (tg ≥ (1 : Int)), ()) else some (false, ())) else some (false, ()) := by kernel_rfl
    rw [rrmay_eq 1000 r (by decide), Option.bind_some] at e
    simp only [ita] at e
    rw [may_top false _ 2 ep sq tg r e (by decide) (by decide)]
    refine fin _ _ ?_
    unfold mmay inb
    rw [show kindOf 2 = (((1 : Int), (1048576 : Int)), (((1 : Int), (4095 : Int)), true)) from rfl]
    dsimp only
    rw [if_pos rfl]
    simp only [Bool.and_eq_true, Bool.not_eq_true', decide_eq_true_eq, decide_eq_false_iff_not, beq_iff_eq, Bool.not_not]
    cases rmay r <;> simp <;> omega
  · have e : f_ref05_May.j1 1000 false (3, (ep, (sq, (tg, r)))) = if (!zr r) = true then some (false, ()) else if (decide (sq ≥ (1 : Int))) = true then some (decide (tg ≥ (1 : Int)), ()) else some (false, ()) := by kernel_rfl
    rw [ita, itf] at e
    rw [may_top false _ 3 ep sq tg r e (by decide) (by decide)]
    refine fin _ _ ?_
    unfold mmay inb
    rw [show kindOf 3 = (((1 : Int), (1048576 : Int)), (((1 : Int), (4095 : Int)), false)) from rfl]
    dsimp only
    rw [if_neg Bool.false_ne_true]
    simp only [Bool.and_eq_true, Bool.not_eq_true', decide_eq_true_eq, decide_eq_false_iff_not, beq_iff_eq, Bool.not_not]
    cases zr r <;> simp <;> omega
  · have e : f_ref05_May.j1 1000 false (4, (ep, (sq, (tg, r)))) = if (!zr r) = true then some (false, ()) else if (decide (sq ≥ (1 : Int))) = true then some (decide (tg ≥ (1 : Int)), ()) else some (false, ()) := by kernel_rfl
    rw [ita, itf] at e
    rw [may_top false _ 4 ep sq tg r e (by decide) (by decide)]
    refine fin _ _ ?_
    unfold mmay inb
    rw [show kindOf 4 = (((1 : Int), (1048576 : Int)), (((1 : Int), (4095 : Int)), false)) from rfl]
    dsimp only
    rw [if_neg Bool.false_ne_true]
    simp only [Bool.and_eq_true, Bool.not_eq_true', decide_eq_true_eq, decide_eq_false_iff_not, beq_iff_eq, Bool.not_not]
    cases zr r <;> simp <;> omega
  · have e : f_ref05_May.j1 1000 false (5, (ep, (sq, (tg, r)))) = if (!zr r) = true then some (false, ()) else if (decide (sq ≥ (1 : Int))) = true then some ((tg == (0 : Int)), ()) else some (false, ()) := by kernel_rfl
    rw [ita, itf] at e
    rw [may_top false _ 5 ep sq tg r e (by decide) (by decide)]
    refine fin _ _ ?_
    unfold mmay inb
    rw [show kindOf 5 = (((1 : Int), (1048576 : Int)), (((0 : Int), (0 : Int)), false)) from rfl]
    dsimp only
    rw [if_neg Bool.false_ne_true]
    simp only [Bool.and_eq_true, Bool.not_eq_true', decide_eq_true_eq, decide_eq_false_iff_not, beq_iff_eq, Bool.not_not]
    cases zr r <;> simp <;> omega
theorem rmmay_eq (m : Mg) : f_ref05_May.f 1000 m = some (mmay m, ()) := rmmay_eq' _ _ _ _ _
theorem msg_same (xs : List Int) (h : Oct xs) (hl : xs.length ≤ 300) : ∃ (m : Mg) (e : Int), f_msg_Get.f 1000 xs = some (m, (e, ())) ∧ f_ref05_Get.f 1000 xs = some (m, (e, ())) := by
  have g1 := cga_m xs h (by omega)
  have g2 := rga_m xs h (by omega)
  rw [gall9] at g1 g2
  by_cases h9 : xs.length < 9
  · rw [if_pos h9] at g1 g2
    refine ⟨mz, 3, ?_, ?_⟩
    · unfold f_msg_Get.f; rw [g1]; rfl
    · unfold f_ref05_Get.f; rw [g2]; rfl
  rw [if_neg h9] at g1 g2
  generalize bev (xs.take 1) = A at *
  generalize bev ((xs.drop 1).take 3) = B at *
  generalize bev ((xs.drop 4).take 3) = C at *
  generalize bev ((xs.drop 7).take 2) = D at *
  have e1 : f_msg_Get.f 1000 xs = if (A == (2 : Int)) = true then f_msg_Get.j1 1000 xs 9 18 mz (A, (B, (C, (D, ((0, 0), (0, (0, (0, 0)))))))) else f_msg_Get.j1 1000 xs 9 9 mz (A, (B, (C, (D, ((0, 0), (0, (0, (0, 0)))))))) := by unfold f_msg_Get.f; rw [g1, Option.bind_some]; rfl
  have e2 : f_ref05_Get.f 1000 xs = if (A == (2 : Int)) = true then f_ref05_Get.j1 1000 xs 9 18 mz mz (A, (B, (C, (D, ((0, 0), (0, (0, (0, 0)))))))) else f_ref05_Get.j1 1000 xs 9 9 mz mz (A, (B, (C, (D, ((0, 0), (0, (0, (0, 0)))))))) := by unfold f_ref05_Get.f; rw [g2, Option.bind_some]; rfl
  rw [e1, e2]
  have j2 : ∀ m : Mg, ∃ (m' : Mg) (e : Int), f_msg_Get.j2 1000 mz m = some (m', (e, ())) ∧ f_ref05_Get.j2 1000 mz mz m = some (m', (e, ())) := by
    intro m
    unfold f_msg_Get.j2 f_ref05_Get.j2
    rw [mmay_eq, rmmay_eq, Option.bind_some]
    cases mmay m with
    | true => exact ⟨_, 0, rfl, rfl⟩
    | false => exact ⟨_, 2, rfl, rfl⟩
  by_cases hA : A = 2
  · have pA : ((A, (B, (C, (D, ((0, 0), (0, (0, (0, 0)))))))).1 == (2 : Int)) = true := beq_iff_eq.2 hA
    rw [if_pos (beq_iff_eq.2 hA), if_pos (beq_iff_eq.2 hA)]
    unfold f_msg_Get.j1 f_ref05_Get.j1
    by_cases l1 : (xs.length : Int) < 18
    · rw [if_pos (decide_eq_true l1), if_pos (decide_eq_true l1)]
      exact ⟨mz, 3, rfl, rfl⟩
    have n1 : ¬ decide ((xs.length : Int) < 18) = true := by rw [decide_eq_false l1]; exact Bool.false_ne_true
    rw [if_neg n1, if_neg n1]
    by_cases l2 : (xs.length : Int) > 18
    · rw [if_pos (decide_eq_true l2), if_pos (decide_eq_true l2)]
      exact ⟨mz, 2, rfl, rfl⟩
    have n2 : ¬ decide ((xs.length : Int) > 18) = true := by rw [decide_eq_false l2]; exact Bool.false_ne_true
    have n3 : (0 : Int) ≤ 9 ∧ (9 : Int) ≤ (xs.length : Int) ∧ (xs.length : Int) ≤ (xs.length : Int) := by omega
    rw [if_neg n2, if_neg n2, if_pos (show ((18 : Int) == 18) = true by decide), if_pos pA, if_pos n3, if_pos n3]
    obtain ⟨r, e, r1, r2⟩ := rule_same ((xs.take (xs.length : Int).toNat).drop (9 : Int).toNat) (oct_drop (oct_take h _) _) (by rw [Int.toNat_natCast, List.take_length, List.length_drop]; show xs.length - 9 = 9; omega)
    rw [r1, r2, Option.bind_some, Option.bind_some]
    dsimp only
    by_cases he : e = 0
    · have n4 : ¬ (e != (0 : Int)) = true := by rw [bne_iff_ne]; exact fun k => k he
      rw [if_neg n4, if_neg n4]
      exact j2 _
    · rw [if_pos (bne_iff_ne.2 he), if_pos (bne_iff_ne.2 he)]
      exact ⟨mz, 2, rfl, rfl⟩
  · have pA : ¬ ((A, (B, (C, (D, ((0, 0), (0, (0, (0, 0)))))))).1 == (2 : Int)) = true := by rw [beq_iff_eq]; exact hA
    have pB : ¬ (A == (2 : Int)) = true := pA
    rw [if_neg pB, if_neg pB]
    unfold f_msg_Get.j1 f_ref05_Get.j1
    have n1 : ¬ decide ((xs.length : Int) < 9) = true := by rw [decide_eq_false (by omega)]; exact Bool.false_ne_true
    rw [if_neg n1, if_neg n1]
    by_cases l2 : (xs.length : Int) > 9
    · rw [if_pos (decide_eq_true l2), if_pos (decide_eq_true l2)]
      exact ⟨mz, 2, rfl, rfl⟩
    have n2 : ¬ decide ((xs.length : Int) > 9) = true := by rw [decide_eq_false l2]; exact Bool.false_ne_true
    rw [if_neg n2, if_neg n2, if_neg (show ¬ ((9 : Int) == 18) = true by decide), if_neg pA]
    exact j2 _
theorem unless_eq (k : Nat) (b : Bool) (e : Int) : f_frame_unless.f k b e = some (if b = true then e else 0, ()) := by unfold f_frame_unless.f; cases b <;> rfl
theorem open_same (b : List Int) (h : Oct b) (hl : b.length ≤ 300) : ∃ (m : Mg) (e : Int), f_frame_Open.f 1000 b = some (m, (e, ())) ∧ f_ref06_Open.f 1000 b = some (m, (e, ())) := by
  unfold f_frame_Open.f f_ref06_Open.f i_frame_Open_2_2b5.f
  rw [unless_eq, Option.bind_some, Option.bind_some]
  by_cases h4 : (b.length : Int) < 4
  · rw [decide_eq_true h4, if_pos rfl, if_pos rfl]
    exact ⟨mz, 3, rfl, rfl⟩
  rw [decide_eq_false h4, if_neg Bool.false_ne_true, if_neg (show ¬ ((0 : Int) != 0) = true by decide), if_neg Bool.false_ne_true]
  unfold i_frame_Open_3_96f.f
  rw [if_pos (by omega), if_pos (by omega), if_pos (by omega), unless_eq, Option.bind_some, Option.bind_some]
  dsimp only
  by_cases h5 : (att (.int .u8) b 0 != (197 : Int)) = true
  · rw [if_pos h5, if_pos h5, if_pos (by rfl)]
    exact ⟨mz, 2, rfl, rfl⟩
  rw [if_neg h5, if_neg h5, if_neg (show ¬ ((0 : Int) != 0) = true by decide), if_pos (show (1 : Int) < (b.length : Int) by omega)]
  obtain ⟨n, en, hn⟩ : ∃ n : Int, att (.int .u8) b 1 = n ∧ 0 ≤ n ∧ n < 256 := by
    refine ⟨b[1]'(by omega), att_n (e := .int .u8) b 1 (by omega), ?_⟩
    exact h _ (List.getElem_mem _)
  rw [en]
  have m0 : (0 : Int) ≤ n % 2 := by omega
  have w0 : IntKind.i64.wrap n = n := IntWalk.i64_in n (by omega)
  have w1 : IntKind.i64.wrap (2 + n) = 2 + n := IntWalk.i64_in _ (by omega)
  have w2 : IntKind.i64.wrap (2 + n + n % 2) = 2 + n + n % 2 := IntWalk.i64_in _ (by omega)
  have w3 : IntKind.i64.wrap (2 + n + n % 2 + 2) = n + n % 2 + 4 := by rw [IntWalk.i64_in _ (by omega)]; omega
  have w4 : IntKind.i64.wrap (n + n % 2) = n + n % 2 := IntWalk.i64_in _ (by omega)
  have w5 : IntKind.i64.wrap (n + n % 2 + 4) = n + n % 2 + 4 := IntWalk.i64_in _ (by omega)
  rw [w0]
  unfold i_frame_Open_4_316.f i_frame_Open_5_316.f i_frame_Open_6_2b5.f i_frame_Open_7_0bb.f i_frame_Open_1_da9.f
  rw [Int.tmod_eq_emod_of_nonneg hn.1]
  simp only [w1, w2, w3, w4, w5, Option.bind_some, unless_eq]
  by_cases h6 : (b.length : Int) < n + n % 2 + 4
  · rw [decide_eq_true h6]
    exact ⟨mz, 3, rfl, rfl⟩
  rw [decide_eq_false h6]
  by_cases h7 : (b.length : Int) > n + n % 2 + 4
  · rw [decide_eq_true h7]
    exact ⟨mz, 2, rfl, rfl⟩
  rw [decide_eq_false h7, sum_eq b h (by omega), rsum_eq b h (by omega)]
  simp only [Option.bind_some]
  cases hs : ((65535 - fl (tot b b.length)) != (0 : Int)) with
  | true => exact ⟨mz, 4, rfl, rfl⟩
  | false =>
    obtain ⟨m, e, m1, m2⟩ := msg_same ((b.take (2 + n).toNat).drop (2 : Int).toNat) (oct_drop (oct_take h _) _) (by rw [List.length_drop, List.length_take]; omega)
    have c1 : (0 : Int) ≤ 2 ∧ (2 : Int) ≤ 2 + n ∧ 2 + n ≤ (b.length : Int) := by omega
    have hj : f_ref06_Open.j1 1000 b n false mz mz = some (m, (e, ())) := by
      unfold f_ref06_Open.j1
      rw [if_neg Bool.false_ne_true, w1, if_pos c1, m2, Option.bind_some]
    have c2 : (0 : Int) ≤ 2 + n := by omega
    simp only [Bool.false_eq_true, if_false, if_pos c1, if_pos c2, m1, bne_self', Option.bind_some]
    by_cases h9 : n % 2 = 1
    · have c3 : 2 + n < (b.length : Int) := by omega
      simp only [if_pos (beq_iff_eq.2 h9), if_pos c3]
      cases hz : (att (.int .u8) b (2 + n) != (0 : Int)) with
      | true => exact ⟨mz, 2, rfl, rfl⟩
      | false => exact ⟨m, e, rfl, hj⟩
    · have c4 : ¬ (n % 2 == (1 : Int)) = true := by rw [beq_iff_eq]; exact h9
      simp only [if_neg c4]
      exact ⟨m, e, rfl, hj⟩
theorem set_mem {α : Type} {xs : List α} {i : Nat} {y z : α} (h : z ∈ xs.set i y) : z = y ∨ z ∈ xs := by
  rcases List.mem_or_eq_of_mem_set h with h | h
  · exact .inr h
  · exact .inl h
theorem heard_big (c : Ct) (h : FewOf c) (sw : Int) (m : Mg) (e : Int) : BigOf (heardC c sw m e) := by
  have hb := h.big
  unfold heardC
  split
  · rename_i hc
    have hq : isB c.1.length c.2.1 c.2.2.1 c.2.2.2.2.2.1 c.2.2.2.2.2.2.2.1 c.2.2.2.2.2.2.2.2.1.length = true := hc.1
    have hl := isB_live hq
    split
    · refine ⟨hb.c, ?_, hb.q, hb.g, hb.d, hb.u, hb.r, ?_⟩
      · show (helloP c.2.2.2.2.2.2.2.2.1 sw m (lvC c sw) (stC c)).length < 1000
        unfold helloP
        have := h.p
        split
        · rw [List.length_set]; omega
        · omega
      · intro y hy
        replace hy : y ∈ helloP c.2.2.2.2.2.2.2.2.1 sw m (lvC c sw) (stC c) := hy
        unfold helloP at hy
        split at hy
        · rcases set_mem hy with rfl | hy
          · have q1 : (lvC c sw).length ≤ 2 := lvs_len _ _ _ _ _ _ _
            have q2 : ∀ v ∈ lvC c sw, v.2.length ≤ 60 := lvs_each (fun x hx => (h.r x hx).2) hl.1 hl.2 (fun ht => isB_next hq ht) _ _ _
            have q3 := size_two q1 q2
            obtain ⟨p1, p2, p3, p4⟩ := pushed_ok (m.2.1, (1, [])) (syncOf (lvC c sw) (stC c)) _ (Nat.le_refl _)
            have hO : (pushed (m.2.1, (1, [])) (syncOf (lvC c sw) (stC c)) (syncOf (lvC c sw) (stC c)).length).2.2.length = (syncOf (lvC c sw) (stC c)).length := p3.trans (Nat.zero_add _)
            have hs := sync_len (lvC c sw) (stC c)
            show (pushed (m.2.1, (1, [])) (syncOf (lvC c sw) (stC c)) (syncOf (lvC c sw) (stC c)).length).2.2.length < 1000
            omega
          · exact hb.o y hy
        · exact hb.o y hy
    · split
      · refine ⟨hb.c, ?_, hb.q, hb.g, hb.d, hb.u, hb.r, ?_⟩
        · show (ackP c.2.2.2.2.2.2.2.2.1 sw m).length < 1000
          unfold ackP
          have := h.p
          split
          · rw [List.length_set]; omega
          · omega
        · intro y hy
          replace hy : y ∈ ackP c.2.2.2.2.2.2.2.2.1 sw m := hy
          unfold ackP at hy
          split at hy
          · rcases set_mem hy with rfl | hy
            · have hyo : (att T23b6 c.2.2.2.2.2.2.2.2.1 sw).2.2.2.2.length ≤ 100 := h.o _ (att_mem (e := T23b6) _ hc.2.1 hc.2.2)
              show (sdone (att T23b6 c.2.2.2.2.2.2.2.2.1 sw).2.2 m.2.1 m.2.2.1).2.2.length < 1000
              unfold sdone
              split
              · have := List.length_filter_le (fresh m.2.2.1) (att T23b6 c.2.2.2.2.2.2.2.2.1 sw).2.2.2.2
                dsimp only
                omega
              · omega
            · exact hb.o y hy
          · exact hb.o y hy
      · exact hb
  · exact hb
theorem P_ControlHears (x0 : Ct) (x1 : Int) (x2 : List Int) (_ : Wf T26b3 x0) (_ : Wf (.int .i64) x1) (hw : Wf (.slice (.int .u8)) x2) : ∃ k, f_law21_ControlHears.f k x0 x1 x2 = some (true, ()) := by
  refine ⟨1000, ?_⟩
  unfold f_law21_ControlHears.f
  obtain ⟨b, hb, hf⟩ := fewC x0
  rw [awake21, Option.bind_some, hb, Option.bind_some, if_neg (show ¬ (!(true, ()).1) = true by decide)]
  dsimp only
  have hj : f_law21_ControlHears.j1 x0 x1 x2 1000 true true = some (true, ()) := rfl
  cases b with
  | false => rfl
  | true =>
    have h := hf rfl
    rw [if_neg (show ¬ (!true) = true by decide)]
    by_cases h3 : (x2.length : Int) > 300
    · rw [decide_eq_true h3, hj]
    rw [decide_eq_false h3]
    unfold f_law21_ControlHears.j1
    have ho : Oct x2 := fun x hx => by
      have h1 : (decide ((0 : Int) ≤ x) && decide (x ≤ (255 : Int))) = true := hw.2 x hx
      rw [Bool.and_eq_true, decide_eq_true_eq, decide_eq_true_eq] at h1
      exact ⟨h1.1, by have := h1.2; omega⟩
    obtain ⟨m, e, o1, o2⟩ := open_same x2 ho (by omega)
    rw [if_neg Bool.false_ne_true, heard_eq x0 h x1 x2 m e o1, Option.bind_some, ref_heard x0 h x1 x2 m e o2, Option.bind_some]
    dsimp only
    rw [same_big _ (heard_big x0 h x1 m e), Option.bind_some]
end Go.Proofs.YtkhjemahenkdiaaGreatDoor.V
