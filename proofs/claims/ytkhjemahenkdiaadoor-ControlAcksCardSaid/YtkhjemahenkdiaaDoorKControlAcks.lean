/- What the law needs of plain Lean, and the law itself over it. -/
import Derived.Test.YtkhjemahenkdiaaDoorVF2
import Derived.Test.YtkhjemahenkdiaaDoorVBase
import Derived.IntWalk
import Derived.Test.YtkhjemahenkdiaaDoorVZS
namespace Go.Proofs.YtkhjemahenkdiaaDoor.V
open Go Go.RowKit
set_option synthInstance.maxSize 2000
set_option synthInstance.maxHeartbeats 200000
set_option linter.unusedVariables false
set_option linter.unusedSimpArgs false
set_option maxRecDepth 10000
theorem wsucc (i : Nat) (h : i < 1000000) : IntKind.i64.wrap ((i : Int) + 1) = ((i + 1 : Nat) : Int) := by rw [IntWalk.i64_in _ (by omega)]; omega
theorem att_n {e : Ty} (xs : List e.T) (i : Nat) (h : i < xs.length) : att e xs (i : Int) = xs[i] := by
  unfold att
  rw [Int.toNat_natCast, List.getElem?_eq_getElem h]
  rfl
theorem loop_at {R : Type} (B : Nat → Nat → Option R) (j : Nat) (r : Option R) (step : ∀ m i, i < j → B (m + 1) i = B m (i + 1)) (fin : ∀ m, B (m + 1) j = r) : ∀ d i m, i + d = j → d < m → B m i = r
  | 0, i, m + 1, h, _ => by rw [show i = j by omega]; exact fin m
  | d + 1, i, m + 1, h, hm => by rw [step m i (by omega)]; exact loop_at B j r step fin d (i + 1) m (by omega) (by omega)
theorem loop {R : Type} (B : Nat → Nat → Option R) (j : Nat) (r : Option R) (step : ∀ m i, i < j → B (m + 1) i = B m (i + 1)) (fin : ∀ m, B (m + 1) j = r) (m : Nat) (hm : j < m) : B m 0 = r := loop_at B j r step fin j 0 m (by omega) hm
theorem fi_not {α : Type} {p : α → Bool} {xs : List α} {i : Nat} (hi : i < xs.findIdx p) (hl : i < xs.length) : p xs[i] = false := by simpa using List.not_of_lt_findIdx hi
abbrev Rl := T1383.T
abbrev Vr := T814c.T
def hasTag (tag : Int) (v : Vr) : Bool := v.1 == tag
def tagAt (t : List Vr) (tag : Int) : Nat := t.findIdx (hasTag tag)
def sizeOf' (t : List Vr) : Nat := (t.map fun v => v.2.length).sum
theorem size_take_le (t : List Vr) (i : Nat) : sizeOf' (t.take i) ≤ sizeOf' t := by
  unfold sizeOf'
  conv => rhs; rw [← List.take_append_drop i t, List.map_append, List.sum_append]
  omega
def bnd (n : Int) : Int := if 32 < (if 0 > n then 0 else n) then 32 else if 0 > n then 0 else n
theorem bnd_range (n : Int) : 0 ≤ bnd n ∧ bnd n ≤ 32 := by unfold bnd; split <;> split <;> omega
noncomputable def mask (n : Int) : Int := IntKind.i64.wrap (IntKind.u32.wrap (IntKind.u64.wrap (4294967295 * (2 ^ (min (IntKind.i64.wrap (32 - bnd n)).toNat IntKind.u64.bits)))))
theorem mask_eq (k : Nat) (n : Int) : f_bits_Mask.f k n = some (mask n, ()) := by
  have h := bnd_range n
  unfold f_bits_Mask.f f_bits_bound.f
  simp only [Option.bind_some]
  change (if 0 ≤ IntKind.i64.wrap (32 - bnd n) then _ else _) = _
  rw [if_pos (by rw [IntWalk.i64_in _ (by omega)]; omega)]
  rfl
noncomputable def pmay (p : T713d.T) : Bool := decide (p.2 ≥ 0) && (decide (p.2 ≤ 32) && (decide (p.1 ≥ 0) && (decide (p.1 ≤ 4294967295) && IntKind.i64.wrap (((BitVec.ofInt IntKind.i64.bits p.1 &&& ~~~ BitVec.ofInt IntKind.i64.bits (mask p.2)).toNat : Int)) == (0 : Int))))
theorem pmay_eq (k : Nat) (p : T713d.T) : f_bits_May.f k p = some (pmay p, ()) := by
  unfold f_bits_May.f pmay
  simp only [mask_eq, Option.bind_some]
  by_cases h1 : decide (p.2 ≥ 0) = true <;> by_cases h2 : decide (p.2 ≤ 32) = true <;> by_cases h3 : decide (p.1 ≥ 0) = true <;> by_cases h4 : decide (p.1 ≤ 4294967295) = true <;> simp only [h1, h2, h3, h4, if_true, if_false, Bool.true_and, Bool.false_and, Bool.false_eq_true]
def port (r : Rl) : Bool := if ((r.2.2.2.1 == (0 : Int)) && ((r.2.2.2.2 == (0 : Int)) && true)) = true then true else (r.2.2.2.1 == (1 : Int)) && (decide (r.2.2.2.2 ≥ 0) && decide (r.2.2.2.2 ≤ 7))
noncomputable def rmay (r : Rl) : Bool := port r && (pmay r.1 && (decide (r.2.1 ≥ -1) && (decide (r.2.1 ≤ 7) && (decide (r.2.2.1 ≥ 0) && decide (r.2.2.1 ≤ 255)))))
theorem rmay_eq (k : Nat) (r : Rl) : f_rule_May.f k r = some (rmay r, ()) := by
  have hj : ∀ b, f_rule_May.j1 k b r = some (b && (pmay r.1 && (decide (r.2.1 ≥ -1) && (decide (r.2.1 ≤ 7) && (decide (r.2.2.1 ≥ 0) && decide (r.2.2.1 ≤ 255))))), ()) := by
    intro b
    unfold f_rule_May.j1
    simp only [pmay_eq, Option.bind_some]
    cases b <;> cases pmay r.1 <;> by_cases h2 : decide (r.2.1 ≥ -1) = true <;> by_cases h3 : decide (r.2.1 ≤ 7) = true <;> by_cases h4 : decide (r.2.2.1 ≥ 0) = true <;> simp only [h2, h3, h4, if_true, if_false, Bool.true_and, Bool.false_and, Bool.false_eq_true]
  unfold f_rule_May.f rmay port
  simp only [hj]
  by_cases h1 : ((r.2.2.2.1 == (0 : Int)) && ((r.2.2.2.2 == (0 : Int)) && true)) = true
  · rw [if_pos h1, if_pos h1]
  · rw [if_neg h1, if_neg h1]
    by_cases h2 : (r.2.2.2.1 == (1 : Int)) = true <;> by_cases h3 : decide (r.2.2.2.2 ≥ 0) = true <;> simp only [h2, h3, if_true, if_false, Bool.true_and, Bool.false_and, Bool.false_eq_true]
theorem size_le {t : List Vr} (h : ∀ v ∈ t, v.2.length < 1000) : sizeOf' t ≤ t.length * 999 := by
  induction t with
  | nil => simp [sizeOf']
  | cons v t ih =>
    have h1 := h v List.mem_cons_self
    have h2 := ih fun x hx => h x (List.mem_cons_of_mem _ hx)
    simp only [sizeOf', List.map_cons, List.sum_cons, List.length_cons] at h2 ⊢
    omega
noncomputable def of (t : List Vr) (tag : Int) : List Rl × Bool := if h : tagAt t tag < t.length then (t[tagAt t tag].2, true) else ([], false)
theorem loop_or {R : Type} (B : Nat → Nat → Option R) (n : Nat) (Q : Nat → Prop) (r a : Option R) (step : ∀ m i, i < n → (Q i ∧ B (m + 1) i = B m (i + 1)) ∨ B (m + 1) i = a) (fin : (∀ i, i < n → Q i) → ∀ m, B (m + 1) n = r) : ∀ m, n < m → ((∀ i, i < n → Q i) ∧ B m 0 = r) ∨ B m 0 = a := by
  have key : ∀ d i m, i + d = n → d < m → (∀ j, j < i → Q j) → ((∀ i, i < n → Q i) ∧ B m i = r) ∨ B m i = a := by
    intro d
    induction d with
    | zero => intro i m h hm hq; obtain rfl : i = n := by omega
              obtain ⟨m, rfl⟩ : ∃ m', m = m' + 1 := ⟨m - 1, by omega⟩
              exact .inl ⟨hq, fin hq m⟩
    | succ d ih =>
      intro i m h hm hq
      obtain ⟨m, rfl⟩ : ∃ m', m = m' + 1 := ⟨m - 1, by omega⟩
      rcases step m i (by omega) with ⟨h1, h2⟩ | h2
      · rw [h2]
        exact ih (i + 1) m (by omega) (by omega) (fun j hj => by rcases Nat.lt_or_eq_of_le (Nat.le_of_lt_succ hj) with h | rfl; exact hq j h; exact h1)
      · exact .inr h2
  intro m hm
  exact key n 0 m (by omega) hm (fun j hj => absurd hj (Nat.not_lt_zero j))
theorem size_cons (v : Vr) (b : List Vr) : sizeOf' (v :: b) = v.2.length + sizeOf' b := by simp [sizeOf']
abbrev Mg := T4414.T
abbrev Ss := Tb104.T
theorem w_one (n : Int) (h1 : n ≤ 1048576) (h2 : -1048576 ≤ n) : IntKind.i64.wrap (n + 1) = n + 1 := IntWalk.i64_in _ (by omega)
theorem own_s (k : Nat) (S U : Ss) (m : Mg) (x y : Int) (h : S.2.2.length < 1000000) : i_sess_own_b60.f k S U m x y = some (S.1, (S.2.1, (S.2.2, ()))) := by
  unfold i_sess_own_b60.f
  rw [if_pos (by omega), if_pos (by simp)]
theorem own_d (k : Nat) (S U : Ss) (n x y : Int) (h : S.2.2.length < 1000000) : i_sess_own_9f5.f k S U n x y = some (S.1, (S.2.1, (S.2.2, ()))) := by
  unfold i_sess_own_9f5.f
  rw [if_pos (by omega), if_pos (by simp)]
def push (S : Ss) (m : Mg) : Ss := (S.1, (S.2.1 + 1, S.2.2 ++ [(m.1, (S.1, (S.2.1, m.2.2.2)))]))
theorem push_eq (k : Nat) (S : Ss) (m : Mg) (h : S.2.2.length < 1000000) (h1 : S.2.1 ≤ (1048576 : Int)) (h2 : (-1048576 : Int) ≤ S.2.1) : f_sess_Push.f k S m = some (push S m, (0, ())) := by
  unfold f_sess_Push.f push
  rw [own_s k _ _ _ _ _ h, Option.bind_some]
  dsimp only
  rw [decide_eq_false (Int.not_lt.2 h1), if_neg Bool.false_ne_true, if_pos (by omega)]
  have hw : IntKind.i64.wrap (S.2.1 + 1) = S.2.1 + 1 := w_one S.2.1 h1 h2
  rw [hw]
def fresh (n : Int) (m : Mg) : Bool := !decide (m.2.2.1 ≤ n)
theorem index_s (k : Nat) (v c n x y : Int) (xs : List Mg) (hk : xs.length < k) (hs : xs.length < 1000000) :
    i_slices_IndexFunc_Msg_c91.f k v c n x y xs = some (if xs.findIdx (fun m => decide (m.2.2.1 ≤ n)) < xs.length then (xs.findIdx (fun m => decide (m.2.2.1 ≤ n)) : Int) else -1, (v, (c, (n, (x, (y, (xs, ()))))))) := by
  have hle : xs.findIdx (fun m => decide (m.2.2.1 ≤ n)) ≤ xs.length := List.findIdx_le_length
  refine loop (fun m i => i_slices_IndexFunc_Msg_c91.l1 k m (xs.length : Int) (i : Int) v c n x y xs) (xs.findIdx (fun m => decide (m.2.2.1 ≤ n))) _ (fun m i hi => ?_) (fun m => ?_) k (by omega)
  · have hl : i < xs.length := by omega
    have hn : decide (xs[i].2.2.1 ≤ n) = false := fi_not (p := fun m : Mg => decide (m.2.2.1 ≤ n)) hi hl
    simp only [i_slices_IndexFunc_Msg_c91.l1, i_slices_IndexFunc_Msg_c91.b1, i_sess_Done_1_0ff.f, att_n xs i hl, Option.bind_some, hn]
    rw [if_pos (by (first | omega | (dsimp only [Ty.T]; omega) | (simp only [decide_eq_true_eq, decide_eq_false_iff_not, Bool.not_eq_true, Ty.T]; omega) | (simp only [decide_eq_true_eq, decide_eq_false_iff_not, Ty.T]; omega) | (simp only [beq_iff_eq, bne_iff_ne, ne_eq, decide_eq_true_eq, Ty.T]; omega))), if_pos (by omega), if_pos (by omega), wsucc i (by omega)]
    simp
  · by_cases hl : xs.findIdx (fun m => decide (m.2.2.1 ≤ n)) < xs.length
    · have hn : decide (xs[xs.findIdx (fun m => decide (m.2.2.1 ≤ n))].2.2.1 ≤ n) = true := List.findIdx_getElem (p := fun m : Mg => decide (m.2.2.1 ≤ n)) (w := hl)
      simp only [i_slices_IndexFunc_Msg_c91.l1, i_slices_IndexFunc_Msg_c91.b1, i_sess_Done_1_0ff.f, att_n xs _ hl, Option.bind_some, hn]
      rw [if_pos (by (first | omega | (dsimp only [Ty.T]; omega) | (simp only [decide_eq_true_eq, decide_eq_false_iff_not, Bool.not_eq_true, Ty.T]; omega) | (simp only [decide_eq_true_eq, decide_eq_false_iff_not, Ty.T]; omega) | (simp only [beq_iff_eq, bne_iff_ne, ne_eq, decide_eq_true_eq, Ty.T]; omega))), if_pos (by omega), if_pos (by omega), if_pos hl]
      simp
    · simp only [i_slices_IndexFunc_Msg_c91.l1, i_slices_IndexFunc_Msg_c91.b1, if_neg hl]
      rw [if_neg (by (first | omega | (dsimp only [Ty.T]; omega) | (simp only [decide_eq_true_eq, decide_eq_false_iff_not, Bool.not_eq_true, Ty.T]; omega) | (simp only [decide_eq_true_eq, decide_eq_false_iff_not, Ty.T]; omega) | (simp only [beq_iff_eq, bne_iff_ne, ne_eq, decide_eq_true_eq, Ty.T]; omega)))]
def moved (n : Int) (xs : List Mg) : Nat → List Mg × Nat
  | 0 => (xs, 0)
  | j + 1 => match xs[j]? with
    | some v => if fresh n v = true then ((moved n xs j).1.set (moved n xs j).2 v, (moved n xs j).2 + 1) else moved n xs j
    | none => moved n xs j
theorem moved_ok (n : Int) (xs : List Mg) : ∀ j, j ≤ xs.length → (moved n xs j).1.length = xs.length ∧ (moved n xs j).2 ≤ j ∧ (moved n xs j).1.take (moved n xs j).2 = (xs.take j).filter (fresh n) ∧ (moved n xs j).1.drop j = xs.drop j
  | 0, _ => ⟨rfl, Nat.le_refl _, rfl, rfl⟩
  | j + 1, h => by
    obtain ⟨h1, h2, h3, h4⟩ := moved_ok n xs j (by omega)
    have hj : j < xs.length := by omega
    unfold moved
    rw [List.getElem?_eq_getElem hj]
    rw [List.take_succ_eq_append_getElem hj, List.filter_append]
    have hd : (moved n xs j).1.drop (j + 1) = xs.drop (j + 1) := by rw [← List.drop_drop, h4, List.drop_drop]
    dsimp only
    cases hf : fresh n xs[j]
    · rw [if_neg Bool.false_ne_true]
      refine ⟨h1, by omega, ?_, hd⟩
      rw [List.filter_cons, hf, if_neg Bool.false_ne_true, List.filter_nil, List.append_nil]
      exact h3
    · rw [if_pos rfl]
      refine ⟨by rw [List.length_set]; exact h1, by dsimp only; omega, ?_, ?_⟩
      · dsimp only
        rw [List.filter_cons, hf, if_pos rfl, List.filter_nil, ← h3, List.take_succ_eq_append_getElem (by rw [List.length_set]; omega), List.getElem_set_self, List.take_set_of_le (by omega)]
      · dsimp only
        rw [List.drop_set_of_lt (by omega)]
        exact hd
theorem moved_first (n : Int) (xs : List Mg) : ∀ j, j ≤ xs.findIdx (fun m => decide (m.2.2.1 ≤ n)) → moved n xs j = (xs, j)
  | 0, _ => rfl
  | j + 1, h => by
    have hle : xs.findIdx (fun m => decide (m.2.2.1 ≤ n)) ≤ xs.length := List.findIdx_le_length
    have hj : j < xs.length := by omega
    have hn : decide (xs[j].2.2.1 ≤ n) = false := fi_not (p := fun m : Mg => decide (m.2.2.1 ≤ n)) (by omega) hj
    unfold moved
    rw [List.getElem?_eq_getElem hj, moved_first n xs j (by omega)]
    have hf : fresh n xs[j] = true := by unfold fresh; rw [hn]; rfl
    dsimp only
    rw [if_pos hf, List.set_getElem_self]
theorem delete_s (k : Nat) (v c n x y : Int) (xs : List Mg) (hk : xs.length + 5 < k) (hs : xs.length < 1000000) :
    i_slices_DeleteFunc_Msg_c91.f k v c n x y xs = some (xs.filter (fresh n), (v, (c, (n, (x, (y, ())))))) := by
  have hle : xs.findIdx (fun m => decide (m.2.2.1 ≤ n)) ≤ xs.length := List.findIdx_le_length
  unfold i_slices_DeleteFunc_Msg_c91.f
  rw [index_s k v c n x y xs (by omega) hs, Option.bind_some]
  dsimp only
  by_cases hl : xs.findIdx (fun m => decide (m.2.2.1 ≤ n)) < xs.length
  · rw [if_pos hl, if_neg (by simp only [beq_iff_eq, Ty.T]; omega), wsucc _ (by omega)]
    have hn : decide (xs[xs.findIdx (fun m => decide (m.2.2.1 ≤ n))].2.2.1 ≤ n) = true := List.findIdx_getElem (p := fun m : Mg => decide (m.2.2.1 ≤ n)) (w := hl)
    have hstart : moved n xs (xs.findIdx (fun m => decide (m.2.2.1 ≤ n)) + 1) = (xs, xs.findIdx (fun m => decide (m.2.2.1 ≤ n))) := by
      unfold moved
      rw [List.getElem?_eq_getElem hl, moved_first n xs _ (Nat.le_refl _)]
      dsimp only
      rw [if_neg (by unfold fresh; rw [hn]; exact Bool.false_ne_true)]
    generalize xs.findIdx (fun m => decide (m.2.2.1 ≤ n)) = j0 at hl hle hstart ⊢
    have key := loop_at (fun m q => i_slices_DeleteFunc_Msg_c91.l1 k m ((moved n xs q).2 : Int) (q : Int) v c n x y (moved n xs q).1) xs.length (some (xs.filter (fresh n), (v, (c, (n, (x, (y, ()))))))) (fun m q hq => by
      obtain ⟨h1, h2, h3, h4⟩ := moved_ok n xs q (by omega)
      have hql : q < (moved n xs q).1.length := by omega
      have hqv : (moved n xs q).1[q] = xs[q] := by
        have := congrArg (fun l => l[0]?) h4
        simp only [List.getElem?_drop, Nat.add_zero] at this
        rw [List.getElem?_eq_getElem hql, List.getElem?_eq_getElem hq] at this
        exact Option.some.inj this
      simp only [i_slices_DeleteFunc_Msg_c91.l1, i_slices_DeleteFunc_Msg_c91.b1, i_slices_DeleteFunc_Msg_c91.j2, i_sess_Done_1_67f.f, Option.bind_some, att_n _ q hql, hqv]
      rw [if_pos (by (first | omega | (dsimp only [Ty.T]; omega) | (simp only [decide_eq_true_eq, decide_eq_false_iff_not, Bool.not_eq_true, Ty.T]; omega) | (simp only [decide_eq_true_eq, decide_eq_false_iff_not, Ty.T]; omega) | (simp only [beq_iff_eq, bne_iff_ne, ne_eq, decide_eq_true_eq, Ty.T]; omega))), if_pos (by omega), if_pos (by omega), wsucc q (by omega)]
      conv => rhs; unfold moved
      rw [List.getElem?_eq_getElem hq]
      dsimp only
      cases hf : fresh n xs[q]
      · rw [if_neg Bool.false_ne_true, if_neg (by unfold fresh at hf; rw [hf]; exact Bool.false_ne_true)]
      · rw [if_pos rfl, if_pos (by unfold fresh at hf; exact hf), if_pos (by omega), if_pos (by omega), wsucc _ (by omega), Int.toNat_natCast]) (fun m => by
      obtain ⟨h1, h2, h3, h4⟩ := moved_ok n xs xs.length (by omega)
      simp only [i_slices_DeleteFunc_Msg_c91.l1, i_slices_DeleteFunc_Msg_c91.b1]
      rw [if_neg (by (first | omega | (dsimp only [Ty.T]; omega) | (simp only [decide_eq_true_eq, decide_eq_false_iff_not, Bool.not_eq_true, Ty.T]; omega) | (simp only [decide_eq_true_eq, decide_eq_false_iff_not, Ty.T]; omega) | (simp only [beq_iff_eq, bne_iff_ne, ne_eq, decide_eq_true_eq, Ty.T]; omega))), if_pos (by omega), if_pos (by simp only [List.length_append, List.length_take, List.length_replicate, Int.toNat_natCast]; omega), Int.toNat_natCast, List.take_append_of_le_length (by rw [List.length_take]; omega), List.take_take, Nat.min_self, h3, List.take_length]) (xs.length - (j0 + 1)) (j0 + 1) k (by omega) (by omega)
    rw [hstart] at key
    exact key
  · rw [if_neg hl, if_pos (by rfl)]
    have : xs.filter (fresh n) = xs := List.filter_eq_self.2 fun m hm => by
      have := List.findIdx_eq_length.1 (show xs.findIdx (fun m : Mg => decide (m.2.2.1 ≤ n)) = xs.length by omega) m hm
      have h2 : decide (m.2.2.1 ≤ n) = false := this
      unfold fresh
      rw [h2]; rfl
    rw [this]
noncomputable def sdone (S : Ss) (v n : Int) : Ss := if v = S.1 then (S.1, (S.2.1, S.2.2.filter (fresh n))) else S
theorem done_eq (k : Nat) (S : Ss) (v n : Int) (hk : S.2.2.length + 5 < k) (hs : S.2.2.length < 1000000) : f_sess_Done.f k S v n = some (sdone S v n, ()) := by
  unfold f_sess_Done.f f_sess_Done.j1 f_sess_Done.j2 sdone
  rw [own_d k _ _ _ _ _ hs, Option.bind_some]
  dsimp only
  by_cases h : v = S.1
  · rw [if_pos (beq_iff_eq.2 h), if_pos h, delete_s k _ _ _ _ _ _ hk hs]; rfl
  · rw [if_neg (by rw [beq_eq_false_iff_ne.2 h]; exact Bool.false_ne_true), if_neg h]
def addOf (tag : Int) (r : Rl) : Mg := (2, (0, (0, (tag, r))))
def addsOf (tag : Int) (rs : List Rl) : List Mg := rs.map (addOf tag)
theorem adds_eq (k : Nat) (tag : Int) (rs : List Rl) (hk : rs.length < k) (hs : rs.length < 1000000) : f_plan_Adds.f k tag rs = some (addsOf tag rs, ()) := by
  unfold f_plan_Adds.f
  have h : i_plan_many_Rule_do_2f5.f k rs tag = some (tag, (addsOf tag rs, ())) := by
    unfold i_plan_many_Rule_do_2f5.f
    refine loop (fun m i => i_plan_many_Rule_do_2f5.l1 k m rs (rs.length : Int) (i : Int) tag (addsOf tag (rs.take i))) rs.length _ (fun m i hi => ?_) (fun m => ?_) k (by omega)
    · simp only [i_plan_many_Rule_do_2f5.l1, i_plan_many_Rule_do_2f5.b1, i_plan_Adds_1_5da.f, att_n rs i hi]
      rw [if_pos (by (first | omega | (dsimp only [Ty.T]; omega) | (simp only [decide_eq_true_eq, decide_eq_false_iff_not, Bool.not_eq_true, Ty.T]; omega) | (simp only [decide_eq_true_eq, decide_eq_false_iff_not, Ty.T]; omega) | (simp only [beq_iff_eq, bne_iff_ne, ne_eq, decide_eq_true_eq, Ty.T]; omega))), if_pos (by omega), if_pos (by omega), if_pos (by unfold addsOf; rw [List.length_map, List.length_take]; omega), Option.bind_some, wsucc i (by omega)]
      unfold addsOf
      rw [List.take_succ_eq_append_getElem hi, List.map_append]
      rfl
    · simp only [i_plan_many_Rule_do_2f5.l1, i_plan_many_Rule_do_2f5.b1]
      rw [if_neg (by (first | omega | (dsimp only [Ty.T]; omega) | (simp only [decide_eq_true_eq, decide_eq_false_iff_not, Bool.not_eq_true, Ty.T]; omega) | (simp only [decide_eq_true_eq, decide_eq_false_iff_not, Ty.T]; omega) | (simp only [beq_iff_eq, bne_iff_ne, ne_eq, decide_eq_true_eq, Ty.T]; omega))), List.take_length]
  rw [h, Option.bind_some]
def allOf (t : List Vr) : List Mg := t.flatMap fun v => addsOf v.1 v.2
theorem all_len (t : List Vr) : (allOf t).length = sizeOf' t := by
  induction t with
  | nil => rfl
  | cons v t ih =>
    unfold allOf sizeOf' at ih ⊢
    rw [List.flatMap_cons, List.length_append, ih, List.map_cons, List.sum_cons]
    unfold addsOf
    rw [List.length_map]
def syncOf (t : List Vr) (n : Int) : List Mg := allOf t ++ [(3, (0, (0, (n, ((0, 0), (0, (0, (0, 0)))))))), (5, (0, (0, (0, ((0, 0), (0, (0, (0, 0))))))))]
theorem sync_len (t : List Vr) (n : Int) : (syncOf t n).length = sizeOf' t + 2 := by unfold syncOf; rw [List.length_append, all_len]; rfl
theorem sync_eq (k : Nat) (t : List Vr) (n : Int) (hk : 100 ≤ k) (h1 : t.length ≤ 20) (h2 : ∀ v ∈ t, v.2.length ≤ 60) : f_plan_Sync.f k t n = some (syncOf t n, ()) := by
  have hz := size_le (t := t) fun v hv => by have := h2 v hv; omega
  unfold f_plan_Sync.f
  have h : i_plan_many_Ver_do_d01.f k t = some (allOf t, ()) := by
    unfold i_plan_many_Ver_do_d01.f
    refine loop (fun m i => i_plan_many_Ver_do_d01.l1 k m t (t.length : Int) (i : Int) (allOf (t.take i))) t.length _ (fun m i hi => ?_) (fun m => ?_) k (by omega)
    · have hv := h2 _ (List.getElem_mem hi)
      have hl := all_len (t.take i)
      have hl2 := size_take_le t i
      simp only [i_plan_many_Ver_do_d01.l1, i_plan_many_Ver_do_d01.b1, i_plan_Sync_1_a74.f, att_n t i hi]
      rw [if_pos (by (first | omega | (dsimp only [Ty.T]; omega) | (simp only [decide_eq_true_eq, decide_eq_false_iff_not, Bool.not_eq_true, Ty.T]; omega) | (simp only [decide_eq_true_eq, decide_eq_false_iff_not, Ty.T]; omega) | (simp only [beq_iff_eq, bne_iff_ne, ne_eq, decide_eq_true_eq, Ty.T]; omega))), if_pos (by omega), if_pos (by omega), adds_eq k _ _ (by omega) (by omega), Option.bind_some]
      dsimp only
      rw [if_pos (by unfold addsOf; rw [List.length_map]; omega), Option.bind_some, wsucc i (by omega)]
      unfold allOf
      rw [List.take_succ_eq_append_getElem hi, List.flatMap_append]
      simp
    · simp only [i_plan_many_Ver_do_d01.l1, i_plan_many_Ver_do_d01.b1]
      rw [if_neg (by (first | omega | (dsimp only [Ty.T]; omega) | (simp only [decide_eq_true_eq, decide_eq_false_iff_not, Bool.not_eq_true, Ty.T]; omega) | (simp only [decide_eq_true_eq, decide_eq_false_iff_not, Ty.T]; omega) | (simp only [beq_iff_eq, bne_iff_ne, ne_eq, decide_eq_true_eq, Ty.T]; omega))), List.take_length]
  rw [h, Option.bind_some]
  have hl := all_len t
  rw [if_pos (by dsimp only; omega)]
  rfl
def pushed (S : Ss) (ms : List Mg) : Nat → Ss
  | 0 => S
  | i + 1 => push (pushed S ms i) (att T4414 ms (i : Int))
theorem pushed_ok (S : Ss) (ms : List Mg) : ∀ i, i ≤ ms.length → (pushed S ms i).1 = S.1 ∧ (pushed S ms i).2.1 = S.2.1 + (i : Int) ∧ (pushed S ms i).2.2.length = S.2.2.length + i ∧ ∀ j (h : j < i) (hj : j < ms.length), (pushed S ms i).2.2[S.2.2.length + j]? = some (ms[j].1, (S.1, (S.2.1 + (j : Int), ms[j].2.2.2)))
  | 0, _ => ⟨rfl, (Int.add_zero _).symm, rfl, fun j h => absurd h (Nat.not_lt_zero j)⟩
  | i + 1, hi => by
    obtain ⟨h1, h2, h3, h4⟩ := pushed_ok S ms i (by omega)
    unfold pushed push
    dsimp only
    refine ⟨h1, ?_, ?_, fun j h hj => ?_⟩
    · rw [h2]
      exact Int.add_assoc _ _ _
    · rw [List.length_append, h3]; rfl
    · by_cases e : j < i
      · rw [List.getElem?_append_left (by omega)]
        exact h4 j e hj
      · obtain rfl : j = i := by omega
        rw [List.getElem?_append_right (by omega), h3, Nat.sub_self, h1, h2, att_n ms j hj]
        rfl
theorem wrap_pred (v : Int) : IntKind.i64.wrap (v - 1) ≠ v := by
  rw [IntKind.wrap_i64]
  omega
theorem pushall_eq (k : Nat) (S : Ss) (ms : List Mg) (hk : ms.length < k) (hk2 : S.2.2.length + 5 < k) (hm : ms.length ≤ 2000) (hb : S.2.2.length ≤ 200) (n1 : (1 : Int) ≤ S.2.1) (n2 : S.2.1 ≤ (1000 : Int)) : f_plan_Push.f k S ms = some (pushed S ms ms.length, ()) := by
  unfold f_plan_Push.f
  rw [done_eq k S _ _ hk2 (by omega), Option.bind_some]
  have hd : sdone S (IntKind.i64.wrap (S.1 - 1)) 0 = S := by
    unfold sdone
    rw [if_neg (wrap_pred S.1)]
  rw [hd]
  refine loop (fun m i => f_plan_Push.l1 k m ms (ms.length : Int) (i : Int) (pushed S ms i) 0 0) ms.length _ (fun m i hi => ?_) (fun m => ?_) k (by omega)
  · obtain ⟨h1, h2, h3, h4⟩ := pushed_ok S ms i (by omega)
    have hn : ∀ a : Int, 1 ≤ a → a ≤ 1000 → a + (i : Int) ≤ 1048576 ∧ (-1048576 : Int) ≤ a + (i : Int) := fun a b c => ⟨by omega, by omega⟩
    have hn2 := hn S.2.1 n1 n2
    simp only [f_plan_Push.l1, f_plan_Push.b1]
    rw [if_pos (by (first | omega | (dsimp only [Ty.T]; omega) | (simp only [decide_eq_true_eq, decide_eq_false_iff_not, Bool.not_eq_true, Ty.T]; omega) | (simp only [decide_eq_true_eq, decide_eq_false_iff_not, Ty.T]; omega) | (simp only [beq_iff_eq, bne_iff_ne, ne_eq, decide_eq_true_eq, Ty.T]; omega))), if_pos (by omega), if_pos (by omega), push_eq k _ _ (by omega) (by rw [h2]; exact hn2.1) (by rw [h2]; exact hn2.2), Option.bind_some, if_neg (by simp), wsucc i (by omega)]
    rfl
  · simp only [f_plan_Push.l1, f_plan_Push.b1, f_plan_Push.j2]
    rw [if_neg (by (first | omega | (dsimp only [Ty.T]; omega) | (simp only [decide_eq_true_eq, decide_eq_false_iff_not, Bool.not_eq_true, Ty.T]; omega) | (simp only [decide_eq_true_eq, decide_eq_false_iff_not, Ty.T]; omega) | (simp only [beq_iff_eq, bne_iff_ne, ne_eq, decide_eq_true_eq, Ty.T]; omega)))]
abbrev Ct := T26b3.T
def inR (n : Nat) (x : Int) : Bool := decide (0 ≤ x ∧ x < (n : Int))
def two (ph : Int) : Bool := ph == 1 || ph == 2 || ph == 3
def rulesAt (x : List (List Rl)) (sw : Int) : List Rl := if 0 ≤ sw ∧ sw < (x.length : Int) then att (.slice T1383) x sw else []
def lvs (cs : List (List (List Rl))) (live next tag new ph sw : Int) : List Vr :=
  if two ph = true then
    if new < tag then [(new, rulesAt (att (.slice (.slice T1383)) cs next) sw), (tag, rulesAt (att (.slice (.slice T1383)) cs live) sw)]
    else [(tag, rulesAt (att (.slice (.slice T1383)) cs live) sw), (new, rulesAt (att (.slice (.slice T1383)) cs next) sw)]
  else [(tag, rulesAt (att (.slice (.slice T1383)) cs live) sw)]
def stampOf (tag new ph : Int) : Int := if ph = 2 ∨ ph = 3 then new else tag
def isB (nc : Nat) (live next ph : Int) (queue : List Int) (np : Nat) : Bool := ((next == -1 && !two ph) || inR nc next) && (inR nc live && (!queue.any (fun q => !inR nc q) && decide ((np : Int) ≤ 100)))
theorem wsucc2 (i : Nat) (h : i < 9223372036854775807) : IntKind.i64.wrap ((i : Int) + 1) = ((i + 1 : Nat) : Int) := by rw [IntWalk.i64_in _ (by omega)]; omega
theorem index_g (k : Nat) (xs : List Int) (x : Int) (h : xs.length < k) (h2 : xs.length ≤ 9223372036854775807) : f_slices_Index_int.f k xs x = some ((if xs.findIdx (fun y => x == y) < xs.length then ((xs.findIdx (fun y => x == y) : Nat) : Int) else -1), ()) := by
  have hle : xs.findIdx (fun y => x == y) ≤ xs.length := List.findIdx_le_length
  unfold f_slices_Index_int.f
  refine loop (fun m i => f_slices_Index_int.l1 k m xs x (xs.length : Int) (i : Int)) (xs.findIdx (fun y => x == y)) _ (fun m i hi => ?_) (fun m => ?_) k (by omega)
  · have hl : i < xs.length := by omega
    have hn := fi_not hi hl
    simp only [f_slices_Index_int.l1, f_slices_Index_int.b1]
    rw [if_pos (by (first | omega | (dsimp only [Ty.T]; omega) | (simp only [decide_eq_true_eq, decide_eq_false_iff_not, Bool.not_eq_true, Ty.T]; omega) | (simp only [decide_eq_true_eq, decide_eq_false_iff_not, Ty.T]; omega) | (simp only [beq_iff_eq, bne_iff_ne, ne_eq, decide_eq_true_eq, Ty.T]; omega))), if_pos (by omega), if_pos (by omega), att_n (e := .int .i64) xs i hl, if_neg (by rw [Bool.not_eq_true]; exact hn), wsucc2 i (by omega)]
  · simp only [f_slices_Index_int.l1, f_slices_Index_int.b1]
    by_cases hl : xs.findIdx (fun y => x == y) < xs.length
    · have hy := List.findIdx_getElem (w := hl)
      rw [if_pos (by (first | omega | (dsimp only [Ty.T]; omega) | (simp only [decide_eq_true_eq, decide_eq_false_iff_not, Bool.not_eq_true, Ty.T]; omega) | (simp only [decide_eq_true_eq, decide_eq_false_iff_not, Ty.T]; omega) | (simp only [beq_iff_eq, bne_iff_ne, ne_eq, decide_eq_true_eq, Ty.T]; omega))), if_pos (by omega), if_pos (by omega), att_n (e := .int .i64) xs _ hl, if_pos hy, if_pos hl]
    · rw [if_neg (by (first | omega | (dsimp only [Ty.T]; omega) | (simp only [decide_eq_true_eq, decide_eq_false_iff_not, Bool.not_eq_true, Ty.T]; omega) | (simp only [decide_eq_true_eq, decide_eq_false_iff_not, Ty.T]; omega) | (simp only [beq_iff_eq, bne_iff_ne, ne_eq, decide_eq_true_eq, Ty.T]; omega))), if_neg hl]
theorem contains_g (k : Nat) (xs : List Int) (x : Int) (h : xs.length < k) (h2 : xs.length ≤ 9223372036854775807) : f_slices_Contains_int.f k xs x = some (xs.any (fun y => x == y), ()) := by
  unfold f_slices_Contains_int.f
  rw [index_g k xs x h h2, Option.bind_some]
  have key : decide ((if xs.findIdx (fun y => x == y) < xs.length then ((xs.findIdx (fun y => x == y) : Nat) : Int) else -1) ≥ 0) = xs.any (fun y => x == y) := by
    rw [Bool.eq_iff_iff, decide_eq_true_eq, List.any_eq_true]
    by_cases hl : xs.findIdx (fun y => x == y) < xs.length
    · rw [if_pos hl]
      exact ⟨fun _ => ⟨_, List.getElem_mem hl, List.findIdx_getElem (w := hl)⟩, fun _ => by omega⟩
    · rw [if_neg hl]
      exact ⟨fun k => absurd k (by decide), fun ⟨y, h1, h2⟩ => absurd (List.findIdx_lt_length_of_exists ⟨y, h1, h2⟩) hl⟩
  exact congrArg (fun b => some (b, ())) key
theorem contains_eq (xs : List Int) (x : Int) (h : xs.length < 1000) : f_slices_Contains_int.f 1000 xs x = some (xs.any (fun y => x == y), ()) := contains_g 1000 xs x h (by omega)
theorem two_any (ph : Int) : [1, 2, 3].any (fun y => ph == y) = two ph := by
  unfold two
  simp only [List.any_cons, List.any_nil, Bool.or_false, Bool.or_assoc]
theorem clone_g48 (k : Nat) (xs : List Rl) (h : xs.length * 48 ≤ 140737488355328) : f_slices_Clone_Rule.f k xs = some (xs, ()) := by
  unfold f_slices_Clone_Rule.f
  rw [if_pos (by omega), if_pos (Or.inl rfl)]; rfl
theorem conf_g (k : Nat) (x : List (List Rl)) (sw : Int) (h : ∀ l ∈ x, l.length * 48 ≤ 140737488355328) : f_conf_At.f k x sw = some (rulesAt x sw, ()) := by
  unfold f_conf_At.f f_conf_At.j1 rulesAt
  by_cases h0 : sw < 0
  · rw [decide_eq_true h0, if_pos rfl, if_pos rfl, if_neg (by omega)]
  · rw [decide_eq_false h0, if_neg Bool.false_ne_true]
    by_cases h1 : sw < (x.length : Int)
    · obtain ⟨i, rfl⟩ : ∃ i : Nat, sw = (i : Int) := ⟨sw.toNat, by omega⟩
      have hi : i < x.length := by omega
      rw [decide_eq_false (by omega), if_neg Bool.false_ne_true, if_pos (by omega), if_pos h1, if_pos (by omega), att_n (e := .slice T1383) x i hi, clone_g48 k _ (h _ (List.getElem_mem hi))]
      rfl
    · rw [decide_eq_true (by omega), if_pos rfl, if_neg (by omega)]
theorem conf_at (k : Nat) (x : List (List Rl)) (sw : Int) (h : ∀ l ∈ x, l.length < 1000000) : f_conf_At.f k x sw = some (rulesAt x sw, ()) := conf_g k x sw fun l hl => by have := h l hl; omega
theorem rules_len (x : List (List Rl)) (sw : Int) (B : Nat) (h : ∀ l ∈ x, l.length ≤ B) : (rulesAt x sw).length ≤ B := by
  unfold rulesAt
  split
  · rename_i hs
    obtain ⟨i, rfl⟩ : ∃ i : Nat, sw = (i : Int) := ⟨sw.toNat, by omega⟩
    have hi : i < x.length := by omega
    rw [att_n (e := .slice T1383) x i hi]
    exact h _ (List.getElem_mem hi)
  · exact Nat.zero_le _
structure FewC (cs : List (List (List Rl))) (peers : List T23b6.T) (queue done undone : List Int) (given : List T713d.T) : Prop where
  c : cs.length ≤ 12
  p : peers.length ≤ 12
  q : queue.length ≤ 100
  g : given.length ≤ 100
  d : done.length ≤ 100
  u : undone.length ≤ 100
  r : ∀ x ∈ cs, x.length ≤ 10 ∧ ∀ l ∈ x, l.length ≤ 60
  o : ∀ y ∈ peers, y.2.2.2.2.length ≤ 100
abbrev FewOf (c : Ct) : Prop := FewC c.1 c.2.2.2.2.2.2.2.2.1 c.2.2.2.2.2.2.2.1 c.2.2.2.2.2.2.2.2.2.2.1 c.2.2.2.2.2.2.2.2.2.2.2.1 c.2.2.2.2.2.2.2.2.2.1
theorem few12 (x : List (List Rl)) : ∃ b, f_law12_Few.f 1000 x = some (b, ()) ∧ (b = true → x.length ≤ 10 ∧ ∀ l ∈ x, l.length ≤ 60) := by
  unfold f_law12_Few.f
  by_cases h : (x.length : Int) > 10
  · rw [decide_eq_true h, if_pos rfl]
    exact ⟨false, rfl, fun k => absurd k (by decide)⟩
  · rw [decide_eq_false h, if_neg Bool.false_ne_true]
    rcases loop_or (fun m i => f_law12_Few.l1 1000 m x (i : Int)) x.length (fun i => ∀ hi : i < x.length, x[i].length ≤ 60) (some (true, ())) (some (false, ())) (fun m i hi => by
        simp only [f_law12_Few.l1, f_law12_Few.b1]
        rw [if_pos (by (first | omega | (dsimp only [Ty.T]; omega) | (simp only [decide_eq_true_eq, decide_eq_false_iff_not, Bool.not_eq_true, Ty.T]; omega) | (simp only [decide_eq_true_eq, decide_eq_false_iff_not, Ty.T]; omega) | (simp only [beq_iff_eq, bne_iff_ne, ne_eq, decide_eq_true_eq, Ty.T]; omega))), if_pos (by omega), if_pos (by omega), att_n (e := .slice T1383) x i hi, wsucc i (by omega)]
        by_cases hc : (x[i].length : Int) > 60
        · right
          exact if_pos (decide_eq_true hc)
        · left
          exact ⟨fun _ => by omega, if_neg (by simpa using hc)⟩) (fun _ m => by
        simp only [f_law12_Few.l1, f_law12_Few.b1]
        rw [if_neg (by (first | omega | (dsimp only [Ty.T]; omega) | (simp only [decide_eq_true_eq, decide_eq_false_iff_not, Bool.not_eq_true, Ty.T]; omega) | (simp only [decide_eq_true_eq, decide_eq_false_iff_not, Ty.T]; omega) | (simp only [beq_iff_eq, bne_iff_ne, ne_eq, decide_eq_true_eq, Ty.T]; omega)))]) 1000 (by omega) with h | h
    · refine ⟨true, h.2, fun _ => ⟨by omega, fun l hl => ?_⟩⟩
      obtain ⟨i, hi, rfl⟩ := List.getElem_of_mem hl
      exact h.1 i hi hi
    · exact ⟨false, h, fun k => absurd k (by decide)⟩
theorem fewC (c : Ct) : ∃ b, f_law21_Few.f 1000 c = some (b, ()) ∧ (b = true → FewOf c) := by
  obtain ⟨cs, live, next, tag, new, ph, timer, queue, peers, given, done, undone, junk⟩ := c
  have nope : ∃ b, (some (false, ()) : Option f_law21_Few.R) = some (b, ()) ∧ (b = true → FewOf (cs, live, next, tag, new, ph, timer, queue, peers, given, done, undone, junk)) := ⟨false, rfl, fun k => absurd k (by decide)⟩
  unfold f_law21_Few.f f_law21_Few.j1
  dsimp only
  by_cases h1 : (cs.length : Int) > 12
  · rw [decide_eq_true h1, if_pos rfl, if_pos rfl]; exact nope
  rw [decide_eq_false h1, if_neg Bool.false_ne_true]
  by_cases h2 : (peers.length : Int) > 12
  · rw [decide_eq_true h2, if_pos rfl, if_pos rfl]; exact nope
  rw [decide_eq_false h2, if_neg Bool.false_ne_true]
  by_cases h3 : (queue.length : Int) > 100
  · rw [decide_eq_true h3, if_pos rfl, if_pos rfl]; exact nope
  rw [decide_eq_false h3, if_neg Bool.false_ne_true]
  by_cases h4 : (given.length : Int) > 100
  · rw [decide_eq_true h4, if_pos rfl, if_pos rfl]; exact nope
  rw [decide_eq_false h4, if_neg Bool.false_ne_true]
  by_cases h5 : (done.length : Int) > 100
  · rw [decide_eq_true h5, if_pos rfl, if_pos rfl]; exact nope
  rw [decide_eq_false h5, if_neg Bool.false_ne_true]
  by_cases h6 : (undone.length : Int) > 100
  · rw [decide_eq_true h6, if_pos rfl]; exact nope
  rw [decide_eq_false h6, if_neg Bool.false_ne_true]
  generalize hC : ((cs, live, next, tag, new, ph, timer, queue, peers, given, done, undone, junk) : Ct) = C at *
  have e1 : C.1 = cs := by rw [← hC]
  have e2 : C.2.2.2.2.2.2.2.2.1 = peers := by rw [← hC]
  have inner : (∀ i (hi : i < cs.length), cs[i].length ≤ 10 ∧ ∀ l ∈ cs[i], l.length ≤ 60) → ∃ b, f_law21_Few.l3 C 1000 1000 0 = some (b, ()) ∧ (b = true → FewOf C) := by
    intro hr
    rcases loop_or (fun m i => f_law21_Few.l3 C 1000 m (i : Int)) peers.length (fun i => ∀ hi : i < peers.length, peers[i].2.2.2.2.length ≤ 100) (some (true, ())) (some (false, ())) (fun m i hi => by
        simp only [f_law21_Few.l3, f_law21_Few.b3]
        rw [e2, if_pos (by (first | omega | (dsimp only [Ty.T]; omega) | (simp only [decide_eq_true_eq, decide_eq_false_iff_not, Bool.not_eq_true, Ty.T]; omega) | (simp only [decide_eq_true_eq, decide_eq_false_iff_not, Ty.T]; omega) | (simp only [beq_iff_eq, bne_iff_ne, ne_eq, decide_eq_true_eq, Ty.T]; omega))), if_pos (by omega), if_pos (by omega), att_n (e := T23b6) peers i hi, wsucc i (by omega)]
        by_cases hc : (peers[i].2.2.2.2.length : Int) > 100
        · right
          exact if_pos (decide_eq_true hc)
        · left
          exact ⟨fun _ => by omega, if_neg (by simpa using hc)⟩) (fun _ m => by
        simp only [f_law21_Few.l3, f_law21_Few.b3]
        rw [e2, if_neg (by (first | omega | (dsimp only [Ty.T]; omega) | (simp only [decide_eq_true_eq, decide_eq_false_iff_not, Bool.not_eq_true, Ty.T]; omega) | (simp only [decide_eq_true_eq, decide_eq_false_iff_not, Ty.T]; omega) | (simp only [beq_iff_eq, bne_iff_ne, ne_eq, decide_eq_true_eq, Ty.T]; omega)))]) 1000 (by omega) with h | h
    · refine ⟨true, h.2, fun _ => ?_⟩
      rw [← hC]
      exact ⟨by dsimp only; omega, by dsimp only; omega, by dsimp only; omega, by dsimp only; omega, by dsimp only; omega, by dsimp only; omega, fun x hx => by
        obtain ⟨i, hi, rfl⟩ := List.getElem_of_mem hx
        exact hr i hi, fun y hy => by
        obtain ⟨i, hi, rfl⟩ := List.getElem_of_mem hy
        exact h.1 i hi hi⟩
    · exact ⟨false, h, fun k => absurd k (by decide)⟩
  rcases loop_or (fun m i => f_law21_Few.l2 C 1000 m (i : Int)) cs.length (fun i => ∀ hi : i < cs.length, cs[i].length ≤ 10 ∧ ∀ l ∈ cs[i], l.length ≤ 60) (f_law21_Few.l3 C 1000 1000 0) (some (false, ())) (fun m i hi => by
      simp only [f_law21_Few.l2, f_law21_Few.b2]
      rw [e1, if_pos (by (first | omega | (dsimp only [Ty.T]; omega) | (simp only [decide_eq_true_eq, decide_eq_false_iff_not, Bool.not_eq_true, Ty.T]; omega) | (simp only [decide_eq_true_eq, decide_eq_false_iff_not, Ty.T]; omega) | (simp only [beq_iff_eq, bne_iff_ne, ne_eq, decide_eq_true_eq, Ty.T]; omega))), if_pos (by omega), if_pos (by omega), att_n (e := .slice (.slice T1383)) cs i hi, wsucc i (by omega)]
      obtain ⟨b, hb, hb2⟩ := few12 cs[i]
      rw [hb, Option.bind_some]
      cases b with
      | false => right; rfl
      | true => left; exact ⟨fun _ => hb2 rfl, rfl⟩) (fun _ m => by
      simp only [f_law21_Few.l2, f_law21_Few.b2]
      rw [e1, if_neg (by (first | omega | (dsimp only [Ty.T]; omega) | (simp only [decide_eq_true_eq, decide_eq_false_iff_not, Bool.not_eq_true, Ty.T]; omega) | (simp only [decide_eq_true_eq, decide_eq_false_iff_not, Ty.T]; omega) | (simp only [beq_iff_eq, bne_iff_ne, ne_eq, decide_eq_true_eq, Ty.T]; omega)))]) 1000 (by omega) with h | h
  · obtain ⟨b, hb, hb2⟩ := inner fun i hi => h.1 i hi hi
    exact ⟨b, h.2.trans hb, hb2⟩
  · exact ⟨false, h, fun k => absurd k (by decide)⟩
theorem sess_new (k : Nat) (e : Int) : f_sess_New.f k e = some ((e, (1, [])), ()) := rfl
theorem att_set {e : Ty} (xs : List e.T) (z : e.T) {i : Int} (h0 : 0 ≤ i) (h1 : i < (xs.length : Int)) : att e (xs.set i.toNat z) i = z := by
  unfold att
  rw [List.getElem?_set_self (by omega)]
  rfl
theorem att_mem {e : Ty} (xs : List e.T) {i : Int} (h0 : 0 ≤ i) (h1 : i < (xs.length : Int)) : att e xs i ∈ xs := by
  obtain ⟨j, rfl⟩ : ∃ j : Nat, i = (j : Int) := ⟨i.toNat, by omega⟩
  rw [att_n xs j (by omega)]
  exact List.getElem_mem _
theorem lvs_len (cs : List (List (List Rl))) (live next tag new ph sw : Int) : (lvs cs live next tag new ph sw).length ≤ 2 := by
  unfold lvs
  split
  · split <;> simp
  · simp
theorem lvs_each {cs : List (List (List Rl))} {live next ph : Int} (hr : ∀ x ∈ cs, ∀ l ∈ x, l.length ≤ 60) (h0 : 0 ≤ live) (h1 : live < (cs.length : Int)) (h2 : two ph = true → 0 ≤ next ∧ next < (cs.length : Int)) (tag new sw : Int) : ∀ v ∈ lvs cs live next tag new ph sw, v.2.length ≤ 60 := by
  have a1 : (rulesAt (att (.slice (.slice T1383)) cs live) sw).length ≤ 60 := rules_len _ _ _ (hr _ (att_mem (e := .slice (.slice T1383)) cs h0 h1))
  intro v hv
  unfold lvs at hv
  split at hv
  · rename_i ht
    have a2 : (rulesAt (att (.slice (.slice T1383)) cs next) sw).length ≤ 60 := rules_len _ _ _ (hr _ (att_mem (e := .slice (.slice T1383)) cs (h2 ht).1 (h2 ht).2))
    split at hv
    · rcases List.mem_cons.1 hv with rfl | hv
      · exact a2
      · rw [List.mem_singleton.1 hv]; exact a1
    · rcases List.mem_cons.1 hv with rfl | hv
      · exact a1
      · rw [List.mem_singleton.1 hv]; exact a2
  · rw [List.mem_singleton.1 hv]; exact a1
theorem size_two {l : List Vr} (h : l.length ≤ 2) (hr : ∀ v ∈ l, v.2.length ≤ 60) : sizeOf' l ≤ 120 := by
  match l, h, hr with
  | [], _, _ => simp [sizeOf']
  | [a], _, hr =>
    have := hr a (by simp)
    rw [size_cons]
    simp only [sizeOf', List.map_nil, List.sum_nil]
    omega
  | [a, b], _, hr =>
    have := hr a (by simp)
    have := hr b (by simp)
    rw [size_cons, size_cons]
    simp only [sizeOf', List.map_nil, List.sum_nil]
    omega
noncomputable def helloP (peers : List T23b6.T) (sw : Int) (m : Mg) (l : List Vr) (stamp : Int) : List T23b6.T := if m.2.1 > (att T23b6 peers sw).1 then peers.set sw.toNat (m.2.1, (0, pushed (m.2.1, (1, [])) (syncOf l stamp) (syncOf l stamp).length)) else peers
noncomputable def ackP (peers : List T23b6.T) (sw : Int) (m : Mg) : List T23b6.T := if m.2.1 = (att T23b6 peers sw).1 ∧ m.2.2.1 ≥ IntKind.i64.wrap (IntKind.i64.wrap ((att T23b6 peers sw).2.2.2.1 - 1) - ((att T23b6 peers sw).2.2.2.2.length : Int)) ∧ m.2.2.1 < (att T23b6 peers sw).2.2.2.1 then peers.set sw.toNat ((att T23b6 peers sw).1, (m.2.2.2.1, sdone (att T23b6 peers sw).2.2 m.2.1 m.2.2.1)) else peers
theorem qi_control_controller_two_f7e (x1 : Int) (x2 : Int) (x3 : Int) (x4 : Int) (x5 : Int) (x6 : Int) (x7 : Int) (x8 : Int) (x9 : Int) (x10 : Int) (x11 : Int) (x12 : Int) (x13 : Int) (x14 : Int) (x15 : List (List (List T1383.T))) (x16 : List Int) (x17 : List T23b6.T) (x18 : List T713d.T) (x19 : List Int) (x20 : List Int) : i_control_controller_two_f7e.f 1000 x1 x2 x3 x4 x5 x6 x7 x8 x9 x10 x11 x12 x13 x14 x15 x16 x17 x18 x19 x20 = some (two x12, ()) := by
  unfold i_control_controller_two_f7e.f
  rw [contains_eq [1, 2, 3] x12 (by decide), Option.bind_some]
  exact congrArg (fun b => some (b, ())) (two_any x12)
theorem qi_control_controller_is_1_29c (x1 : Int) (x2 : Int) (x3 : Int) (x4 : Int) (x5 : Int) (x6 : Int) (x7 : Int) (x8 : Int) (x9 : Int) (x10 : Int) (x11 : Int) (x12 : Int) (x13 : Int) (x14 : Int) (x15 : Int) (x16 : List (List (List T1383.T))) (x17 : List Int) (x18 : List T23b6.T) (x19 : List T713d.T) (x20 : List Int) (x21 : List Int) : i_control_controller_is_1_29c.f 1000 x1 x2 x3 x4 x5 x6 x7 x8 x9 x10 x11 x12 x13 x14 x15 x16 x17 x18 x19 x20 x21 = some (!inR x16.length x1, ()) := by
  unfold i_control_controller_is_1_29c.f inR
  by_cases h0 : x1 < 0
  · rw [decide_eq_true h0, if_pos rfl, decide_eq_false (by omega)]; rfl
  · rw [decide_eq_false h0, if_neg Bool.false_ne_true]
    by_cases h1 : x1 < (x16.length : Int)
    · rw [decide_eq_false (by omega), decide_eq_true (by omega)]; rfl
    · rw [decide_eq_true (by omega), decide_eq_false (by omega)]; rfl
theorem qi_slices_ContainsFunc_int_024 (x1 : Int) (x2 : Int) (x3 : Int) (x4 : Int) (x5 : Int) (x6 : Int) (x7 : Int) (x8 : Int) (x9 : Int) (x10 : Int) (x11 : Int) (x12 : Int) (x13 : Int) (x14 : Int) (x15 : List (List (List T1383.T))) (x16 : List Int) (x17 : List T23b6.T) (x18 : List T713d.T) (x19 : List Int) (x20 : List Int) (h : x16.length < 1000) : i_slices_ContainsFunc_int_024.f 1000 x1 x2 x3 x4 x5 x6 x7 x8 x9 x10 x11 x12 x13 x14 x15 x16 x17 x18 x19 x20 = some (x16.any (fun q => !inR x15.length q), ()) := by
  unfold i_slices_ContainsFunc_int_024.f i_slices_IndexFunc_int_024.f
  have hle : x16.findIdx (fun q => !inR x15.length q) ≤ x16.length := List.findIdx_le_length
  refine loop (fun m i => (i_slices_IndexFunc_int_024.l1 x1 x2 x3 x4 x5 x6 x7 x8 x9 x10 x11 x12 x13 x14 x15 x16 x17 x18 x19 x20 1000 m (x16.length : Int) (i : Int)).bind fun y1 => some (decide (y1.1 ≥ (0 : Int)), ())) (x16.findIdx (fun q => !inR x15.length q)) _ (fun m i hi => ?_) (fun m => ?_) 1000 (by omega)
  · have hl : i < x16.length := by omega
    have hn := fi_not hi hl
    simp only [i_slices_IndexFunc_int_024.l1, i_slices_IndexFunc_int_024.b1]
    rw [if_pos (by (first | omega | (dsimp only [Ty.T]; omega) | (simp only [decide_eq_true_eq, decide_eq_false_iff_not, Bool.not_eq_true, Ty.T]; omega) | (simp only [decide_eq_true_eq, decide_eq_false_iff_not, Ty.T]; omega) | (simp only [beq_iff_eq, bne_iff_ne, ne_eq, decide_eq_true_eq, Ty.T]; omega))), if_pos (by omega), if_pos (by omega), att_n (e := .int .i64) x16 i hl, qi_control_controller_is_1_29c, Option.bind_some, if_neg (by rw [Bool.not_eq_true]; exact hn), wsucc i (by omega)]
  · simp only [i_slices_IndexFunc_int_024.l1, i_slices_IndexFunc_int_024.b1]
    by_cases hl : x16.findIdx (fun q => !inR x15.length q) < x16.length
    · have hy := List.findIdx_getElem (w := hl)
      rw [if_pos (by (first | omega | (dsimp only [Ty.T]; omega) | (simp only [decide_eq_true_eq, decide_eq_false_iff_not, Bool.not_eq_true, Ty.T]; omega) | (simp only [decide_eq_true_eq, decide_eq_false_iff_not, Ty.T]; omega) | (simp only [beq_iff_eq, bne_iff_ne, ne_eq, decide_eq_true_eq, Ty.T]; omega))), if_pos (by omega), if_pos (by omega), att_n (e := .int .i64) x16 _ hl, qi_control_controller_is_1_29c, Option.bind_some, if_pos hy, Option.bind_some, decide_eq_true (by omega)]
      exact congrArg (fun b => some (b, ())) (List.any_eq_true.2 ⟨_, List.getElem_mem hl, hy⟩).symm
    · rw [if_neg (by (first | omega | (dsimp only [Ty.T]; omega) | (simp only [decide_eq_true_eq, decide_eq_false_iff_not, Bool.not_eq_true, Ty.T]; omega) | (simp only [decide_eq_true_eq, decide_eq_false_iff_not, Ty.T]; omega) | (simp only [beq_iff_eq, bne_iff_ne, ne_eq, decide_eq_true_eq, Ty.T]; omega))), Option.bind_some, decide_eq_false (by decide)]
      refine congrArg (fun b => some (b, ())) (Eq.symm ?_)
      rw [Bool.eq_false_iff]
      intro hc
      obtain ⟨y, h1, h2⟩ := List.any_eq_true.1 hc
      exact absurd (List.findIdx_lt_length_of_exists ⟨y, h1, h2⟩) hl
theorem qi_control_controller_is_559 (x1 : Int) (x2 : Int) (x3 : Int) (x4 : Int) (x5 : Int) (x6 : Int) (x7 : Int) (x8 : Int) (x9 : Int) (x10 : Int) (x11 : Int) (x12 : Int) (x13 : Int) (x14 : Int) (x15 : List (List (List T1383.T))) (x16 : List Int) (x17 : List T23b6.T) (x18 : List T713d.T) (x19 : List Int) (x20 : List Int) (h : x16.length < 1000) : i_control_controller_is_559.f 1000 x1 x2 x3 x4 x5 x6 x7 x8 x9 x10 x11 x12 x13 x14 x15 x16 x17 x18 x19 x20 = some (isB x15.length x8 x9 x12 x16 x17.length, ()) := by
  unfold i_control_controller_is_559.f
  have j : ∀ p, i_control_controller_is_559.j1 x1 x2 x3 x4 x5 x6 x7 x8 x9 x10 x11 x12 x13 x14 x15 x16 x17 x18 x19 x20 1000 p = some (p && (inR x15.length x8 && (!x16.any (fun q => !inR x15.length q) && decide ((x17.length : Int) ≤ 100))), ()) := by
    intro p
    unfold i_control_controller_is_559.j1
    cases p
    · rfl
    rw [if_pos rfl, qi_control_controller_is_1_29c, Option.bind_some, qi_slices_ContainsFunc_int_024 (h := h)]
    cases inR x15.length x8
    · rfl
    cases x16.any (fun q => !inR x15.length q)
    · rfl
    · rfl
  simp only [j, qi_control_controller_is_1_29c, qi_control_controller_two_f7e, Option.bind_some]
  unfold isB
  cases x9 == -1
  · rw [if_neg Bool.false_ne_true]
    cases inR x15.length x9 <;> rfl
  · rw [if_pos rfl]
    cases two x12 <;> cases inR x15.length x9 <;> rfl
theorem qi_control_controller_two_234 (x1 : Int) (x2 : Int) (x3 : Int) (x4 : Int) (x5 : Int) (x6 : Int) (x7 : Int) (x8 : Int) (x9 : Int) (x10 : Int) (x11 : Int) (x12 : Int) (x13 : Int) (x14 : Int) (x15 : T4414.T) (x16 : List (List (List T1383.T))) (x17 : List Int) (x18 : List T23b6.T) (x19 : List T713d.T) (x20 : List Int) (x21 : List Int) (x22 : T4414.T) : i_control_controller_two_234.f 1000 x1 x2 x3 x4 x5 x6 x7 x8 x9 x10 x11 x12 x13 x14 x15 x16 x17 x18 x19 x20 x21 x22 = some (two x12, ()) := by
  unfold i_control_controller_two_234.f
  rw [contains_eq [1, 2, 3] x12 (by decide), Option.bind_some]
  exact congrArg (fun b => some (b, ())) (two_any x12)
theorem qi_slices_SortStableFunc_Ver_18c (x1 : Int) (x2 : Int) (x3 : Int) (x4 : Int) (x5 : Int) (x6 : Int) (x7 : Int) (x8 : Int) (x9 : Int) (x10 : Int) (x11 : Int) (x12 : Int) (x13 : Int) (x14 : Int) (x15 : T4414.T) (x16 : List (List (List T1383.T))) (x17 : List Int) (x18 : List T23b6.T) (x19 : List T713d.T) (x20 : List Int) (x21 : List Int) (x22 : T4414.T) (u v : Vr) : i_slices_SortStableFunc_Ver_18c.f 1000 x1 x2 x3 x4 x5 x6 x7 x8 x9 x10 x11 x12 x13 x14 x15 x16 x17 x18 x19 x20 x21 x22 [u, v] = some (if v.1 < u.1 then [v, u] else [u, v], ()) := by
  have hc : ∀ (x3 : Int) (x4 : Int) (x5 : Int) (x6 : Int) (x7 : Int) (x8 : Int) (x9 : Int) (x10 : Int) (x11 : Int) (x12 : Int) (x13 : Int) (x14 : Int) (x15 : Int) (x16 : Int) (x17 : T4414.T) (x18 : List (List (List T1383.T))) (x19 : List Int) (x20 : List T23b6.T) (x21 : List T713d.T) (x22 : List Int) (x23 : List Int) (x24 : T4414.T) (x25 : List T814c.T), i_control_controller_live_1_90e.f 1000 v u x3 x4 x5 x6 x7 x8 x9 x10 x11 x12 x13 x14 x15 x16 x17 x18 x19 x20 x21 x22 x23 x24 x25 = some (if v.1 < u.1 then -1 else if v.1 > u.1 then 1 else 0, ()) := by
    intros
    unfold i_control_controller_live_1_90e.f
    by_cases h1 : v.1 < u.1
    · rw [if_pos (decide_eq_true h1), if_pos h1]
    · rw [if_neg (by rw [decide_eq_false h1]; exact Bool.false_ne_true), if_neg h1]
      by_cases h2 : v.1 > u.1
      · rw [if_pos (decide_eq_true h2), if_pos h2]
      · rw [if_neg (by rw [decide_eq_false h2]; exact Bool.false_ne_true), if_neg h2]
  unfold i_slices_SortStableFunc_Ver_18c.f i_slices_stableCmpFunc_Ver_dbc.f i_slices_stableCmpFunc_Ver_dbc.l1
  dsimp only
  unfold i_slices_stableCmpFunc_Ver_dbc.b1
  rw [if_neg (by exact Bool.false_ne_true)]
  unfold i_slices_insertionSortCmpFunc_Ver_6b1.f i_slices_insertionSortCmpFunc_Ver_6b1.l1
  dsimp only
  unfold i_slices_insertionSortCmpFunc_Ver_6b1.b1
  rw [if_pos (by exact rfl)]
  unfold i_slices_insertionSortCmpFunc_Ver_6b1.l2
  dsimp only
  unfold i_slices_insertionSortCmpFunc_Ver_6b1.b2
  rw [if_pos (by exact rfl), if_pos (by exact of_decide_eq_true rfl), if_pos (by exact of_decide_eq_true rfl), if_pos (by exact of_decide_eq_true rfl), if_pos (by exact of_decide_eq_true rfl), show att T814c [u, v] (IntKind.i64.wrap (0 + 1)) = v from rfl, show att T814c [u, v] (IntKind.i64.wrap (IntKind.i64.wrap (0 + 1) - 1)) = u from rfl, hc]
  by_cases h1 : v.1 < u.1
  · rw [if_pos h1, if_pos h1]
    show _ = _
    kernel_rfl
  · rw [if_neg h1, if_neg h1]
    by_cases h2 : v.1 > u.1
    · rw [if_pos h2]
      show _ = _
      kernel_rfl
    · rw [if_neg h2]
      show _ = _
      kernel_rfl
theorem qi_control_controller_flips_854 (x1 : Int) (x2 : Int) (x3 : Int) (x4 : Int) (x5 : Int) (x6 : Int) (x7 : Int) (x8 : Int) (x9 : Int) (x10 : Int) (x11 : Int) (x12 : Int) (x13 : Int) (x14 : Int) (x15 : T4414.T) (x16 : List (List (List T1383.T))) (x17 : List Int) (x18 : List T23b6.T) (x19 : List T713d.T) (x20 : List Int) (x21 : List Int) (x22 : T4414.T) (x23 : List T814c.T) : i_control_controller_flips_854.f 1000 x1 x2 x3 x4 x5 x6 x7 x8 x9 x10 x11 x12 x13 x14 x15 x16 x17 x18 x19 x20 x21 x22 x23 = some (decide (x12 = 2 ∨ x12 = 3), ()) := by
  unfold i_control_controller_flips_854.f
  by_cases h2 : x12 = 2
  · rw [if_pos (beq_iff_eq.2 h2), decide_eq_true (.inl h2)]
  · rw [if_neg (by rw [beq_iff_eq]; exact h2)]
    by_cases h3 : x12 = 3
    · rw [beq_iff_eq.2 h3, decide_eq_true (.inr h3)]
    · rw [beq_eq_false_iff_ne.2 h3, decide_eq_false (by intro h; cases h with | inl h => exact h2 h | inr h => exact h3 h)]
theorem qi_control_controller_flips_234 (x1 : Int) (x2 : Int) (x3 : Int) (x4 : Int) (x5 : Int) (x6 : Int) (x7 : Int) (x8 : Int) (x9 : Int) (x10 : Int) (x11 : Int) (x12 : Int) (x13 : Int) (x14 : Int) (x15 : T4414.T) (x16 : List (List (List T1383.T))) (x17 : List Int) (x18 : List T23b6.T) (x19 : List T713d.T) (x20 : List Int) (x21 : List Int) (x22 : T4414.T) : i_control_controller_flips_234.f 1000 x1 x2 x3 x4 x5 x6 x7 x8 x9 x10 x11 x12 x13 x14 x15 x16 x17 x18 x19 x20 x21 x22 = some (decide (x12 = 2 ∨ x12 = 3), ()) := by
  unfold i_control_controller_flips_234.f
  by_cases h2 : x12 = 2
  · rw [if_pos (beq_iff_eq.2 h2), decide_eq_true (.inl h2)]
  · rw [if_neg (by rw [beq_iff_eq]; exact h2)]
    by_cases h3 : x12 = 3
    · rw [beq_iff_eq.2 h3, decide_eq_true (.inr h3)]
    · rw [beq_eq_false_iff_ne.2 h3, decide_eq_false (by intro h; cases h with | inl h => exact h2 h | inr h => exact h3 h)]
theorem qi_control_controller_live_eda (x1 : Int) (x2 : Int) (x3 : Int) (x4 : Int) (x5 : Int) (x6 : Int) (x7 : Int) (x8 : Int) (x9 : Int) (x10 : Int) (x11 : Int) (x12 : Int) (x13 : Int) (x14 : Int) (x15 : Int) (x16 : T4414.T) (x17 : List (List (List T1383.T))) (x18 : List Int) (x19 : List T23b6.T) (x20 : List T713d.T) (x21 : List Int) (x22 : List Int) (x23 : T4414.T) (h0 : 0 ≤ x9) (h1 : x9 < (x17.length : Int)) (h2 : two x13 = true → 0 ≤ x10 ∧ x10 < (x17.length : Int)) (hr : ∀ x ∈ x17, ∀ l ∈ x, l.length < 1000000) : i_control_controller_live_eda.f 1000 x1 x2 x3 x4 x5 x6 x7 x8 x9 x10 x11 x12 x13 x14 x15 x16 x17 x18 x19 x20 x21 x22 x23 = some (lvs x17 x9 x10 x11 x12 x13 x1, (stampOf x11 x12 x13, ())) := by
  unfold i_control_controller_live_eda.f lvs stampOf
  rw [if_pos h0, if_pos h1, conf_at 1000 _ _ (hr _ (att_mem _ h0 h1)), Option.bind_some, qi_control_controller_two_234, Option.bind_some]
  by_cases ht : two x13 = true
  · obtain ⟨h3, h4⟩ := h2 ht
    rw [if_pos ht, if_pos ht, if_pos h3, if_pos h4, conf_at 1000 _ _ (hr _ (att_mem _ h3 h4)), Option.bind_some, qi_slices_SortStableFunc_Ver_18c, Option.bind_some]
    unfold i_control_controller_live_eda.j2
    rw [qi_control_controller_flips_854, Option.bind_some]
    by_cases hf : x13 = 2 ∨ x13 = 3
    · rw [decide_eq_true hf, if_pos hf]; rfl
    · rw [decide_eq_false hf, if_neg hf]; rfl
  · rw [if_neg ht, if_neg ht]
    unfold i_control_controller_live_eda.j3
    rw [qi_control_controller_flips_234, Option.bind_some]
    by_cases hf : x13 = 2 ∨ x13 = 3
    · rw [decide_eq_true hf, if_pos hf]; rfl
    · rw [decide_eq_false hf, if_neg hf]; rfl
theorem qf_slices_Clone_Rule (a1 : List T1383.T) (h : a1.length < 1000000) : f_slices_Clone_Rule.f 1000 a1 = some (a1, ()) := by
  unfold f_slices_Clone_Rule.f
  rw [if_pos (by omega), if_pos (.inl rfl)]
  rfl
theorem qf_slices_Clone_Msg (a1 : List T4414.T) (h : a1.length < 1000000) : f_slices_Clone_Msg.f 1000 a1 = some (a1, ()) := by
  unfold f_slices_Clone_Msg.f
  rw [if_pos (by omega), if_pos (.inl rfl)]
  rfl
theorem qf_slices_Clone_intO (a1 : List Int) (h : a1.length < 1000000) : f_slices_Clone_intO.f 1000 a1 = some (a1, ()) := by
  unfold f_slices_Clone_intO.f
  rw [if_pos (by omega), if_pos (.inl rfl)]
  rfl
theorem qf_slices_Clone_GivenO (a1 : List T713d.T) (h : a1.length < 1000000) : f_slices_Clone_GivenO.f 1000 a1 = some (a1, ()) := by
  unfold f_slices_Clone_GivenO.f
  rw [if_pos (by omega), if_pos (.inl rfl)]
  rfl
theorem qf_slices_Clone_Conf_RuleO (a1 : List (List T1383.T)) (h : a1.length < 1000000) : f_slices_Clone_Conf_RuleO.f 1000 a1 = some (a1, ()) := by
  unfold f_slices_Clone_Conf_RuleO.f
  rw [if_pos (by omega), if_pos (.inl rfl)]
  rfl
theorem qf_slices_Clone_PeerO (a1 : List T23b6.T) (h : a1.length < 1000000) : f_slices_Clone_PeerO.f 1000 a1 = some (a1, ()) := by
  unfold f_slices_Clone_PeerO.f
  rw [if_pos (by omega), if_pos (.inl rfl)]
  rfl
theorem qf_slices_Clone_ConfO (a1 : List (List (List T1383.T))) (h : a1.length < 1000000) : f_slices_Clone_ConfO.f 1000 a1 = some (a1, ()) := by
  unfold f_slices_Clone_ConfO.f
  rw [if_pos (by omega), if_pos (.inl rfl)]
  rfl
theorem qi_control_own_776m (x1 : T26b3.T) (x2 : T26b3.T) (x3 : Int) (x4 : Int) (x5 : Int) (x6 : Int) (x7 : Int) (x8 : Int) (x9 : Int) (h : FewOf x1) : i_control_own_776m.f 1000 x1 x2 x3 x4 x5 x6 x7 x8 x9 = some (x1.2.1, (x1.2.2.1, (x1.2.2.2.1, (x1.2.2.2.2.1, (x1.2.2.2.2.2.1, (x1.2.2.2.2.2.2.1, (x1.2.2.2.2.2.2.2.2.2.2.2.2, (x1.1, (x1.2.2.2.2.2.2.2.1, (x1.2.2.2.2.2.2.2.2.1, (x1.2.2.2.2.2.2.2.2.2.1, (x1.2.2.2.2.2.2.2.2.2.2.1, (x1.2.2.2.2.2.2.2.2.2.2.2.1, ()))))))))))))) := by
  have f1 := h.c
  have f2 := h.p
  unfold i_control_own_776m.f
  rw [qf_slices_Clone_ConfO (h := by omega), Option.bind_some]
  refine loop (fun m i => i_control_own_776m.l1 x2 x3 x4 x5 x6 x7 x8 x9 1000 m (x1.1.length : Int) (i : Int) x1.2.1 x1.2.2.1 x1.2.2.2.1 x1.2.2.2.2.1 x1.2.2.2.2.2.1 x1.2.2.2.2.2.2.1 x1.2.2.2.2.2.2.2.1 x1.2.2.2.2.2.2.2.2.1 x1.2.2.2.2.2.2.2.2.2.1 x1.2.2.2.2.2.2.2.2.2.2.1 x1.2.2.2.2.2.2.2.2.2.2.2.1 x1.2.2.2.2.2.2.2.2.2.2.2.2 x1.1) x1.1.length _ (fun m i hi => ?_) (fun m => ?_) 1000 (by omega)
  · have hx := h.r _ (List.getElem_mem hi)
    have hx1 : x1.1[i].length ≤ 10 := hx.1
    simp only [i_control_own_776m.l1, i_control_own_776m.b1]
    rw [if_pos (by (first | omega | (dsimp only [Ty.T]; omega) | (simp only [decide_eq_true_eq, decide_eq_false_iff_not, Bool.not_eq_true, Ty.T]; omega) | (simp only [decide_eq_true_eq, decide_eq_false_iff_not, Ty.T]; omega) | (simp only [beq_iff_eq, bne_iff_ne, ne_eq, decide_eq_true_eq, Ty.T]; omega))), if_pos (by omega), if_pos (by omega), att_n (e := .slice (.slice T1383)) x1.1 i hi, qf_slices_Clone_Conf_RuleO (h := by omega), Option.bind_some]
    refine loop (fun q j => i_control_own_776m.l2 x2 x3 x4 x5 x6 x7 x8 x9 (i_control_own_776m.l1 x2 x3 x4 x5 x6 x7 x8 x9 1000 m) 1000 q (i : Int) (x1.1.length : Int) (i : Int) ((x1.1[i]).length : Int) (j : Int) x1.2.1 x1.2.2.1 x1.2.2.2.1 x1.2.2.2.2.1 x1.2.2.2.2.2.1 x1.2.2.2.2.2.2.1 x1.2.2.2.2.2.2.2.1 x1.2.2.2.2.2.2.2.2.1 x1.2.2.2.2.2.2.2.2.2.1 x1.2.2.2.2.2.2.2.2.2.2.1 x1.2.2.2.2.2.2.2.2.2.2.2.1 x1.2.2.2.2.2.2.2.2.2.2.2.2 x1.1[i] x1.1) (x1.1[i]).length _ (fun q j hj => ?_) (fun q => ?_) 1000 (by omega)
    · have hy := hx.2 _ (List.getElem_mem hj)
      simp only [i_control_own_776m.l2, i_control_own_776m.b2]
      rw [if_pos (by (first | omega | (dsimp only [Ty.T]; omega) | (simp only [decide_eq_true_eq, decide_eq_false_iff_not, Bool.not_eq_true, Ty.T]; omega) | (simp only [decide_eq_true_eq, decide_eq_false_iff_not, Ty.T]; omega) | (simp only [beq_iff_eq, bne_iff_ne, ne_eq, decide_eq_true_eq, Ty.T]; omega))), if_pos (by omega), if_pos (by omega), att_n (e := .slice T1383) x1.1[i] j hj, qf_slices_Clone_Rule (h := by omega), Option.bind_some, wsucc j (by omega), Int.toNat_natCast, List.set_getElem_self]
    · simp only [i_control_own_776m.l2, i_control_own_776m.b2]
      rw [if_neg (by (first | omega | (dsimp only [Ty.T]; omega) | (simp only [decide_eq_true_eq, decide_eq_false_iff_not, Bool.not_eq_true, Ty.T]; omega) | (simp only [decide_eq_true_eq, decide_eq_false_iff_not, Ty.T]; omega) | (simp only [beq_iff_eq, bne_iff_ne, ne_eq, decide_eq_true_eq, Ty.T]; omega))), if_pos (by omega), if_pos (by omega), wsucc i (by omega), Int.toNat_natCast, List.set_getElem_self]
  · simp only [i_control_own_776m.l1, i_control_own_776m.b1]
    rw [if_neg (by (first | omega | (dsimp only [Ty.T]; omega) | (simp only [decide_eq_true_eq, decide_eq_false_iff_not, Bool.not_eq_true, Ty.T]; omega) | (simp only [decide_eq_true_eq, decide_eq_false_iff_not, Ty.T]; omega) | (simp only [beq_iff_eq, bne_iff_ne, ne_eq, decide_eq_true_eq, Ty.T]; omega))), qf_slices_Clone_PeerO (h := by omega), Option.bind_some]
    refine loop (fun m i => i_control_own_776m.l3 x2 x3 x4 x5 x6 x7 x8 x9 1000 m (x1.2.2.2.2.2.2.2.2.1.length : Int) (i : Int) x1.2.1 x1.2.2.1 x1.2.2.2.1 x1.2.2.2.2.1 x1.2.2.2.2.2.1 x1.2.2.2.2.2.2.1 x1.2.2.2.2.2.2.2.1 x1.2.2.2.2.2.2.2.2.2.1 x1.2.2.2.2.2.2.2.2.2.2.1 x1.2.2.2.2.2.2.2.2.2.2.2.1 x1.2.2.2.2.2.2.2.2.2.2.2.2 x1.1 x1.2.2.2.2.2.2.2.2.1) x1.2.2.2.2.2.2.2.2.1.length _ (fun m i hi => ?_) (fun m => ?_) 1000 (by omega)
    · have hy := h.o _ (List.getElem_mem hi)
      simp only [i_control_own_776m.l3, i_control_own_776m.b3]
      rw [if_pos (by (first | omega | (dsimp only [Ty.T]; omega) | (simp only [decide_eq_true_eq, decide_eq_false_iff_not, Bool.not_eq_true, Ty.T]; omega) | (simp only [decide_eq_true_eq, decide_eq_false_iff_not, Ty.T]; omega) | (simp only [beq_iff_eq, bne_iff_ne, ne_eq, decide_eq_true_eq, Ty.T]; omega))), if_pos (by omega), if_pos (by omega), att_n (e := T23b6) x1.2.2.2.2.2.2.2.2.1 i hi, qf_slices_Clone_Msg (h := by omega), Option.bind_some, wsucc i (by omega), Int.toNat_natCast, show x1.2.2.2.2.2.2.2.2.1.set i ((x1.2.2.2.2.2.2.2.2.1[i]).1, ((x1.2.2.2.2.2.2.2.2.1[i]).2.1, ((x1.2.2.2.2.2.2.2.2.1[i]).2.2.1, ((x1.2.2.2.2.2.2.2.2.1[i]).2.2.2.1, (x1.2.2.2.2.2.2.2.2.1[i]).2.2.2.2)))) = x1.2.2.2.2.2.2.2.2.1 from List.set_getElem_self hi]
    · have f3 := h.q
      have f4 := h.g
      have f5 := h.d
      have f6 := h.u
      simp only [i_control_own_776m.l3, i_control_own_776m.b3]
      rw [if_neg (by (first | omega | (dsimp only [Ty.T]; omega) | (simp only [decide_eq_true_eq, decide_eq_false_iff_not, Bool.not_eq_true, Ty.T]; omega) | (simp only [decide_eq_true_eq, decide_eq_false_iff_not, Ty.T]; omega) | (simp only [beq_iff_eq, bne_iff_ne, ne_eq, decide_eq_true_eq, Ty.T]; omega))), qf_slices_Clone_intO (h := by omega), Option.bind_some, qf_slices_Clone_GivenO (h := by omega), Option.bind_some, qf_slices_Clone_intO (h := by omega), Option.bind_some, qf_slices_Clone_intO (h := by omega), Option.bind_some]
theorem qi_control_controller_ack_399 (x1 : Int) (x2 : T4414.T) (x3 : Int) (x4 : Int) (x5 : Int) (x6 : Int) (x7 : Int) (x8 : Int) (x9 : Int) (x10 : Int) (x11 : Int) (x12 : Int) (x13 : Int) (x14 : Int) (x15 : Int) (x16 : Int) (x17 : T4414.T) (x18 : List (List (List T1383.T))) (x19 : List Int) (x20 : List T23b6.T) (x21 : List T713d.T) (x22 : List Int) (x23 : List Int) (hs : 0 ≤ x1) (hs1 : x1 < (x20.length : Int)) (ho : ∀ y ∈ x20, y.2.2.2.2.length ≤ 100) : i_control_controller_ack_399.f 1000 x1 x2 x3 x4 x5 x6 x7 x8 x9 x10 x11 x12 x13 x14 x15 x16 x17 x18 x19 x20 x21 x22 x23 = some (ackP x20 x1 x2, ()) := by
  unfold i_control_controller_ack_399.f ackP
  rw [if_pos hs, if_pos hs1]
  have hm := ho _ (att_mem (e := T23b6) x20 hs hs1)
  have ha : ∀ z, att T23b6 (x20.set x1.toNat z) x1 = z := fun z => att_set x20 z hs hs1
  have hj : i_control_controller_ack_399.j1 x1 x2 x3 x4 x5 x6 x7 x8 x9 x10 x11 x12 x13 x14 x15 x16 x17 x18 x19 x20 x21 x22 x23 1000 true = some (x20.set x1.toNat ((att T23b6 x20 x1).1, (x2.2.2.2.1, sdone (att T23b6 x20 x1).2.2 x2.2.1 x2.2.2.1)), ()) := by
    unfold i_control_controller_ack_399.j1
    rw [if_pos rfl, done_eq 1000 _ _ _ (by omega) (by omega), Option.bind_some, ha, List.set_set]
  have hf : i_control_controller_ack_399.j1 x1 x2 x3 x4 x5 x6 x7 x8 x9 x10 x11 x12 x13 x14 x15 x16 x17 x18 x19 x20 x21 x22 x23 1000 false = some (x20, ()) := rfl
  by_cases e1 : x2.2.1 = (att T23b6 x20 x1).1
  · rw [if_pos (beq_iff_eq.2 e1)]
    by_cases e2 : x2.2.2.1 ≥ IntKind.i64.wrap (IntKind.i64.wrap ((att T23b6 x20 x1).2.2.2.1 - 1) - ((att T23b6 x20 x1).2.2.2.2.length : Int))
    · rw [if_pos (decide_eq_true e2)]
      by_cases e3 : x2.2.2.1 < (att T23b6 x20 x1).2.2.2.1
      · rw [decide_eq_true e3, hj, if_pos ⟨e1, e2, e3⟩]
      · rw [decide_eq_false e3, hf, if_neg fun k => e3 k.2.2]
    · rw [if_neg (by rw [decide_eq_false e2]; exact Bool.false_ne_true), hf, if_neg fun k => e2 k.2.1]
  · rw [if_neg (by rw [beq_iff_eq]; exact e1), hf, if_neg fun k => e1 k.1]
theorem qi_control_controller_hello_399 (x1 : Int) (x2 : T4414.T) (x3 : Int) (x4 : Int) (x5 : Int) (x6 : Int) (x7 : Int) (x8 : Int) (x9 : Int) (x10 : Int) (x11 : Int) (x12 : Int) (x13 : Int) (x14 : Int) (x15 : Int) (x16 : Int) (x17 : T4414.T) (x18 : List (List (List T1383.T))) (x19 : List Int) (x20 : List T23b6.T) (x21 : List T713d.T) (x22 : List Int) (x23 : List Int) (hs : 0 ≤ x1) (hs1 : x1 < (x20.length : Int)) (h0 : 0 ≤ x10) (h1 : x10 < (x18.length : Int)) (h2 : two x14 = true → 0 ≤ x11 ∧ x11 < (x18.length : Int)) (hr : ∀ x ∈ x18, ∀ l ∈ x, l.length ≤ 60) : i_control_controller_hello_399.f 1000 x1 x2 x3 x4 x5 x6 x7 x8 x9 x10 x11 x12 x13 x14 x15 x16 x17 x18 x19 x20 x21 x22 x23 = some (helloP x20 x1 x2 (lvs x18 x10 x11 x12 x13 x14 x1) (stampOf x12 x13 x14), ()) := by
  unfold i_control_controller_hello_399.f helloP
  rw [if_pos hs, if_pos hs1]
  by_cases he : x2.2.1 > (att T23b6 x20 x1).1
  · rw [if_pos (decide_eq_true he), if_pos he, sess_new, Option.bind_some, qi_control_controller_live_eda (h0 := h0) (h1 := h1) (h2 := h2) (hr := fun x hx l hl => by have := hr x hx l hl; omega), Option.bind_some]
    have q1 := lvs_len x18 x10 x11 x12 x13 x14 x1
    have q2 := lvs_each hr h0 h1 h2 x12 x13 x1
    have q3 := size_two q1 q2
    rw [sync_eq 1000 _ _ (by omega) (by omega) q2, Option.bind_some, pushall_eq 1000 _ _ (by rw [sync_len]; omega) (by simp) (by rw [sync_len]; omega) (by simp) (by simp) (by simp), Option.bind_some]
  · rw [if_neg (by rw [decide_eq_false he]; exact Bool.false_ne_true), if_neg he]
theorem gi_control_controller_two_e61 {k : Nat} (hk : 10 ≤ k) (x1 : T26b3.T) : i_control_controller_two_e61.f k x1 = some (two x1.2.2.2.2.2.1, ()) := by
  unfold i_control_controller_two_e61.f
  rw [contains_g k [1, 2, 3] x1.2.2.2.2.2.1 (by show 3 < k; omega) (by decide), Option.bind_some]
  exact congrArg (fun b => some (b, ())) (two_any x1.2.2.2.2.2.1)
theorem gi_control_controller_is_1_797 {k : Nat} (hk : 10 ≤ k) (x1 : Int) (x2 : T26b3.T) : i_control_controller_is_1_797.f k x1 x2 = some (!inR x2.1.length x1, ()) := by
  unfold i_control_controller_is_1_797.f inR
  by_cases h0 : x1 < 0
  · rw [decide_eq_true h0, if_pos rfl, decide_eq_false (by omega)]; rfl
  · rw [decide_eq_false h0, if_neg Bool.false_ne_true]
    by_cases h1 : x1 < (x2.1.length : Int)
    · rw [decide_eq_false (by omega), decide_eq_true (by omega)]; rfl
    · rw [decide_eq_true (by omega), decide_eq_false (by omega)]; rfl
theorem gi_slices_ContainsFunc_int_a51 {k : Nat} (hk : 10 ≤ k) (x1 : List Int) (x2 : T26b3.T) (h : x1.length < k) (h2 : x1.length ≤ 9223372036854775807) : i_slices_ContainsFunc_int_a51.f k x1 x2 = some (x1.any (fun q => !inR x2.1.length q), ()) := by
  unfold i_slices_ContainsFunc_int_a51.f i_slices_IndexFunc_int_a51.f
  have hle : x1.findIdx (fun q => !inR x2.1.length q) ≤ x1.length := List.findIdx_le_length
  refine loop (fun m i => (i_slices_IndexFunc_int_a51.l1 x1 x2 k m (x1.length : Int) (i : Int)).bind fun y1 => some (decide (y1.1 ≥ (0 : Int)), ())) (x1.findIdx (fun q => !inR x2.1.length q)) _ (fun m i hi => ?_) (fun m => ?_) k (by omega)
  · have hl : i < x1.length := by omega
    have hn := fi_not hi hl
    simp only [i_slices_IndexFunc_int_a51.l1, i_slices_IndexFunc_int_a51.b1]
    rw [if_pos (by (first | omega | (dsimp only [Ty.T]; omega) | (simp only [decide_eq_true_eq, decide_eq_false_iff_not, Bool.not_eq_true, Ty.T]; omega) | (simp only [decide_eq_true_eq, decide_eq_false_iff_not, Ty.T]; omega) | (simp only [beq_iff_eq, bne_iff_ne, ne_eq, decide_eq_true_eq, Ty.T]; omega))), if_pos (by omega), if_pos (by omega), att_n (e := .int .i64) x1 i hl, gi_control_controller_is_1_797 hk, Option.bind_some, if_neg (by rw [Bool.not_eq_true]; exact hn), wsucc2 i (by omega)]
  · simp only [i_slices_IndexFunc_int_a51.l1, i_slices_IndexFunc_int_a51.b1]
    by_cases hl : x1.findIdx (fun q => !inR x2.1.length q) < x1.length
    · have hy := List.findIdx_getElem (w := hl)
      rw [if_pos (by (first | omega | (dsimp only [Ty.T]; omega) | (simp only [decide_eq_true_eq, decide_eq_false_iff_not, Bool.not_eq_true, Ty.T]; omega) | (simp only [decide_eq_true_eq, decide_eq_false_iff_not, Ty.T]; omega) | (simp only [beq_iff_eq, bne_iff_ne, ne_eq, decide_eq_true_eq, Ty.T]; omega))), if_pos (by omega), if_pos (by omega), att_n (e := .int .i64) x1 _ hl, gi_control_controller_is_1_797 hk, Option.bind_some, if_pos hy, Option.bind_some, decide_eq_true (by omega)]
      exact congrArg (fun b => some (b, ())) (List.any_eq_true.2 ⟨_, List.getElem_mem hl, hy⟩).symm
    · rw [if_neg (by (first | omega | (dsimp only [Ty.T]; omega) | (simp only [decide_eq_true_eq, decide_eq_false_iff_not, Bool.not_eq_true, Ty.T]; omega) | (simp only [decide_eq_true_eq, decide_eq_false_iff_not, Ty.T]; omega) | (simp only [beq_iff_eq, bne_iff_ne, ne_eq, decide_eq_true_eq, Ty.T]; omega))), Option.bind_some, decide_eq_false (by decide)]
      refine congrArg (fun b => some (b, ())) (Eq.symm ?_)
      rw [Bool.eq_false_iff]
      intro hc
      obtain ⟨y, h1, h2⟩ := List.any_eq_true.1 hc
      exact absurd (List.findIdx_lt_length_of_exists ⟨y, h1, h2⟩) hl
theorem gi_control_controller_is_e28 {k : Nat} (hk : 10 ≤ k) (x1 : T26b3.T) (h : x1.2.2.2.2.2.2.2.1.length < k) (h2 : x1.2.2.2.2.2.2.2.1.length ≤ 9223372036854775807) : i_control_controller_is_e28.f k x1 = some (isB x1.1.length x1.2.1 x1.2.2.1 x1.2.2.2.2.2.1 x1.2.2.2.2.2.2.2.1 x1.2.2.2.2.2.2.2.2.1.length, ()) := by
  unfold i_control_controller_is_e28.f
  have j : ∀ p, i_control_controller_is_e28.j1 x1 k p = some (p && (inR x1.1.length x1.2.1 && (!x1.2.2.2.2.2.2.2.1.any (fun q => !inR x1.1.length q) && decide ((x1.2.2.2.2.2.2.2.2.1.length : Int) ≤ 100))), ()) := by
    intro p
    unfold i_control_controller_is_e28.j1
    cases p
    · rfl
    rw [if_pos rfl, gi_control_controller_is_1_797 hk, Option.bind_some, gi_slices_ContainsFunc_int_a51 hk (h := h) (h2 := h2)]
    cases inR x1.1.length x1.2.1
    · rfl
    cases x1.2.2.2.2.2.2.2.1.any (fun q => !inR x1.1.length q)
    · rfl
    · rfl
  simp only [j, gi_control_controller_is_1_797 hk, gi_control_controller_two_e61 hk, Option.bind_some]
  unfold isB
  cases x1.2.2.1 == -1
  · rw [if_neg Bool.false_ne_true]
    cases inR x1.1.length x1.2.2.1 <;> rfl
  · rw [if_pos rfl]
    cases two x1.2.2.2.2.2.1 <;> cases inR x1.1.length x1.2.2.1 <;> rfl
theorem gi_control_controller_two_e28 {k : Nat} (hk : 10 ≤ k) (x1 : T26b3.T) : i_control_controller_two_e28.f k x1 = some (two x1.2.2.2.2.2.1, ()) := by
  unfold i_control_controller_two_e28.f
  rw [contains_g k [1, 2, 3] x1.2.2.2.2.2.1 (by show 3 < k; omega) (by decide), Option.bind_some]
  exact congrArg (fun b => some (b, ())) (two_any x1.2.2.2.2.2.1)
theorem gi_slices_SortStableFunc_Ver_885 {k : Nat} (hk : 10 ≤ k) (x1 : T26b3.T) (u v : Vr) : i_slices_SortStableFunc_Ver_885.f k x1 [u, v] = some (if v.1 < u.1 then [v, u] else [u, v], ()) := by
  have hc : ∀ (x3 : T26b3.T) (x4 : List T814c.T), i_control_controller_live_1_5ba.f k v u x3 x4 = some (if v.1 < u.1 then -1 else if v.1 > u.1 then 1 else 0, ()) := by
    intros
    unfold i_control_controller_live_1_5ba.f
    by_cases h1 : v.1 < u.1
    · rw [if_pos (decide_eq_true h1), if_pos h1]
    · rw [if_neg (by rw [decide_eq_false h1]; exact Bool.false_ne_true), if_neg h1]
      by_cases h2 : v.1 > u.1
      · rw [if_pos (decide_eq_true h2), if_pos h2]
      · rw [if_neg (by rw [decide_eq_false h2]; exact Bool.false_ne_true), if_neg h2]
  obtain ⟨m, rfl⟩ : ∃ m, k = m + 1 + 1 + 1 + 1 + 1 := ⟨k - 5, by omega⟩
  unfold i_slices_SortStableFunc_Ver_885.f i_slices_stableCmpFunc_Ver_2ec.f
  rw [i_slices_stableCmpFunc_Ver_2ec.l1]
  unfold i_slices_stableCmpFunc_Ver_2ec.b1
  rw [if_neg (by exact Bool.false_ne_true)]
  unfold i_slices_insertionSortCmpFunc_Ver_2e0.f
  rw [i_slices_insertionSortCmpFunc_Ver_2e0.l1]
  unfold i_slices_insertionSortCmpFunc_Ver_2e0.b1
  rw [if_pos (by exact rfl)]
  rw [i_slices_insertionSortCmpFunc_Ver_2e0.l2]
  unfold i_slices_insertionSortCmpFunc_Ver_2e0.b2
  rw [if_pos (by exact rfl), if_pos (by exact of_decide_eq_true rfl), if_pos (by exact of_decide_eq_true rfl), if_pos (by exact of_decide_eq_true rfl), if_pos (by exact of_decide_eq_true rfl), show att T814c [u, v] (IntKind.i64.wrap (0 + 1)) = v from rfl, show att T814c [u, v] (IntKind.i64.wrap (IntKind.i64.wrap (0 + 1) - 1)) = u from rfl, hc]
  by_cases h1 : v.1 < u.1
  · rw [if_pos h1, if_pos h1]
    show _ = _
    kernel_rfl
  · rw [if_neg h1, if_neg h1]
    by_cases h2 : v.1 > u.1
    · rw [if_pos h2]
      show _ = _
      kernel_rfl
    · rw [if_neg h2]
      show _ = _
      kernel_rfl
theorem gi_control_controller_flips_ebc {k : Nat} (hk : 10 ≤ k) (x1 : T26b3.T) (x2 : List T814c.T) : i_control_controller_flips_ebc.f k x1 x2 = some (decide (x1.2.2.2.2.2.1 = 2 ∨ x1.2.2.2.2.2.1 = 3), ()) := by
  unfold i_control_controller_flips_ebc.f
  by_cases h2 : x1.2.2.2.2.2.1 = 2
  · rw [if_pos (beq_iff_eq.2 h2), decide_eq_true (.inl h2)]
  · rw [if_neg (by rw [beq_iff_eq]; exact h2)]
    by_cases h3 : x1.2.2.2.2.2.1 = 3
    · rw [beq_iff_eq.2 h3, decide_eq_true (.inr h3)]
    · rw [beq_eq_false_iff_ne.2 h3, decide_eq_false (by intro h; cases h with | inl h => exact h2 h | inr h => exact h3 h)]
theorem gi_control_controller_flips_e28 {k : Nat} (hk : 10 ≤ k) (x1 : T26b3.T) : i_control_controller_flips_e28.f k x1 = some (decide (x1.2.2.2.2.2.1 = 2 ∨ x1.2.2.2.2.2.1 = 3), ()) := by
  unfold i_control_controller_flips_e28.f
  by_cases h2 : x1.2.2.2.2.2.1 = 2
  · rw [if_pos (beq_iff_eq.2 h2), decide_eq_true (.inl h2)]
  · rw [if_neg (by rw [beq_iff_eq]; exact h2)]
    by_cases h3 : x1.2.2.2.2.2.1 = 3
    · rw [beq_iff_eq.2 h3, decide_eq_true (.inr h3)]
    · rw [beq_eq_false_iff_ne.2 h3, decide_eq_false (by intro h; cases h with | inl h => exact h2 h | inr h => exact h3 h)]
theorem gi_control_controller_live_258 {k : Nat} (hk : 10 ≤ k) (x1 : Int) (x2 : T26b3.T) (h0 : 0 ≤ x2.2.1) (h1 : x2.2.1 < (x2.1.length : Int)) (h2 : two x2.2.2.2.2.2.1 = true → 0 ≤ x2.2.2.1 ∧ x2.2.2.1 < (x2.1.length : Int)) (hr : ∀ x ∈ x2.1, ∀ l ∈ x, l.length * 48 ≤ 140737488355328) : i_control_controller_live_258.f k x1 x2 = some (lvs x2.1 x2.2.1 x2.2.2.1 x2.2.2.2.1 x2.2.2.2.2.1 x2.2.2.2.2.2.1 x1, (stampOf x2.2.2.2.1 x2.2.2.2.2.1 x2.2.2.2.2.2.1, ())) := by
  unfold i_control_controller_live_258.f lvs stampOf
  rw [if_pos h0, if_pos h1, conf_g k _ _ (hr _ (att_mem _ h0 h1)), Option.bind_some, gi_control_controller_two_e28 hk, Option.bind_some]
  by_cases ht : two x2.2.2.2.2.2.1 = true
  · obtain ⟨h3, h4⟩ := h2 ht
    rw [if_pos ht, if_pos ht, if_pos h3, if_pos h4, conf_g k _ _ (hr _ (att_mem _ h3 h4)), Option.bind_some, gi_slices_SortStableFunc_Ver_885 hk, Option.bind_some]
    unfold i_control_controller_live_258.j2
    rw [gi_control_controller_flips_ebc hk, Option.bind_some]
    by_cases hf : x2.2.2.2.2.2.1 = 2 ∨ x2.2.2.2.2.2.1 = 3
    · rw [decide_eq_true hf, if_pos hf]; rfl
    · rw [decide_eq_false hf, if_neg hf]; rfl
  · rw [if_neg ht, if_neg ht]
    unfold i_control_controller_live_258.j3
    rw [gi_control_controller_flips_e28 hk, Option.bind_some]
    by_cases hf : x2.2.2.2.2.2.1 = 2 ∨ x2.2.2.2.2.2.1 = 3
    · rw [decide_eq_true hf, if_pos hf]; rfl
    · rw [decide_eq_false hf, if_neg hf]; rfl
theorem awake21 : f_law21_awake.f 1000 = some (true, ()) := by decide +kernel
theorem inR_iff {n : Nat} {x : Int} : inR n x = true ↔ 0 ≤ x ∧ x < (n : Int) := by unfold inR; exact decide_eq_true_iff
theorem isB_live {nc : Nat} {live next ph : Int} {queue : List Int} {np : Nat} (h : isB nc live next ph queue np = true) : 0 ≤ live ∧ live < (nc : Int) := by
  unfold isB at h
  simp only [Bool.and_eq_true] at h
  exact inR_iff.1 h.2.1
theorem isB_next {nc : Nat} {live next ph : Int} {queue : List Int} {np : Nat} (h : isB nc live next ph queue np = true) (ht : two ph = true) : 0 ≤ next ∧ next < (nc : Int) := by
  unfold isB at h
  rw [ht] at h
  simp only [Bool.and_eq_true, Bool.not_true, Bool.and_false, Bool.false_or] at h
  exact inR_iff.1 h.1
def isC (c : Ct) : Bool := isB c.1.length c.2.1 c.2.2.1 c.2.2.2.2.2.1 c.2.2.2.2.2.2.2.1 c.2.2.2.2.2.2.2.2.1.length
def lvC (c : Ct) (sw : Int) : List Vr := lvs c.1 c.2.1 c.2.2.1 c.2.2.2.1 c.2.2.2.2.1 c.2.2.2.2.2.1 sw
def stC (c : Ct) : Int := stampOf c.2.2.2.1 c.2.2.2.2.1 c.2.2.2.2.2.1
theorem FewC.rl {cs : List (List (List Rl))} {peers : List T23b6.T} {queue done undone : List Int} {given : List T713d.T} (h : FewC cs peers queue done undone given) : ∀ x ∈ cs, ∀ l ∈ x, l.length < 1000000 := fun x hx l hl => by have := (h.r x hx).2 l hl; omega
theorem u8_in (n : Int) (h : 0 ≤ n) (h2 : n < 256) : IntKind.u8.wrap n = n := by
  unfold IntKind.wrap
  simp [IntKind.bits, IntKind.signed]
  omega
theorem u32_in (n : Int) (h : 0 ≤ n) (h2 : n < 4294967296) : IntKind.u32.wrap n = n := by
  unfold IntKind.wrap
  simp [IntKind.bits, IntKind.signed]
  omega
theorem u8_mod (n : Int) : IntKind.u8.wrap n = n % 256 := by
  unfold IntKind.wrap
  simp [IntKind.bits, IntKind.signed]
theorem fdiv_pos (a : Int) (b : Int) (h : 0 < b) : Int.fdiv a b = a / b := Int.fdiv_eq_ediv_of_nonneg a (by omega)
-- folding
def fl (p : Int) : Int := if p = 0 then 0 else if p % 65535 = 0 then 65535 else p % 65535
theorem fl_small (p : Int) (h : 0 ≤ p) (h2 : p ≤ 65535) : fl p = p := by unfold fl; split <;> (try split) <;> omega
theorem fl_step (p : Int) (h : 65535 < p) : fl (p / 65536 + p % 65536) = fl p := by
  unfold fl
  have : (p / 65536 + p % 65536) % 65535 = p % 65535 := by omega
  rw [this]
  have : ¬ (p / 65536 + p % 65536 = 0) := by omega
  rw [if_neg this, if_neg (show ¬ p = 0 by omega)]
theorem fl_range (p : Int) (h : 0 < p) : 1 ≤ fl p ∧ fl p ≤ 65535 := by unfold fl; split <;> (try split) <;> omega
theorem and16 (p : Int) (h : 0 ≤ p) (h2 : p < 1099511627776) : IntKind.i64.wrap (((BitVec.ofInt IntKind.i64.bits p &&& BitVec.ofInt IntKind.i64.bits 65535).toNat : Nat) : Int) = p % 65536 := by
  obtain ⟨n, rfl⟩ : ∃ n : Nat, p = (n : Int) := ⟨p.toNat, by omega⟩
  have h3 : (BitVec.ofInt IntKind.i64.bits (n : Int) &&& BitVec.ofInt IntKind.i64.bits 65535).toNat = n % 65536 := by
    have e1 : (BitVec.ofInt IntKind.i64.bits (n : Int)).toNat = n := by
      show (BitVec.ofInt 64 (n : Int)).toNat = n
      rw [BitVec.toNat_ofInt]; omega
    have e2 : (BitVec.ofInt IntKind.i64.bits 65535).toNat = 2 ^ 16 - 1 := by decide
    rw [BitVec.toNat_and, e1, e2, Nat.and_two_pow_sub_one_eq_mod]
  rw [h3, IntWalk.i64_in _ (by omega)]
  omega
theorem fold_step (k m : Nat) (p : Int) (h : 65535 < p) (h2 : p < 1099511627776) : f_octets_Sum.l2 k (m + 1) p = f_octets_Sum.l2 k m (p / 65536 + p % 65536) := by
  simp only [f_octets_Sum.l2, f_octets_Sum.b2]
  rw [if_pos (decide_eq_true h), and16 p (by omega) h2, show (2 : Int) ^ (min (16 : Int).toNat IntKind.i64.bits) = 65536 by decide, fdiv_pos _ _ (by omega), IntWalk.i64_in _ (by omega)]
theorem fold_end (k m : Nat) (p : Int) (h : 0 ≤ p) (h2 : p ≤ 65535) : f_octets_Sum.l2 k (m + 1) p = some (65535 - fl p, ()) := by
  simp only [f_octets_Sum.l2, f_octets_Sum.b2]
  rw [if_neg (by rw [decide_eq_false (by omega)]; exact Bool.false_ne_true), fl_small p h h2, IntWalk.i64_in _ (by omega)]
theorem fold_two (k m : Nat) (p : Int) (h : 0 ≤ p) (h2 : p < 131072) : f_octets_Sum.l2 k (m + 3) p = some (65535 - fl p, ()) := by
  by_cases h3 : 65535 < p
  · rw [fold_step k (m + 2) p h3 (by omega), ← fl_step p h3]
    by_cases h4 : 65535 < p / 65536 + p % 65536
    · rw [fold_step k (m + 1) _ h4 (by omega), ← fl_step _ h4]
      exact fold_end k m _ (by omega) (by omega)
    · exact fold_end k (m + 1) _ (by omega) (by omega)
  · exact fold_end k (m + 2) p h (by omega)
theorem fold_eq (k m : Nat) (p : Int) (h : 0 ≤ p) (h2 : p < 1099511627776) : f_octets_Sum.l2 k (m + 5) p = some (65535 - fl p, ()) := by
  by_cases h3 : 65535 < p
  · rw [fold_step k (m + 4) p h3 h2, ← fl_step p h3]
    by_cases h4 : 65535 < p / 65536 + p % 65536
    · rw [fold_step k (m + 3) _ h4 (by omega), ← fl_step _ h4]
      exact fold_two k m _ (by omega) (by omega)
    · exact fold_end k (m + 3) _ (by omega) (by omega)
  · exact fold_end k (m + 4) p h (by omega)
-- the sum of bytes
def Oct (xs : List Int) : Prop := ∀ x ∈ xs, (0 : Int) ≤ x ∧ x < 256
def tot (xs : List Int) : Nat → Int
  | 0 => 0
  | i + 1 => tot xs i + (xs[i]?).getD 0 * (if i % 2 = 0 then 256 else 1)
theorem tot_range (xs : List Int) (h : Oct xs) : ∀ i, i ≤ xs.length → 0 ≤ tot xs i ∧ tot xs i ≤ 65280 * (i : Int)
  | 0, _ => by simp [tot]
  | i + 1, hi => by
    have h1 := tot_range xs h i (by omega)
    have hl : i < xs.length := by omega
    have h2 := h xs[i] (List.getElem_mem hl)
    simp only [tot, List.getElem?_eq_getElem hl, Option.getD_some]
    split <;> omega
theorem sum_eq (xs : List Int) (h : Oct xs) (hs : xs.length < 900) : f_octets_Sum.f 1000 xs = some (65535 - fl (tot xs xs.length), ()) := by
  unfold f_octets_Sum.f
  have key : ∀ d i m, i + d = xs.length → d < m → f_octets_Sum.l1 1000 m (tot xs i) xs (xs.length : Int) (i : Int) = some (65535 - fl (tot xs xs.length), ()) := by
    intro d
    induction d with
    | zero =>
      intro i m hi hm
      obtain ⟨m, rfl⟩ : ∃ q, m = q + 1 := ⟨m - 1, by omega⟩
      obtain rfl : i = xs.length := by omega
      simp only [f_octets_Sum.l1, f_octets_Sum.b1]
      rw [if_neg (by simp)]
      have := tot_range xs h xs.length (Nat.le_refl _)
      obtain ⟨m', hm'⟩ : ∃ m' : Nat, 1000000 = m' + 5 := ⟨999995, by decide⟩
      rw [hm']
      exact (show f_octets_Sum.l2 1000 (m' + 1 + 5) (tot xs xs.length) = _ from fold_eq 1000 (m' + 1) _ this.1 (by omega))
    | succ d ih =>
      intro i m hi hm
      obtain ⟨m, rfl⟩ : ∃ q, m = q + 1 := ⟨m - 1, by omega⟩
      have hl : i < xs.length := by omega
      have hx := h xs[i] (List.getElem_mem hl)
      have h1 := tot_range xs h i (by omega)
      have e8 : IntKind.i64.wrap (8 * (Int.tmod (IntKind.i64.wrap ((i : Int) + 1)) 2)) = 8 * (((i + 1) % 2 : Nat) : Int) := by
        rw [wsucc i (by omega), show Int.tmod (((i + 1 : Nat) : Int)) 2 = (((i + 1) % 2 : Nat) : Int) by rw [Int.tmod_eq_emod_of_nonneg (by omega)]; omega, IntWalk.i64_in _ (by omega)]
      have et : tot xs (i + 1) = tot xs i + xs[i] * (if i % 2 = 0 then 256 else 1) := by simp only [tot, List.getElem?_eq_getElem hl, Option.getD_some]
      have ep : (2 : Int) ^ (min (8 * (((i + 1) % 2 : Nat) : Int)).toNat IntKind.i64.bits) = if i % 2 = 0 then 256 else 1 := by
        rcases Nat.mod_two_eq_zero_or_one i with h2 | h2
        · rw [if_pos h2, show (i + 1) % 2 = 1 by omega]; decide
        · rw [if_neg (by omega), show (i + 1) % 2 = 0 by omega]; decide
      simp only [f_octets_Sum.l1, f_octets_Sum.b1, e8, att_n (e := .int .u8) xs i hl]
      rw [if_pos (by simp; exact hl), if_pos (by omega), if_pos (by omega), if_pos (by omega), ep, IntWalk.i64_in xs[i] (by omega), wsucc i (by omega)]
      have hb : xs[i] * (if i % 2 = 0 then 256 else 1) < 65536 ∧ 0 ≤ xs[i] * (if i % 2 = 0 then 256 else 1) := by split <;> omega
      rw [IntWalk.i64_in (xs[i] * _) (by omega), IntWalk.i64_in (tot xs i + _) (by omega), ← et]
      exact ih (i + 1) m (by omega) (by omega)
  exact key xs.length 0 1000 (by omega) (by omega)
theorem tot_app (xs ys : List Int) : ∀ i, i ≤ xs.length → tot (xs ++ ys) i = tot xs i
  | 0, _ => rfl
  | i + 1, h => by simp only [tot]; rw [tot_app xs ys i (by omega), List.getElem?_append_left (by omega)]
theorem sum_sealed (xs : List Int) (h : Oct xs) (hs : xs.length < 800) (he : xs.length % 2 = 0) (hp : 0 < tot xs xs.length) :
    ∃ hi lo : Int, f_octets_Sum.f 1000 xs = some (65535 - fl (tot xs xs.length), ()) ∧ IntKind.u8.wrap (Int.fdiv (65535 - fl (tot xs xs.length)) (2 ^ (min (8 : Int).toNat IntKind.i64.bits))) = hi ∧ IntKind.u8.wrap (65535 - fl (tot xs xs.length)) = lo ∧ Oct (xs ++ [hi, lo]) ∧ f_octets_Sum.f 1000 (xs ++ [hi, lo]) = some (0, ()) := by
  have hr := fl_range _ hp
  have h1 := tot_range xs h xs.length (Nat.le_refl _)
  have e1 : IntKind.u8.wrap (Int.fdiv (65535 - fl (tot xs xs.length)) (2 ^ (min (8 : Int).toNat IntKind.i64.bits))) = (65535 - fl (tot xs xs.length)) / 256 := by
    rw [show (2 : Int) ^ (min (8 : Int).toNat IntKind.i64.bits) = 256 by decide, fdiv_pos _ _ (by omega), u8_in _ (by omega) (by omega)]
  have e2 := u8_mod (65535 - fl (tot xs xs.length))
  have ho : Oct (xs ++ [(65535 - fl (tot xs xs.length)) / 256, (65535 - fl (tot xs xs.length)) % 256]) := by
    intro x hx
    rcases List.mem_append.1 hx with hx | hx
    · exact h x hx
    · rcases List.mem_cons.1 hx with rfl | hx
      · omega
      · rw [List.mem_singleton.1 hx]; omega
  refine ⟨_, _, sum_eq xs h (by omega), e1, e2, ho, ?_⟩
  have hl : (xs ++ [(65535 - fl (tot xs xs.length)) / 256, (65535 - fl (tot xs xs.length)) % 256]).length = xs.length + 2 := by simp
  rw [sum_eq _ ho (by rw [hl]; omega), hl]
  have ht : tot (xs ++ [(65535 - fl (tot xs xs.length)) / 256, (65535 - fl (tot xs xs.length)) % 256]) (xs.length + 2) = tot xs xs.length + (65535 - fl (tot xs xs.length)) := by
    simp only [tot]
    rw [tot_app _ _ _ (Nat.le_refl _), List.getElem?_append_right (Nat.le_refl _), List.getElem?_append_right (by omega), if_pos he, if_neg (by omega), Nat.sub_self, show xs.length + 1 - xs.length = 1 by omega]
    simp only [List.getElem?_cons_zero, List.getElem?_cons_succ, Option.getD_some]
    omega
  rw [ht]
  have : fl (tot xs xs.length + (65535 - fl (tot xs xs.length))) = 65535 := by
    have hm : (tot xs xs.length + (65535 - fl (tot xs xs.length))) % 65535 = 0 := by
      unfold fl
      split
      · omega
      · split <;> omega
    unfold fl
    rw [if_neg (by unfold fl at hr; omega), if_pos (by unfold fl at hm; exact hm)]
  rw [this]
  rfl
-- numbers in bytes
theorem sh8 : (2 : Int) ^ (min (8 : Int).toNat IntKind.u32.bits) = 256 := by decide
theorem or8 (x c : Int) (hx : 0 ≤ x) (hx2 : x < 16777216) (hc : 0 ≤ c) (hc2 : c < 256) :
    IntKind.u32.wrap (((BitVec.ofInt IntKind.u32.bits (IntKind.u32.wrap (x * (2 ^ (min (8 : Int).toNat (IntKind.u32.bits))))) ||| BitVec.ofInt IntKind.u32.bits (IntKind.u32.wrap c)).toNat : Int)) = x * 256 + c := by
  obtain ⟨a, rfl⟩ : ∃ a : Nat, x = (a : Int) := ⟨x.toNat, by omega⟩
  obtain ⟨b, rfl⟩ : ∃ b : Nat, c = (b : Int) := ⟨c.toNat, by omega⟩
  rw [sh8, u32_in ((a : Int) * 256) (by omega) (by omega), u32_in (b : Int) (by omega) (by omega)]
  have e1 : (BitVec.ofInt IntKind.u32.bits ((a : Int) * 256)).toNat = a * 2 ^ 8 := by
    show (BitVec.ofInt 32 ((a : Int) * 256)).toNat = _
    rw [BitVec.toNat_ofInt]; omega
  have e2 : (BitVec.ofInt IntKind.u32.bits (b : Int)).toNat = b := by
    show (BitVec.ofInt 32 (b : Int)).toNat = _
    rw [BitVec.toNat_ofInt]; omega
  rw [BitVec.toNat_or, e1, e2, ← Nat.shiftLeft_eq, ← Nat.shiftLeft_add_eq_or_of_lt (show b < 2 ^ 8 by omega), Nat.shiftLeft_eq, u32_in _ (by omega) (by omega)]
  omega
theorem put1 (n : Int) (h : 0 ≤ n) (h2 : n < 256) : f_octets_PutO.f 1000 n 1 = some ([n], (0, ())) := by
  have e : f_octets_PutO.f 1000 n 1 = if (decide (n < (0 : Int))) = true then f_octets_PutO.j1 1000 n 1 true else f_octets_PutO.j1 1000 n 1 ((Int.fdiv n 256) != (0 : Int)) := by kernel_rfl
  rw [e, if_neg (by rw [decide_eq_false (by omega)]; exact Bool.false_ne_true), fdiv_pos _ _ (by omega), show n / 256 = 0 by omega]
  have e2 : f_octets_PutO.j1 1000 n 1 false = some ([IntKind.u8.wrap (Int.fdiv n 1)], (0, ())) := by kernel_rfl
  show f_octets_PutO.j1 1000 n 1 false = _
  rw [e2, fdiv_pos _ _ (by omega), u8_in _ (by omega) (by omega), show n / 1 = n by omega]
theorem put2 (n : Int) (h : 0 ≤ n) (h2 : n < 65536) : f_octets_PutO.f 1000 n 2 = some ([n / 256, n % 256], (0, ())) := by
  have e : f_octets_PutO.f 1000 n 2 = if (decide (n < (0 : Int))) = true then f_octets_PutO.j1 1000 n 2 true else f_octets_PutO.j1 1000 n 2 ((Int.fdiv n 65536) != (0 : Int)) := by kernel_rfl
  rw [e, if_neg (by rw [decide_eq_false (by omega)]; exact Bool.false_ne_true), fdiv_pos _ _ (by omega), show n / 65536 = 0 by omega]
  have e2 : f_octets_PutO.j1 1000 n 2 false = some ([IntKind.u8.wrap (Int.fdiv n 256), IntKind.u8.wrap (Int.fdiv n 1)], (0, ())) := by kernel_rfl
  show f_octets_PutO.j1 1000 n 2 false = _
  rw [e2, fdiv_pos _ _ (by omega), fdiv_pos _ _ (by omega), u8_in (n / 256) (by omega) (by omega), u8_mod, show n / 1 = n by omega]
theorem put3 (n : Int) (h : 0 ≤ n) (h2 : n < 16777216) : f_octets_PutO.f 1000 n 3 = some ([n / 65536, n / 256 % 256, n % 256], (0, ())) := by
  have e : f_octets_PutO.f 1000 n 3 = if (decide (n < (0 : Int))) = true then f_octets_PutO.j1 1000 n 3 true else f_octets_PutO.j1 1000 n 3 ((Int.fdiv n 16777216) != (0 : Int)) := by kernel_rfl
  rw [e, if_neg (by rw [decide_eq_false (by omega)]; exact Bool.false_ne_true), fdiv_pos _ _ (by omega), show n / 16777216 = 0 by omega]
  have e2 : f_octets_PutO.j1 1000 n 3 false = some ([IntKind.u8.wrap (Int.fdiv n 65536), IntKind.u8.wrap (Int.fdiv n 256), IntKind.u8.wrap (Int.fdiv n 1)], (0, ())) := by kernel_rfl
  show f_octets_PutO.j1 1000 n 3 false = _
  rw [e2, fdiv_pos _ _ (by omega), fdiv_pos _ _ (by omega), fdiv_pos _ _ (by omega), u8_in (n / 65536) (by omega) (by omega), u8_mod, u8_mod, show n / 1 = n by omega]
theorem put4 (n : Int) (h : 0 ≤ n) (h2 : n < 4294967296) : f_octets_PutO.f 1000 n 4 = some ([n / 16777216, n / 65536 % 256, n / 256 % 256, n % 256], (0, ())) := by
  have e : f_octets_PutO.f 1000 n 4 = if (decide (n < (0 : Int))) = true then f_octets_PutO.j1 1000 n 4 true else f_octets_PutO.j1 1000 n 4 ((Int.fdiv n 4294967296) != (0 : Int)) := by kernel_rfl
  rw [e, if_neg (by rw [decide_eq_false (by omega)]; exact Bool.false_ne_true), fdiv_pos _ _ (by omega), show n / 4294967296 = 0 by omega]
  have e2 : f_octets_PutO.j1 1000 n 4 false = some ([IntKind.u8.wrap (Int.fdiv n 16777216), IntKind.u8.wrap (Int.fdiv n 65536), IntKind.u8.wrap (Int.fdiv n 256), IntKind.u8.wrap (Int.fdiv n 1)], (0, ())) := by kernel_rfl
  show f_octets_PutO.j1 1000 n 4 false = _
  rw [e2, fdiv_pos _ _ (by omega), fdiv_pos _ _ (by omega), fdiv_pos _ _ (by omega), fdiv_pos _ _ (by omega), u8_in (n / 16777216) (by omega) (by omega), u8_mod, u8_mod, u8_mod, show n / 1 = n by omega]
-- numbers out of bytes
def o8 (x c : Int) : Int := IntKind.u32.wrap (((BitVec.ofInt IntKind.u32.bits (IntKind.u32.wrap (x * (2 ^ (min (8 : Int).toNat (IntKind.u32.bits))))) ||| BitVec.ofInt IntKind.u32.bits (IntKind.u32.wrap c)).toNat : Int))
theorem o8_eq (x c : Int) (hx : 0 ≤ x) (hx2 : x < 16777216) (hc : 0 ≤ c) (hc2 : c < 256) : o8 x c = x * 256 + c := or8 x c hx hx2 hc hc2
theorem get1 (a : Int) (r : List Int) (ha : 0 ≤ a ∧ a < 256) : f_octets_Get.f 1000 (a :: r) 1 = some (a, (0, ())) := by
  have e : f_octets_Get.f 1000 (a :: r) 1 = if (decide (((a :: r).length : Int) < 1)) = true then some ((0 : Int), ((3 : Int), ())) else if 0 ≤ (0 : Int) ∧ (0 : Int) ≤ 1 ∧ 1 ≤ ((a :: r).length : Int) then some (IntKind.i64.wrap (o8 0 a), (0, ())) else none := by kernel_rfl
  rw [e, if_neg (by simp only [List.length_cons, decide_eq_true_eq]; omega), if_pos (by simp only [List.length_cons]; omega), o8_eq _ _ (by omega) (by omega) (by omega) (by omega), IntWalk.i64_in _ (by omega), show (0 : Int) * 256 + a = a by omega]
theorem get2 (a b : Int) (r : List Int) (ha : 0 ≤ a ∧ a < 256) (hb : 0 ≤ b ∧ b < 256) : f_octets_Get.f 1000 (a :: b :: r) 2 = some (a * 256 + b, (0, ())) := by
  have e : f_octets_Get.f 1000 (a :: b :: r) 2 = if (decide (((a :: b :: r).length : Int) < 2)) = true then some ((0 : Int), ((3 : Int), ())) else if 0 ≤ (0 : Int) ∧ (0 : Int) ≤ 2 ∧ 2 ≤ ((a :: b :: r).length : Int) then some (IntKind.i64.wrap (o8 (o8 0 a) b), (0, ())) else none := by kernel_rfl
  have e1 := o8_eq 0 a (by omega) (by omega) (by omega) (by omega)
  rw [e, if_neg (by simp only [List.length_cons, decide_eq_true_eq]; omega), if_pos (by simp only [List.length_cons]; omega), e1, o8_eq _ _ (by omega) (by omega) (by omega) (by omega), IntWalk.i64_in _ (by omega), show ((0 : Int) * 256 + a) * 256 + b = a * 256 + b by omega]
theorem get3 (a b c : Int) (r : List Int) (ha : 0 ≤ a ∧ a < 256) (hb : 0 ≤ b ∧ b < 256) (hc : 0 ≤ c ∧ c < 256) : f_octets_Get.f 1000 (a :: b :: c :: r) 3 = some ((a * 256 + b) * 256 + c, (0, ())) := by
  have e : f_octets_Get.f 1000 (a :: b :: c :: r) 3 = if (decide (((a :: b :: c :: r).length : Int) < 3)) = true then some ((0 : Int), ((3 : Int), ())) else if 0 ≤ (0 : Int) ∧ (0 : Int) ≤ 3 ∧ 3 ≤ ((a :: b :: c :: r).length : Int) then some (IntKind.i64.wrap (o8 (o8 (o8 0 a) b) c), (0, ())) else none := by kernel_rfl
  have e1 := o8_eq 0 a (by omega) (by omega) (by omega) (by omega)
  have e2 := o8_eq (0 * 256 + a) b (by omega) (by omega) (by omega) (by omega)
  rw [e, if_neg (by simp only [List.length_cons, decide_eq_true_eq]; omega), if_pos (by simp only [List.length_cons]; omega), e1, e2, o8_eq _ _ (by omega) (by omega) (by omega) (by omega), IntWalk.i64_in _ (by omega), show (((0 : Int) * 256 + a) * 256 + b) * 256 + c = (a * 256 + b) * 256 + c by omega]
theorem get4 (a b c d : Int) (r : List Int) (ha : 0 ≤ a ∧ a < 256) (hb : 0 ≤ b ∧ b < 256) (hc : 0 ≤ c ∧ c < 256) (hd : 0 ≤ d ∧ d < 256) : f_octets_Get.f 1000 (a :: b :: c :: d :: r) 4 = some (((a * 256 + b) * 256 + c) * 256 + d, (0, ())) := by
  have e : f_octets_Get.f 1000 (a :: b :: c :: d :: r) 4 = if (decide (((a :: b :: c :: d :: r).length : Int) < 4)) = true then some ((0 : Int), ((3 : Int), ())) else if 0 ≤ (0 : Int) ∧ (0 : Int) ≤ 4 ∧ 4 ≤ ((a :: b :: c :: d :: r).length : Int) then some (IntKind.i64.wrap (o8 (o8 (o8 (o8 0 a) b) c) d), (0, ())) else none := by kernel_rfl
  have e1 := o8_eq 0 a (by omega) (by omega) (by omega) (by omega)
  have e2 := o8_eq (0 * 256 + a) b (by omega) (by omega) (by omega) (by omega)
  have e3 := o8_eq ((0 * 256 + a) * 256 + b) c (by omega) (by omega) (by omega) (by omega)
  rw [e, if_neg (by simp only [List.length_cons, decide_eq_true_eq]; omega), if_pos (by simp only [List.length_cons]; omega), e1, e2, e3, o8_eq _ _ (by omega) (by omega) (by omega) (by omega), IntWalk.i64_in _ (by omega), show ((((0 : Int) * 256 + a) * 256 + b) * 256 + c) * 256 + d = ((a * 256 + b) * 256 + c) * 256 + d by omega]
def inb (x : Int × Int) (n : Int) : Bool := decide (n ≥ x.1) && decide (n ≤ x.2)
theorem inb_eq (k : Nat) (x : Int × Int) (n : Int) : f_msg_bounds_in.f k x n = some (inb x n, ()) := by
  unfold f_msg_bounds_in.f inb
  cases h : decide (n ≥ x.1)
  · rw [if_neg Bool.false_ne_true]; rfl
  · rw [if_pos rfl]; rfl
def kindOf (n : Int) : Ta655.T := att Ta655 glob0 n
def zr (r : Rl) : Bool := (r.1.1 == (0 : Int)) && ((r.1.2 == (0 : Int)) && ((r.2.1 == (0 : Int)) && ((r.2.2.1 == (0 : Int)) && ((r.2.2.2.1 == (0 : Int)) && ((r.2.2.2.2 == (0 : Int)) && true)))))
noncomputable def mmay (m : Mg) : Bool := decide (0 ≤ m.1) && (decide (m.1 < 6) && ((if (kindOf m.1).2.2 = true then rmay m.2.2.2.2 else zr m.2.2.2.2) && (inb (1, 1048576) m.2.1 && (inb (kindOf m.1).1 m.2.2.1 && inb (kindOf m.1).2.1 m.2.2.2.1))))
theorem mmay_eq (k : Nat) (m : Mg) : f_msg_May.f k m = some (mmay m, ()) := by
  unfold f_msg_May.f mmay
  have hj : f_msg_May.j1 k true m = some (false, ()) := by unfold f_msg_May.j1; rw [if_pos rfl]
  by_cases h1 : m.1 < (0 : Int)
  · rw [if_pos (decide_eq_true h1), hj, decide_eq_false (show ¬ (0 : Int) ≤ m.1 from Int.not_le.2 h1)]; rfl
  rw [if_neg (by rw [decide_eq_false h1]; exact Bool.false_ne_true), decide_eq_true (show (0 : Int) ≤ m.1 from Int.not_lt.1 h1)]
  by_cases h2 : m.1 < (6 : Int)
  · rw [decide_eq_false (show ¬ m.1 ≥ (6 : Int) from Int.not_le.2 h2), decide_eq_true h2]
    unfold f_msg_May.j1
    rw [if_neg Bool.false_ne_true, if_pos (Int.not_lt.1 h1), if_pos h2]
    simp only [Bool.true_and]
    have h3 : ∀ b, f_msg_May.j2 k b m (att Ta655 glob0 m.1) = some (b && (inb (1, 1048576) m.2.1 && (inb (kindOf m.1).1 m.2.2.1 && inb (kindOf m.1).2.1 m.2.2.2.1)), ()) := by
      intro b
      unfold f_msg_May.j2
      cases b
      · rw [if_neg Bool.false_ne_true]; rfl
      · rw [if_pos rfl, inb_eq, Option.bind_some]
        cases inb (1, 1048576) m.2.1
        · rw [if_neg Bool.false_ne_true]; rfl
        · rw [if_pos rfl, inb_eq, Option.bind_some]
          show (if inb (kindOf m.1).1 m.2.2.1 = true then _ else _) = _
          cases inb (kindOf m.1).1 m.2.2.1
          · rw [if_neg Bool.false_ne_true]; rfl
          · rw [if_pos rfl, inb_eq]; rfl
    show (if (kindOf m.1).2.2 = true then _ else _) = _
    by_cases h4 : (kindOf m.1).2.2 = true
    · rw [if_pos h4, if_pos h4, rmay_eq, Option.bind_some, h3]
    · rw [if_neg h4, if_neg h4, h3]; rfl
  · rw [decide_eq_true (show m.1 ≥ (6 : Int) from Int.not_lt.1 h2), hj, decide_eq_false h2]; rfl
theorem zr_eq {r : Rl} (h : zr r = true) : r = ((0, 0), (0, (0, (0, 0)))) := by
  unfold zr at h
  simp only [Bool.and_eq_true, beq_iff_eq, and_true] at h
  obtain ⟨h1, h2, h3, h4, h5, h6⟩ := h
  obtain ⟨⟨a, b⟩, c, d, e, f⟩ := r
  dsimp only at h1 h2 h3 h4 h5 h6
  rw [h1, h2, h3, h4, h5, h6]
structure MM (kd ep sq tg : Int) (r : Rl) : Prop where
  k0 : 0 ≤ kd
  k1 : kd < 6
  e0 : 1 ≤ ep
  e1 : ep ≤ 1048576
  s0 : 0 ≤ sq
  s1 : sq ≤ 1048576
  t0 : 0 ≤ tg
  t1 : tg ≤ 4095
  two : kd = 2 → rmay r = true
  not2 : kd ≠ 2 → r = ((0, 0), (0, (0, (0, 0))))
  kx : (kindOf kd).2.2 = (kd == 2)
  sx : kd ≥ 2 → 1 ≤ sq
  tx : kd ≥ 2 → kd ≤ 4 → 1 ≤ tg
theorem kinds6 (n : Int) (h : 0 ≤ n) (h2 : n < 6) : n = 0 ∨ n = 1 ∨ n = 2 ∨ n = 3 ∨ n = 4 ∨ n = 5 := by omega
theorem mmay_ok {m : Mg} (h : mmay m = true) : MM m.1 m.2.1 m.2.2.1 m.2.2.2.1 m.2.2.2.2 := by
  have key : ∀ (kd ep sq tg : Int) (r : Rl), mmay (kd, (ep, (sq, (tg, r)))) = true → MM kd ep sq tg r := by
    intro kd ep sq tg r h
    unfold mmay at h
    simp only [Bool.and_eq_true, decide_eq_true_eq] at h
    obtain ⟨h1, h2, h3, h4, h5, h6⟩ := h
    unfold inb at h4 h5 h6
    simp only [Bool.and_eq_true, decide_eq_true_eq] at h4 h5 h6
    rcases kinds6 kd h1 h2 with rfl | rfl | rfl | rfl | rfl | rfl
    · have h3 : zr r = true := h3
      replace h5 : sq ≥ (0 : Int) ∧ sq ≤ (0 : Int) := h5
      replace h6 : tg ≥ (0 : Int) ∧ tg ≤ (0 : Int) := h6
      exact ⟨h1, h2, h4.1, h4.2, h5.1, by omega, h6.1, by omega, fun h => by omega, fun _ => zr_eq h3, rfl, fun h => by omega, fun h => by omega⟩
    · have h3 : zr r = true := h3
      replace h5 : sq ≥ (0 : Int) ∧ sq ≤ (1048576 : Int) := h5
      replace h6 : tg ≥ (0 : Int) ∧ tg ≤ (4095 : Int) := h6
      exact ⟨h1, h2, h4.1, h4.2, h5.1, h5.2, h6.1, h6.2, fun h => by omega, fun _ => zr_eq h3, rfl, fun h => by omega, fun h => by omega⟩
    · have h3 : rmay r = true := h3
      replace h5 : sq ≥ (1 : Int) ∧ sq ≤ (1048576 : Int) := h5
      replace h6 : tg ≥ (1 : Int) ∧ tg ≤ (4095 : Int) := h6
      exact ⟨h1, h2, h4.1, h4.2, by omega, h5.2, by omega, h6.2, fun _ => h3, fun h => absurd rfl h, rfl, fun _ => h5.1, fun _ _ => h6.1⟩
    · have h3 : zr r = true := h3
      replace h5 : sq ≥ (1 : Int) ∧ sq ≤ (1048576 : Int) := h5
      replace h6 : tg ≥ (1 : Int) ∧ tg ≤ (4095 : Int) := h6
      exact ⟨h1, h2, h4.1, h4.2, by omega, h5.2, by omega, h6.2, fun h => by omega, fun _ => zr_eq h3, rfl, fun _ => h5.1, fun _ _ => h6.1⟩
    · have h3 : zr r = true := h3
      replace h5 : sq ≥ (1 : Int) ∧ sq ≤ (1048576 : Int) := h5
      replace h6 : tg ≥ (1 : Int) ∧ tg ≤ (4095 : Int) := h6
      exact ⟨h1, h2, h4.1, h4.2, by omega, h5.2, by omega, h6.2, fun h => by omega, fun _ => zr_eq h3, rfl, fun _ => h5.1, fun _ _ => h6.1⟩
    · have h3 : zr r = true := h3
      replace h5 : sq ≥ (1 : Int) ∧ sq ≤ (1048576 : Int) := h5
      replace h6 : tg ≥ (0 : Int) ∧ tg ≤ (0 : Int) := h6
      exact ⟨h1, h2, h4.1, h4.2, by omega, h5.2, h6.1, by omega, fun h => by omega, fun _ => zr_eq h3, rfl, fun _ => h5.1, fun _ h => by omega⟩
  exact key _ _ _ _ _ h
-- bytes
noncomputable def stepP {R : Type} (o : Option (List Int × Int × Unit)) (acc : List Int) (z : Int → Option R) (K : List Int → Option R) : Option R := o.bind fun y => if (y.2.1 != (0 : Int)) = true then z y.2.1 else if (acc.length + y.1.length) * 1 ≤ 140737488355328 then K (acc ++ y.1) else none
theorem stepP_ok {R : Type} {o : Option (List Int × Int × Unit)} {acc ys : List Int} {z : Int → Option R} {K : List Int → Option R} (h : o = some (ys, (0, ()))) (hl : acc.length + ys.length ≤ 1000) : stepP o acc z K = K (acc ++ ys) := by
  subst h
  unfold stepP
  rw [Option.bind_some, if_neg (show ¬ ((0 : Int) != 0) = true by decide)]
  exact if_pos (by dsimp only; omega)
theorem putall (a b c d : Int) (ha : 0 ≤ a ∧ a < 256) (hb : 0 ≤ b ∧ b < 16777216) (hc : 0 ≤ c ∧ c < 16777216) (hd : 0 ≤ d ∧ d < 65536) :
    f_octets_PutAllO.f 1000 [a, b, c, d] [1, 3, 3, 2] = some ([a, b / 65536, b / 256 % 256, b % 256, c / 65536, c / 256 % 256, c % 256, d / 256, d % 256], (0, ())) := by
  have e : f_octets_PutAllO.f 1000 [a, b, c, d] [1, 3, 3, 2] = stepP (f_octets_PutO.f 1000 a 1) [] (fun e => some ([], (e, ()))) fun s1 => stepP (f_octets_PutO.f 1000 b 3) s1 (fun e => some ([], (e, ()))) fun s2 => stepP (f_octets_PutO.f 1000 c 3) s2 (fun e => some ([], (e, ()))) fun s3 => stepP (f_octets_PutO.f 1000 d 2) s3 (fun e => some ([], (e, ()))) fun s4 => some (s4, (0, ())) := by kernel_rfl
  rw [e, stepP_ok (put1 a ha.1 ha.2) (by simp only [List.length_append, List.length_cons, List.length_nil]; omega), stepP_ok (put3 b hb.1 hb.2) (by simp only [List.length_append, List.length_cons, List.length_nil]; omega), stepP_ok (put3 c hc.1 hc.2) (by simp only [List.length_append, List.length_cons, List.length_nil]; omega), stepP_ok (put2 d hd.1 hd.2) (by simp only [List.length_append, List.length_cons, List.length_nil]; omega)]
  rfl
structure RM (a l i p k o : Int) : Prop where
  a0 : 0 ≤ a
  a1 : a ≤ 4294967295
  l0 : 0 ≤ l
  l1 : l ≤ 32
  i0 : -1 ≤ i
  i1 : i ≤ 7
  p0 : 0 ≤ p
  p1 : p ≤ 255
  k0 : 0 ≤ k
  k1 : k ≤ 1
  o0 : 0 ≤ o
  o1 : o ≤ 7
theorem rmay_ok {r : Rl} (h : rmay r = true) : RM r.1.1 r.1.2 r.2.1 r.2.2.1 r.2.2.2.1 r.2.2.2.2 := by
  have key : ∀ (a l i p k o : Int), rmay ((a, l), (i, (p, (k, o)))) = true → RM a l i p k o := by
    intro a l i p k o h
    unfold rmay port pmay at h
    simp only [Bool.and_eq_true, decide_eq_true_eq, ge_iff_le] at h
    obtain ⟨h1, ⟨g1, g2, g3, g4, _⟩, h3, h4, h5, h6⟩ := h
    split at h1
    · rename_i h7
      simp only [Bool.and_eq_true, beq_iff_eq, and_true] at h7
      obtain ⟨h7, h8⟩ := h7
      replace h7 : k = 0 := h7
      replace h8 : o = 0 := h8
      exact ⟨g3, g4, g1, g2, h3, h4, h5, h6, by omega, by omega, by omega, by omega⟩
    · simp only [Bool.and_eq_true, beq_iff_eq, decide_eq_true_eq, ge_iff_le] at h1
      obtain ⟨h7, h8, h9⟩ := h1
      replace h7 : k = 1 := h7
      exact ⟨g3, g4, g1, g2, h3, h4, h5, h6, by omega, by omega, h8, h9⟩
  exact key _ _ _ _ _ _ h
def rby (r : Rl) : List Int := [r.1.1 / 16777216, r.1.1 / 65536 % 256, r.1.1 / 256 % 256, r.1.1 % 256, r.1.2, r.2.1 + 1, r.2.2.1, r.2.2.2.1, r.2.2.2.2]
theorem rput (r : Rl) (h : rmay r = true) : f_rule_PutO.f 1000 r = some (rby r, (0, ())) := by
  have q := rmay_ok h
  unfold f_rule_PutO.f
  rw [rmay_eq, h, Option.bind_some, if_neg (by decide), put4 _ q.a0 (by have := q.a1; omega), Option.bind_some, if_pos (by simp only [List.length_append, List.length_cons, List.length_nil]; omega)]
  have := q.a0; have := q.a1; have := q.l0; have := q.l1; have := q.i0; have := q.i1; have := q.p0; have := q.p1; have := q.k0; have := q.k1; have := q.o0; have := q.o1
  rw [u8_in r.1.2 (by omega) (by omega), IntWalk.i64_in (r.2.1 + 1) (by omega), u8_in (r.2.1 + 1) (by omega) (by omega), u8_in r.2.2.1 (by omega) (by omega), u8_in r.2.2.2.1 (by omega) (by omega), u8_in r.2.2.2.2 (by omega) (by omega)]
  rfl
def hby (m : Mg) : List Int := [m.1, m.2.1 / 65536, m.2.1 / 256 % 256, m.2.1 % 256, m.2.2.1 / 65536, m.2.2.1 / 256 % 256, m.2.2.1 % 256, m.2.2.2.1 / 256, m.2.2.2.1 % 256]
def mby (m : Mg) : List Int := if m.1 = (2 : Int) then hby m ++ rby m.2.2.2.2 else hby m
theorem mput (m : Mg) : f_msg_PutO.f 1000 m = some (if mmay m = true then mby m else [], (if mmay m = true then 0 else 1, ())) := by
  unfold f_msg_PutO.f
  rw [mmay_eq, Option.bind_some]
  by_cases h : mmay m = true
  · have q := mmay_ok h
    rw [h, if_neg (by decide), if_pos rfl, if_pos rfl, putall m.1 m.2.1 m.2.2.1 m.2.2.2.1 ⟨q.k0, by have := q.k1; omega⟩ ⟨by have := q.e0; omega, by have := q.e1; omega⟩ ⟨q.s0, by have := q.s1; omega⟩ ⟨q.t0, by have := q.t1; omega⟩, Option.bind_some, if_neg (show ¬ ((0 : Int) != 0) = true by decide), if_pos q.k0, if_pos q.k1]
    unfold f_msg_PutO.j1 mby
    have hk : (att Ta655 glob0 m.1).2.2 = (m.1 == (2 : Int)) := q.kx
    rw [hk]
    by_cases h2 : m.1 = (2 : Int)
    · rw [beq_iff_eq.2 h2, if_neg (by decide), rput _ (q.two h2), Option.bind_some, if_pos (show _ by unfold rby; simp only [List.length_append, List.length_cons, List.length_nil]; omega), if_pos h2]
      rfl
    · rw [beq_eq_false_iff_ne.2 h2, if_pos (show (!false) = true from rfl), if_neg h2]
      rfl
  · rw [Bool.eq_false_iff.2 h, if_pos (show (!(false, ()).1) = true from rfl), if_neg Bool.false_ne_true, if_neg Bool.false_ne_true]
noncomputable def stepG {R : Type} (o : Option (Int × Int × Unit)) (z : Int → Option R) (K : Int → Option R) : Option R := o.bind fun y => if (y.2.1 != (0 : Int)) = true then z y.2.1 else K y.1
theorem stepG_ok {R : Type} {o : Option (Int × Int × Unit)} {n : Int} {z : Int → Option R} {K : Int → Option R} (h : o = some (n, (0, ()))) : stepG o z K = K n := by
  subst h
  unfold stepG
  rw [Option.bind_some, if_neg (show ¬ ((0 : Int) != 0) = true by decide)]
abbrev B8 (x : Int) : Prop := 0 ≤ x ∧ x < 256
abbrev mz : Mg := (0, (0, (0, (0, ((0, 0), (0, (0, (0, 0))))))))
theorem getall9 (b0 b1 b2 b3 b4 b5 b6 b7 b8 : Int) (h0 : B8 b0) (h1 : B8 b1) (h2 : B8 b2) (h3 : B8 b3) (h4 : B8 b4) (h5 : B8 b5) (h6 : B8 b6) (h7 : B8 b7) (h8 : B8 b8) :
    f_octets_GetAll.f 1000 [b0, b1, b2, b3, b4, b5, b6, b7, b8] [1, 3, 3, 2] = some ([b0, (b1 * 256 + b2) * 256 + b3, (b4 * 256 + b5) * 256 + b6, b7 * 256 + b8], (9, (0, ()))) := by
  have e : f_octets_GetAll.f 1000 [b0, b1, b2, b3, b4, b5, b6, b7, b8] [1, 3, 3, 2] = stepG (f_octets_Get.f 1000 [b0, b1, b2, b3, b4, b5, b6, b7, b8] 1) (fun e => some ([], (0, (e, ())))) fun n0 => stepG (f_octets_Get.f 1000 [b1, b2, b3, b4, b5, b6, b7, b8] 3) (fun e => some ([], (0, (e, ())))) fun n1 => stepG (f_octets_Get.f 1000 [b4, b5, b6, b7, b8] 3) (fun e => some ([], (0, (e, ())))) fun n2 => stepG (f_octets_Get.f 1000 [b7, b8] 2) (fun e => some ([], (0, (e, ())))) fun n3 => some ([n0, n1, n2, n3], (9, (0, ()))) := by kernel_rfl
  rw [e, stepG_ok (get1 b0 _ h0), stepG_ok (get3 b1 b2 b3 _ h1 h2 h3), stepG_ok (get3 b4 b5 b6 _ h4 h5 h6), stepG_ok (get2 b7 b8 _ h7 h8)]
theorem getall18 (b0 b1 b2 b3 b4 b5 b6 b7 b8 c0 c1 c2 c3 c4 c5 c6 c7 c8 : Int) (h0 : B8 b0) (h1 : B8 b1) (h2 : B8 b2) (h3 : B8 b3) (h4 : B8 b4) (h5 : B8 b5) (h6 : B8 b6) (h7 : B8 b7) (h8 : B8 b8) :
    f_octets_GetAll.f 1000 [b0, b1, b2, b3, b4, b5, b6, b7, b8, c0, c1, c2, c3, c4, c5, c6, c7, c8] [1, 3, 3, 2] = some ([b0, (b1 * 256 + b2) * 256 + b3, (b4 * 256 + b5) * 256 + b6, b7 * 256 + b8], (9, (0, ()))) := by
  have e : f_octets_GetAll.f 1000 [b0, b1, b2, b3, b4, b5, b6, b7, b8, c0, c1, c2, c3, c4, c5, c6, c7, c8] [1, 3, 3, 2] = stepG (f_octets_Get.f 1000 [b0, b1, b2, b3, b4, b5, b6, b7, b8, c0, c1, c2, c3, c4, c5, c6, c7, c8] 1) (fun e => some ([], (0, (e, ())))) fun n0 => stepG (f_octets_Get.f 1000 [b1, b2, b3, b4, b5, b6, b7, b8, c0, c1, c2, c3, c4, c5, c6, c7, c8] 3) (fun e => some ([], (0, (e, ())))) fun n1 => stepG (f_octets_Get.f 1000 [b4, b5, b6, b7, b8, c0, c1, c2, c3, c4, c5, c6, c7, c8] 3) (fun e => some ([], (0, (e, ())))) fun n2 => stepG (f_octets_Get.f 1000 [b7, b8, c0, c1, c2, c3, c4, c5, c6, c7, c8] 2) (fun e => some ([], (0, (e, ())))) fun n3 => some ([n0, n1, n2, n3], (9, (0, ()))) := by kernel_rfl
  rw [e, stepG_ok (get1 b0 _ h0), stepG_ok (get3 b1 b2 b3 _ h1 h2 h3), stepG_ok (get3 b4 b5 b6 _ h4 h5 h6), stepG_ok (get2 b7 b8 _ h7 h8)]
theorem rget' (a l i p k o : Int) (h : rmay ((a, l), (i, (p, (k, o)))) = true) : f_rule_Get.f 1000 (rby ((a, l), (i, (p, (k, o))))) = some (((a, l), (i, (p, (k, o)))), (0, ())) := by
  have q := rmay_ok h
  have ha0 : 0 ≤ a := q.a0
  have ha1 : a ≤ 4294967295 := q.a1
  have hl : B8 l := ⟨q.l0, by have : l ≤ 32 := q.l1; omega⟩
  have hi : B8 (i + 1) := ⟨by have : -1 ≤ i := q.i0; omega, by have : i ≤ 7 := q.i1; omega⟩
  have hp : B8 p := ⟨q.p0, by have : p ≤ 255 := q.p1; omega⟩
  have hk : B8 k := ⟨q.k0, by have : k ≤ 1 := q.k1; omega⟩
  have ho : B8 o := ⟨q.o0, by have : o ≤ 7 := q.o1; omega⟩
  have e : f_rule_Get.f 1000 (rby ((a, l), (i, (p, (k, o))))) = stepG (f_octets_Get.f 1000 (rby ((a, l), (i, (p, (k, o))))) 4) (fun e => some (((0, 0), (0, (0, (0, 0)))), (2, ()))) fun n => (f_rule_May.f 1000 ((n, IntKind.i64.wrap l), (IntKind.i64.wrap (IntKind.i64.wrap (i + 1) - 1), (IntKind.i64.wrap p, (IntKind.i64.wrap k, IntKind.i64.wrap o))))).bind fun y => f_rule_Get.j1 1000 (!y.1) ((0, 0), (0, (0, (0, 0)))) ((n, IntKind.i64.wrap l), (IntKind.i64.wrap (IntKind.i64.wrap (i + 1) - 1), (IntKind.i64.wrap p, (IntKind.i64.wrap k, IntKind.i64.wrap o)))) := by kernel_rfl
  have g : f_octets_Get.f 1000 (rby ((a, l), (i, (p, (k, o))))) 4 = some (a, (0, ())) := by
    have := get4 (a / 16777216) (a / 65536 % 256) (a / 256 % 256) (a % 256) [l, i + 1, p, k, o] (by omega) (by omega) (by omega) (by omega)
    rw [show ((a / 16777216 * 256 + a / 65536 % 256) * 256 + a / 256 % 256) * 256 + a % 256 = a by omega] at this
    exact this
  rw [e, stepG_ok g, IntWalk.i64_in l (by omega), IntWalk.i64_in (i + 1) (by omega), IntWalk.i64_in (i + 1 - 1) (by omega), IntWalk.i64_in p (by omega), IntWalk.i64_in k (by omega), IntWalk.i64_in o (by omega), show i + 1 - 1 = i by omega, rmay_eq, h]
  rfl
theorem rget (r : Rl) (h : rmay r = true) : f_rule_Get.f 1000 (rby r) = some (r, (0, ())) := rget' _ _ _ _ _ _ h
theorem mget' (kd ep sq tg : Int) (r : Rl) (h : mmay (kd, (ep, (sq, (tg, r)))) = true) : f_msg_Get.f 1000 (mby (kd, (ep, (sq, (tg, r))))) = some ((kd, (ep, (sq, (tg, r)))), (0, ())) := by
  have q := mmay_ok h
  have hk0 : 0 ≤ kd := q.k0
  have hk1 : kd < 6 := q.k1
  have he0 : 1 ≤ ep := q.e0
  have he1 : ep ≤ 1048576 := q.e1
  have hs0 : 0 ≤ sq := q.s0
  have hs1 : sq ≤ 1048576 := q.s1
  have ht0 : 0 ≤ tg := q.t0
  have ht1 : tg ≤ 4095 := q.t1
  have v1 : (ep / 65536 * 256 + ep / 256 % 256) * 256 + ep % 256 = ep := by omega
  have v2 : (sq / 65536 * 256 + sq / 256 % 256) * 256 + sq % 256 = sq := by omega
  have v3 : tg / 256 * 256 + tg % 256 = tg := by omega
  have hj : f_msg_Get.j2 1000 mz (kd, (ep, (sq, (tg, r)))) = some ((kd, (ep, (sq, (tg, r)))), (0, ())) := by
    unfold f_msg_Get.j2
    rw [mmay_eq, h]
    rfl
  by_cases h2 : kd = 2
  · have hr : rmay r = true := q.two h2
    have eb : mby (kd, (ep, (sq, (tg, r)))) = hby (kd, (ep, (sq, (tg, r)))) ++ rby r := if_pos h2
    have g := getall18 kd (ep / 65536) (ep / 256 % 256) (ep % 256) (sq / 65536) (sq / 256 % 256) (sq % 256) (tg / 256) (tg % 256) (r.1.1 / 16777216) (r.1.1 / 65536 % 256) (r.1.1 / 256 % 256) (r.1.1 % 256) r.1.2 (r.2.1 + 1) r.2.2.1 r.2.2.2.1 r.2.2.2.2 (by omega) (by omega) (by omega) (by omega) (by omega) (by omega) (by omega) (by omega) (by omega)
    rw [v1, v2, v3] at g
    have e : f_msg_Get.f 1000 (hby (kd, (ep, (sq, (tg, r)))) ++ rby r) = (f_octets_GetAll.f 1000 (hby (kd, (ep, (sq, (tg, r)))) ++ rby r) [1, 3, 3, 2]).bind fun y1 => if (y1.2.2.1 != (0 : Int)) = true then some (mz, (y1.2.2.1, ())) else if (0 : Int) < (y1.1.length : Int) then if (1 : Int) < (y1.1.length : Int) then if (2 : Int) < (y1.1.length : Int) then if (3 : Int) < (y1.1.length : Int) then if ((att (.int .i64) y1.1 0) == (2 : Int)) = true then f_msg_Get.j1 1000 (hby (kd, (ep, (sq, (tg, r)))) ++ rby r) y1.2.1 18 mz ((att (.int .i64) y1.1 0), ((att (.int .i64) y1.1 1), ((att (.int .i64) y1.1 2), ((att (.int .i64) y1.1 3), ((0, 0), (0, (0, (0, 0)))))))) else f_msg_Get.j1 1000 (hby (kd, (ep, (sq, (tg, r)))) ++ rby r) y1.2.1 9 mz ((att (.int .i64) y1.1 0), ((att (.int .i64) y1.1 1), ((att (.int .i64) y1.1 2), ((att (.int .i64) y1.1 3), ((0, 0), (0, (0, (0, 0)))))))) else none else none else none else none := by kernel_rfl
    have g' : f_octets_GetAll.f 1000 (hby (kd, (ep, (sq, (tg, r)))) ++ rby r) [1, 3, 3, 2] = some ([kd, ep, sq, tg], (9, (0, ()))) := g
    rw [eb, e, g', Option.bind_some, if_neg (show ¬ ((0 : Int) != 0) = true by decide)]
    have e3 : (if (0 : Int) < (([kd, ep, sq, tg] : List Int).length : Int) then if (1 : Int) < (([kd, ep, sq, tg] : List Int).length : Int) then if (2 : Int) < (([kd, ep, sq, tg] : List Int).length : Int) then if (3 : Int) < (([kd, ep, sq, tg] : List Int).length : Int) then if (kd == (2 : Int)) = true then f_msg_Get.j1 1000 (hby (kd, (ep, (sq, (tg, r)))) ++ rby r) 9 18 mz (kd, (ep, (sq, (tg, ((0, 0), (0, (0, (0, 0)))))))) else f_msg_Get.j1 1000 (hby (kd, (ep, (sq, (tg, r)))) ++ rby r) 9 9 mz (kd, (ep, (sq, (tg, ((0, 0), (0, (0, (0, 0)))))))) else none else none else none else none) = f_msg_Get.j1 1000 (hby (kd, (ep, (sq, (tg, r)))) ++ rby r) 9 18 mz (kd, (ep, (sq, (tg, ((0, 0), (0, (0, (0, 0)))))))) := by
      rw [if_pos (by show (0 : Int) < ((4 : Nat) : Int); decide), if_pos (by show (1 : Int) < ((4 : Nat) : Int); decide), if_pos (by show (2 : Int) < ((4 : Nat) : Int); decide), if_pos (by show (3 : Int) < ((4 : Nat) : Int); decide), if_pos (beq_iff_eq.2 h2)]
    refine Eq.trans e3 ?_
    have e4 : f_msg_Get.j1 1000 (hby (kd, (ep, (sq, (tg, r)))) ++ rby r) 9 18 mz (kd, (ep, (sq, (tg, ((0, 0), (0, (0, (0, 0)))))))) = (f_rule_Get.f 1000 (rby r)).bind fun y12 => if (y12.2.1 != (0 : Int)) = true then some (mz, (2, ())) else f_msg_Get.j2 1000 mz (kd, (ep, (sq, (tg, y12.1)))) := by kernel_rfl
    rw [e4, rget r hr, Option.bind_some, if_neg (show ¬ ((0 : Int) != 0) = true by decide)]
    exact hj
  · have hr : r = ((0, 0), (0, (0, (0, 0)))) := q.not2 h2
    have eb : mby (kd, (ep, (sq, (tg, r)))) = hby (kd, (ep, (sq, (tg, r)))) := if_neg h2
    have g := getall9 kd (ep / 65536) (ep / 256 % 256) (ep % 256) (sq / 65536) (sq / 256 % 256) (sq % 256) (tg / 256) (tg % 256) (by omega) (by omega) (by omega) (by omega) (by omega) (by omega) (by omega) (by omega) (by omega)
    rw [v1, v2, v3] at g
    have g' : f_octets_GetAll.f 1000 (hby (kd, (ep, (sq, (tg, r))))) [1, 3, 3, 2] = some ([kd, ep, sq, tg], (9, (0, ()))) := g
    have e : f_msg_Get.f 1000 (hby (kd, (ep, (sq, (tg, r))))) = (f_octets_GetAll.f 1000 (hby (kd, (ep, (sq, (tg, r))))) [1, 3, 3, 2]).bind fun y1 => if (y1.2.2.1 != (0 : Int)) = true then some (mz, (y1.2.2.1, ())) else if (0 : Int) < (y1.1.length : Int) then if (1 : Int) < (y1.1.length : Int) then if (2 : Int) < (y1.1.length : Int) then if (3 : Int) < (y1.1.length : Int) then if ((att (.int .i64) y1.1 0) == (2 : Int)) = true then f_msg_Get.j1 1000 (hby (kd, (ep, (sq, (tg, r))))) y1.2.1 18 mz ((att (.int .i64) y1.1 0), ((att (.int .i64) y1.1 1), ((att (.int .i64) y1.1 2), ((att (.int .i64) y1.1 3), ((0, 0), (0, (0, (0, 0)))))))) else f_msg_Get.j1 1000 (hby (kd, (ep, (sq, (tg, r))))) y1.2.1 9 mz ((att (.int .i64) y1.1 0), ((att (.int .i64) y1.1 1), ((att (.int .i64) y1.1 2), ((att (.int .i64) y1.1 3), ((0, 0), (0, (0, (0, 0)))))))) else none else none else none else none := by kernel_rfl
    rw [eb, e, g', Option.bind_some, if_neg (show ¬ ((0 : Int) != 0) = true by decide)]
    have e3 : (if (0 : Int) < (([kd, ep, sq, tg] : List Int).length : Int) then if (1 : Int) < (([kd, ep, sq, tg] : List Int).length : Int) then if (2 : Int) < (([kd, ep, sq, tg] : List Int).length : Int) then if (3 : Int) < (([kd, ep, sq, tg] : List Int).length : Int) then if (kd == (2 : Int)) = true then f_msg_Get.j1 1000 (hby (kd, (ep, (sq, (tg, r))))) 9 18 mz (kd, (ep, (sq, (tg, ((0, 0), (0, (0, (0, 0)))))))) else f_msg_Get.j1 1000 (hby (kd, (ep, (sq, (tg, r))))) 9 9 mz (kd, (ep, (sq, (tg, ((0, 0), (0, (0, (0, 0)))))))) else none else none else none else none) = f_msg_Get.j1 1000 (hby (kd, (ep, (sq, (tg, r))))) 9 9 mz (kd, (ep, (sq, (tg, ((0, 0), (0, (0, (0, 0)))))))) := by
      rw [if_pos (by show (0 : Int) < ((4 : Nat) : Int); decide), if_pos (by show (1 : Int) < ((4 : Nat) : Int); decide), if_pos (by show (2 : Int) < ((4 : Nat) : Int); decide), if_pos (by show (3 : Int) < ((4 : Nat) : Int); decide), if_neg (by rw [beq_eq_false_iff_ne.2 h2]; exact Bool.false_ne_true)]
    refine Eq.trans e3 ?_
    have e4 : f_msg_Get.j1 1000 (hby (kd, (ep, (sq, (tg, r))))) 9 9 mz (kd, (ep, (sq, (tg, ((0, 0), (0, (0, (0, 0)))))))) = f_msg_Get.j2 1000 mz (kd, (ep, (sq, (tg, ((0, 0), (0, (0, (0, 0)))))))) := by kernel_rfl
    rw [e4, ← hr]
    exact hj
theorem mget (m : Mg) (h : mmay m = true) : f_msg_Get.f 1000 (mby m) = some (m, (0, ())) := mget' _ _ _ _ _ h
theorem oct_cons {x : Int} {xs : List Int} (h : B8 x) (k : Oct xs) : Oct (x :: xs) := fun y hy => (List.mem_cons.1 hy).elim (fun e => e ▸ h) (k y)
theorem oct_nil : Oct [] := fun y hy => by cases hy
theorem hby_oct (kd ep sq tg : Int) (r : Rl) (h : mmay (kd, (ep, (sq, (tg, r)))) = true) {xs : List Int} (hx : Oct xs) : Oct (hby (kd, (ep, (sq, (tg, r)))) ++ xs) := by
  have q := mmay_ok h
  have hk0 : 0 ≤ kd := q.k0
  have hk1 : kd < 6 := q.k1
  have he0 : 1 ≤ ep := q.e0
  have he1 : ep ≤ 1048576 := q.e1
  have hs0 : 0 ≤ sq := q.s0
  have hs1 : sq ≤ 1048576 := q.s1
  have ht0 : 0 ≤ tg := q.t0
  have ht1 : tg ≤ 4095 := q.t1
  refine oct_cons (x := kd) ⟨by omega, by omega⟩ (oct_cons (x := ep / 65536) ⟨by omega, by omega⟩ (oct_cons (x := ep / 256 % 256) ⟨by omega, by omega⟩ (oct_cons (x := ep % 256) ⟨by omega, by omega⟩ (oct_cons (x := sq / 65536) ⟨by omega, by omega⟩ (oct_cons (x := sq / 256 % 256) ⟨by omega, by omega⟩ (oct_cons (x := sq % 256) ⟨by omega, by omega⟩ (oct_cons (x := tg / 256) ⟨by omega, by omega⟩ (oct_cons (x := tg % 256) ⟨by omega, by omega⟩ hx))))))))
theorem rby_oct (a l i p k o : Int) (h : rmay ((a, l), (i, (p, (k, o)))) = true) : Oct (rby ((a, l), (i, (p, (k, o))))) := by
  have q := rmay_ok h
  have ha0 : 0 ≤ a := q.a0
  have ha1 : a ≤ 4294967295 := q.a1
  have l0 : 0 ≤ l := q.l0
  have l1 : l ≤ 32 := q.l1
  have i0 : -1 ≤ i := q.i0
  have i1 : i ≤ 7 := q.i1
  have p0 : 0 ≤ p := q.p0
  have p1 : p ≤ 255 := q.p1
  have k0 : 0 ≤ k := q.k0
  have k1 : k ≤ 1 := q.k1
  have o0 : 0 ≤ o := q.o0
  have o1 : o ≤ 7 := q.o1
  refine oct_cons (x := a / 16777216) ⟨by omega, by omega⟩ (oct_cons (x := a / 65536 % 256) ⟨by omega, by omega⟩ (oct_cons (x := a / 256 % 256) ⟨by omega, by omega⟩ (oct_cons (x := a % 256) ⟨by omega, by omega⟩ (oct_cons (x := l) ⟨by omega, by omega⟩ (oct_cons (x := i + 1) ⟨by omega, by omega⟩ (oct_cons (x := p) ⟨by omega, by omega⟩ (oct_cons (x := k) ⟨by omega, by omega⟩ (oct_cons (x := o) ⟨by omega, by omega⟩ oct_nil))))))))
def pre (m : Mg) : List Int := if m.1 = (2 : Int) then [197, 18] ++ (hby m ++ rby m.2.2.2.2) else [197, 9] ++ (hby m ++ [0])
theorem pre_len (m : Mg) : (pre m).length = if m.1 = (2 : Int) then 20 else 12 := by unfold pre; split <;> rfl
theorem pre_oct (m : Mg) (h : mmay m = true) : Oct (pre m) := by
  obtain ⟨kd, ep, sq, tg, ⟨a, l⟩, i, p, k, o⟩ := m
  unfold pre
  split
  · rename_i h2
    exact oct_cons (x := 197) ⟨by decide, by decide⟩ (oct_cons (x := 18) ⟨by decide, by decide⟩ (hby_oct _ _ _ _ _ h (rby_oct _ _ _ _ _ _ ((mmay_ok h).two h2))))
  · exact oct_cons (x := 197) ⟨by decide, by decide⟩ (oct_cons (x := 9) ⟨by decide, by decide⟩ (hby_oct _ _ _ _ _ h (oct_cons (x := 0) ⟨by decide, by decide⟩ oct_nil)))
theorem tot_mono (xs : List Int) (h : Oct xs) : ∀ d i, i + d ≤ xs.length → tot xs i ≤ tot xs (i + d)
  | 0, i, _ => Int.le_refl _
  | d + 1, i, hi => by
    have h1 := tot_mono xs h d i (by omega)
    have hl : i + d < xs.length := by omega
    have h2 := h xs[i + d] (List.getElem_mem hl)
    have e : tot xs (i + d + 1) = tot xs (i + d) + xs[i + d] * (if (i + d) % 2 = 0 then 256 else 1) := by simp only [tot, List.getElem?_eq_getElem hl, Option.getD_some]
    have : 0 ≤ xs[i + d] * (if (i + d) % 2 = 0 then 256 else 1) := by split <;> omega
    show tot xs i ≤ tot xs (i + d + 1)
    omega
theorem pre_pos (m : Mg) (h : mmay m = true) : 0 < tot (pre m) (pre m).length := by
  have h1 := tot_mono (pre m) (pre_oct m h) ((pre m).length - 1) 1 (by rw [pre_len]; split <;> omega)
  rw [show 1 + ((pre m).length - 1) = (pre m).length by rw [pre_len]; split <;> omega] at h1
  have h2 : tot (pre m) 1 = 197 * 256 := by
    have : (pre m)[0]? = some 197 := by unfold pre; split <;> rfl
    show tot (pre m) 0 + ((pre m)[0]?).getD 0 * (if 0 % 2 = 0 then 256 else 1) = _
    rw [this]; rfl
  omega
theorem seal_pre (m : Mg) (h : mmay m = true) : f_frame_Seal.f 1000 m = f_frame_Seal.j1 1000 (pre m) := by
  unfold f_frame_Seal.f
  rw [mput, if_pos h, if_pos h, Option.bind_some]
  unfold pre mby
  by_cases h2 : m.1 = (2 : Int)
  · rw [if_pos h2, if_pos h2]; kernel_rfl
  · rw [if_neg h2, if_neg h2]; kernel_rfl
theorem seal_no (m : Mg) (h : ¬ mmay m = true) : f_frame_Seal.f 1000 m = some ([], (1, ())) := by
  unfold f_frame_Seal.f
  rw [mput, if_neg h, if_neg h, Option.bind_some, if_pos (show ((1 : Int) != 0) = true by decide)]
theorem sealed (m : Mg) (h : mmay m = true) : ∃ hi lo : Int, f_frame_Seal.f 1000 m = some (pre m ++ [hi, lo], (0, ())) ∧ f_octets_Sum.f 1000 (pre m ++ [hi, lo]) = some (0, ()) := by
  have hl := pre_len m
  obtain ⟨hi, lo, h1, h2, h3, h4, h5⟩ := sum_sealed (pre m) (pre_oct m h) (by rw [hl]; split <;> omega) (by rw [hl]; split <;> rfl) (pre_pos m h)
  refine ⟨hi, lo, ?_, h5⟩
  rw [seal_pre m h]
  unfold f_frame_Seal.j1
  rw [h1, Option.bind_some, if_pos (by rw [hl]; split <;> omega), h2, h3]
theorem open6 (b : List Int) (n : Int) (hs : f_octets_Sum.f 1000 b = some (0, ())) : i_frame_Open_6_2b5.f 1000 b mz n = some (0, ()) := by
  unfold i_frame_Open_6_2b5.f
  rw [hs]
  rfl
theorem open_sealed (m : Mg) (h : mmay m = true) (hi lo : Int) (hs : f_octets_Sum.f 1000 (pre m ++ [hi, lo]) = some (0, ())) : f_frame_Open.f 1000 (pre m ++ [hi, lo]) = some (m, (0, ())) := by
  have g := mget m h
  unfold mby at g
  unfold pre at hs ⊢
  by_cases h2 : m.1 = (2 : Int)
  · rw [if_pos h2] at hs g ⊢
    have e : f_frame_Open.f 1000 ([197, 18] ++ (hby m ++ rby m.2.2.2.2) ++ [hi, lo]) = (i_frame_Open_6_2b5.f 1000 ([197, 18] ++ (hby m ++ rby m.2.2.2.2) ++ [hi, lo]) mz 18).bind fun y13 => if (y13.1 != (0 : Int)) = true then some (mz, (y13.1, ())) else (f_msg_Get.f 1000 (hby m ++ rby m.2.2.2.2)).bind fun y19 => some (y19.1, (y19.2.1, ())) := by kernel_rfl
    rw [e, open6 _ _ hs, Option.bind_some, if_neg (show ¬ ((0 : Int) != 0) = true by decide), g]
    rfl
  · rw [if_neg h2] at hs g ⊢
    have e : f_frame_Open.f 1000 ([197, 9] ++ (hby m ++ [0]) ++ [hi, lo]) = (i_frame_Open_6_2b5.f 1000 ([197, 9] ++ (hby m ++ [0]) ++ [hi, lo]) mz 9).bind fun y13 => if (y13.1 != (0 : Int)) = true then some (mz, (y13.1, ())) else (f_msg_Get.f 1000 (hby m)).bind fun y19 => some (y19.1, (y19.2.1, ())) := by kernel_rfl
    rw [e, open6 _ _ hs, Option.bind_some, if_neg (show ¬ ((0 : Int) != 0) = true by decide), g]
    rfl
theorem seal_open (m : Mg) (h : mmay m = true) : ∃ b, f_frame_Seal.f 1000 m = some (b, (0, ())) ∧ 0 < b.length ∧ b.length < 30 ∧ f_frame_Open.f 1000 b = some (m, (0, ())) := by
  obtain ⟨hi, lo, h1, h2⟩ := sealed m h
  have hl : (pre m ++ [hi, lo]).length = (pre m).length + 2 := by simp
  have hp := pre_len m
  exact ⟨_, h1, by rw [hl]; omega, by rw [hl, hp]; split <;> omega, open_sealed m h hi lo h2⟩
def withP (c : Ct) (p : List T23b6.T) : Ct := (c.1, (c.2.1, (c.2.2.1, (c.2.2.2.1, (c.2.2.2.2.1, (c.2.2.2.2.2.1, (c.2.2.2.2.2.2.1, (c.2.2.2.2.2.2.2.1, (p, (c.2.2.2.2.2.2.2.2.2.1, (c.2.2.2.2.2.2.2.2.2.2.1, (c.2.2.2.2.2.2.2.2.2.2.2.1, c.2.2.2.2.2.2.2.2.2.2.2.2))))))))))))
noncomputable def heardC (c : Ct) (sw : Int) (m : Mg) (e : Int) : Ct :=
  if isC c = true ∧ 0 ≤ sw ∧ sw < (c.2.2.2.2.2.2.2.2.1.length : Int) then
    if e = 0 ∧ m.1 = 0 then withP c (helloP c.2.2.2.2.2.2.2.2.1 sw m (lvC c sw) (stC c))
    else if e = 0 ∧ m.1 = 1 then withP c (ackP c.2.2.2.2.2.2.2.2.1 sw m)
    else (c.1, (c.2.1, (c.2.2.1, (c.2.2.2.1, (c.2.2.2.2.1, (c.2.2.2.2.2.1, (c.2.2.2.2.2.2.1, (c.2.2.2.2.2.2.2.1, (c.2.2.2.2.2.2.2.2.1, (c.2.2.2.2.2.2.2.2.2.1, (c.2.2.2.2.2.2.2.2.2.2.1, (c.2.2.2.2.2.2.2.2.2.2.2.1, IntKind.i64.wrap (c.2.2.2.2.2.2.2.2.2.2.2.2 + 1)))))))))))))
  else c
theorem heard_eq (c : Ct) (h : FewOf c) (sw : Int) (b : List Int) (m : Mg) (e : Int) (hb : f_frame_Open.f 1000 b = some (m, (e, ()))) : f_control_Heard.f 1000 c sw b = some (heardC c sw m e, ()) := by
  unfold f_control_Heard.f
  rw [qi_control_own_776m (h := h), Option.bind_some]
  dsimp only
  rw [qi_control_controller_is_559 (h := by have := h.q; omega), Option.bind_some]
  unfold heardC f_control_Heard.j1
  by_cases hc : ¬ isC c = true
  · rw [if_neg (show ¬ (isC c = true ∧ 0 ≤ sw ∧ sw < (c.2.2.2.2.2.2.2.2.1.length : Int)) from fun k => hc k.1), if_pos (by rw [show isB c.1.length c.2.1 c.2.2.1 c.2.2.2.2.2.1 c.2.2.2.2.2.2.2.1 c.2.2.2.2.2.2.2.2.1.length = false from Bool.eq_false_iff.2 hc]; rfl), if_pos rfl]
  replace hc := Decidable.not_not.1 hc
  have hq : isB c.1.length c.2.1 c.2.2.1 c.2.2.2.2.2.1 c.2.2.2.2.2.2.2.1 c.2.2.2.2.2.2.2.2.1.length = true := hc
  rw [if_neg (by rw [hq]; exact Bool.false_ne_true)]
  by_cases h0 : sw < 0
  · rw [if_pos (decide_eq_true h0), if_pos rfl, if_neg fun k => absurd k.2.1 (by omega)]
  rw [if_neg (by rw [decide_eq_false h0]; exact Bool.false_ne_true)]
  by_cases h1 : ¬ sw < (c.2.2.2.2.2.2.2.2.1.length : Int)
  · rw [if_pos (decide_eq_true (by omega)), if_neg fun k => h1 k.2.2]
  replace h1 := Decidable.not_not.1 h1
  rw [if_neg (by rw [decide_eq_false (by omega)]; exact Bool.false_ne_true), if_pos ⟨hc, by omega, h1⟩, hb, Option.bind_some]
  unfold f_control_Heard.j3 f_control_Heard.j4 f_control_Heard.j2
  dsimp only
  have hl := isB_live hq
  by_cases he : e = 0
  · rw [if_pos (beq_iff_eq.2 he)]
    by_cases k0 : m.1 = 0
    · rw [if_pos (beq_iff_eq.2 k0), if_pos ⟨he, k0⟩, qi_control_controller_hello_399 (hs := by omega) (hs1 := h1) (h0 := hl.1) (h1 := hl.2) (h2 := fun ht => isB_next hq ht) (hr := fun x hx => (h.r x hx).2), Option.bind_some]
      rfl
    · rw [if_neg (by rw [beq_iff_eq]; exact k0), if_pos (beq_iff_eq.2 he), if_neg (show ¬ (e = 0 ∧ m.1 = 0) from fun k => k0 k.2)]
      by_cases k1 : m.1 = 1
      · rw [if_pos (beq_iff_eq.2 k1), if_pos ⟨he, k1⟩, qi_control_controller_ack_399 (hs := by omega) (hs1 := h1) (ho := h.o), Option.bind_some]
        rfl
      · rw [if_neg (by rw [beq_iff_eq]; exact k1), if_neg (show ¬ (e = 0 ∧ m.1 = 1) from fun k => k1 k.2)]
  · have he' : (e == 0) = false := beq_eq_false_iff_ne.2 he
    simp only [he', Bool.false_eq_true, if_false, if_neg (show ¬ (e = 0 ∧ m.1 = 0) from fun k => he k.1), if_neg (show ¬ (e = 0 ∧ m.1 = 1) from fun k => he k.1)]
theorem bne_self (x : Int) : (x != x) = false := by simp
theorem ints_refl (xs : List Int) (h : xs.length < 1000) : f_ref02_Ints.f 1000 xs xs = some (true, ()) := by
  unfold f_ref02_Ints.f
  rw [if_neg (by rw [bne_self]; exact Bool.false_ne_true)]
  refine loop (fun m i => f_ref02_Ints.l1 1000 m xs xs (i : Int)) xs.length _ (fun m i hi => ?_) (fun m => ?_) 1000 (by omega)
  · simp only [f_ref02_Ints.l1, f_ref02_Ints.b1]
    rw [if_pos (by (first | omega | (dsimp only [Ty.T]; omega) | (simp only [decide_eq_true_eq, decide_eq_false_iff_not, Bool.not_eq_true, Ty.T]; omega) | (simp only [decide_eq_true_eq, decide_eq_false_iff_not, Ty.T]; omega) | (simp only [beq_iff_eq, bne_iff_ne, ne_eq, decide_eq_true_eq, Ty.T]; omega))), if_pos (by omega), if_pos (by omega), if_pos (by omega), if_neg (by rw [bne_self]; exact Bool.false_ne_true), wsucc i (by omega)]
  · simp only [f_ref02_Ints.l1, f_ref02_Ints.b1]
    rw [if_neg (by (first | omega | (dsimp only [Ty.T]; omega) | (simp only [decide_eq_true_eq, decide_eq_false_iff_not, Bool.not_eq_true, Ty.T]; omega) | (simp only [decide_eq_true_eq, decide_eq_false_iff_not, Ty.T]; omega) | (simp only [beq_iff_eq, bne_iff_ne, ne_eq, decide_eq_true_eq, Ty.T]; omega)))]
theorem given_refl (xs : List T713d.T) (h : xs.length < 1000) : f_ref21_given.f 1000 xs xs = some (true, ()) := by
  unfold f_ref21_given.f
  rw [if_neg (by rw [bne_self]; exact Bool.false_ne_true)]
  refine loop (fun m i => f_ref21_given.l1 xs xs 1000 m (i : Int)) xs.length _ (fun m i hi => ?_) (fun m => ?_) 1000 (by omega)
  · simp only [f_ref21_given.l1, f_ref21_given.b1]
    rw [if_pos (by (first | omega | (dsimp only [Ty.T]; omega) | (simp only [decide_eq_true_eq, decide_eq_false_iff_not, Bool.not_eq_true, Ty.T]; omega) | (simp only [decide_eq_true_eq, decide_eq_false_iff_not, Ty.T]; omega) | (simp only [beq_iff_eq, bne_iff_ne, ne_eq, decide_eq_true_eq, Ty.T]; omega))), if_pos (by omega), if_pos (by omega), if_pos (by omega), if_neg (by simp), wsucc i (by omega)]
  · simp only [f_ref21_given.l1, f_ref21_given.b1]
    rw [if_neg (by (first | omega | (dsimp only [Ty.T]; omega) | (simp only [decide_eq_true_eq, decide_eq_false_iff_not, Bool.not_eq_true, Ty.T]; omega) | (simp only [decide_eq_true_eq, decide_eq_false_iff_not, Ty.T]; omega) | (simp only [beq_iff_eq, bne_iff_ne, ne_eq, decide_eq_true_eq, Ty.T]; omega)))]
theorem msgs_refl (xs : List T4414.T) (h : xs.length < 1000) : f_ref15_Msgs.f 1000 xs xs = some (true, ()) := by
  unfold f_ref15_Msgs.f
  rw [if_neg (by rw [bne_self]; exact Bool.false_ne_true)]
  refine loop (fun m i => f_ref15_Msgs.l1 1000 m xs xs (i : Int)) xs.length _ (fun m i hi => ?_) (fun m => ?_) 1000 (by omega)
  · simp only [f_ref15_Msgs.l1, f_ref15_Msgs.b1]
    rw [if_pos (by (first | omega | (dsimp only [Ty.T]; omega) | (simp only [decide_eq_true_eq, decide_eq_false_iff_not, Bool.not_eq_true, Ty.T]; omega) | (simp only [decide_eq_true_eq, decide_eq_false_iff_not, Ty.T]; omega) | (simp only [beq_iff_eq, bne_iff_ne, ne_eq, decide_eq_true_eq, Ty.T]; omega))), if_pos (by omega), if_pos (by omega), if_pos (by omega), if_neg (by simp), wsucc i (by omega)]
  · simp only [f_ref15_Msgs.l1, f_ref15_Msgs.b1]
    rw [if_neg (by (first | omega | (dsimp only [Ty.T]; omega) | (simp only [decide_eq_true_eq, decide_eq_false_iff_not, Bool.not_eq_true, Ty.T]; omega) | (simp only [decide_eq_true_eq, decide_eq_false_iff_not, Ty.T]; omega) | (simp only [beq_iff_eq, bne_iff_ne, ne_eq, decide_eq_true_eq, Ty.T]; omega)))]
theorem rules_refl (xs : List T1383.T) (h : xs.length < 1000) : f_ref08_Same.f 1000 xs xs = some (true, ()) := by
  unfold f_ref08_Same.f
  rw [if_neg (by rw [bne_self]; exact Bool.false_ne_true)]
  refine loop (fun m i => f_ref08_Same.l1 1000 m xs xs (i : Int)) xs.length _ (fun m i hi => ?_) (fun m => ?_) 1000 (by omega)
  · simp only [f_ref08_Same.l1, f_ref08_Same.b1]
    rw [if_pos (by (first | omega | (dsimp only [Ty.T]; omega) | (simp only [decide_eq_true_eq, decide_eq_false_iff_not, Bool.not_eq_true, Ty.T]; omega) | (simp only [decide_eq_true_eq, decide_eq_false_iff_not, Ty.T]; omega) | (simp only [beq_iff_eq, bne_iff_ne, ne_eq, decide_eq_true_eq, Ty.T]; omega))), if_pos (by omega), if_pos (by omega), if_pos (by omega), if_neg (by simp), wsucc i (by omega)]
  · simp only [f_ref08_Same.l1, f_ref08_Same.b1]
    rw [if_neg (by (first | omega | (dsimp only [Ty.T]; omega) | (simp only [decide_eq_true_eq, decide_eq_false_iff_not, Bool.not_eq_true, Ty.T]; omega) | (simp only [decide_eq_true_eq, decide_eq_false_iff_not, Ty.T]; omega) | (simp only [beq_iff_eq, bne_iff_ne, ne_eq, decide_eq_true_eq, Ty.T]; omega)))]
theorem peers_refl (xs : List T23b6.T) (h : xs.length < 1000) (ho : ∀ y ∈ xs, y.2.2.2.2.length ≤ 100) : f_ref21_peers.f 1000 xs xs = some (true, ()) := by
  unfold f_ref21_peers.f
  rw [if_neg (by rw [bne_self]; exact Bool.false_ne_true)]
  refine loop (fun m i => f_ref21_peers.l1 xs xs 1000 m (i : Int)) xs.length _ (fun m i hi => ?_) (fun m => ?_) 1000 (by omega)
  · have hy := ho _ (List.getElem_mem hi)
    have hs : ∀ s : Tb104.T, s.2.2.length < 1000 → f_ref15_Same.f 1000 s s = some (true, ()) := by
      intro s hs
      unfold f_ref15_Same.f
      rw [msgs_refl _ hs, Option.bind_some, if_pos rfl, if_pos (beq_iff_eq.2 rfl), show (s.2.1 == s.2.1) = true from beq_iff_eq.2 rfl]
    simp only [f_ref21_peers.l1, f_ref21_peers.b1, f_ref21_peers.j2]
    rw [if_pos (by (first | omega | (dsimp only [Ty.T]; omega) | (simp only [decide_eq_true_eq, decide_eq_false_iff_not, Bool.not_eq_true, Ty.T]; omega) | (simp only [decide_eq_true_eq, decide_eq_false_iff_not, Ty.T]; omega) | (simp only [beq_iff_eq, bne_iff_ne, ne_eq, decide_eq_true_eq, Ty.T]; omega))), if_pos (by omega), if_pos (by omega), if_pos (by omega), att_n (e := T23b6) xs i hi, hs _ (by omega), Option.bind_some, if_neg (by decide), if_neg (by rw [bne_self]; exact Bool.false_ne_true), bne_self, if_neg Bool.false_ne_true, wsucc i (by omega)]
  · simp only [f_ref21_peers.l1, f_ref21_peers.b1]
    rw [if_neg (by (first | omega | (dsimp only [Ty.T]; omega) | (simp only [decide_eq_true_eq, decide_eq_false_iff_not, Bool.not_eq_true, Ty.T]; omega) | (simp only [decide_eq_true_eq, decide_eq_false_iff_not, Ty.T]; omega) | (simp only [beq_iff_eq, bne_iff_ne, ne_eq, decide_eq_true_eq, Ty.T]; omega)))]
theorem confs_refl (xs : List (List (List Rl))) (h : xs.length < 1000) (ho : ∀ x ∈ xs, x.length ≤ 10 ∧ ∀ l ∈ x, l.length ≤ 60) : f_ref21_Confs.f 1000 xs xs = some (true, ()) := by
  unfold f_ref21_Confs.f
  rw [if_neg (by rw [bne_self]; exact Bool.false_ne_true)]
  refine loop (fun m i => f_ref21_Confs.l1 xs xs 1000 m (i : Int)) xs.length _ (fun m i hi => ?_) (fun m => ?_) 1000 (by omega)
  · have hx := ho _ (List.getElem_mem hi)
    have hx1 : xs[i].length ≤ 10 := hx.1
    simp only [f_ref21_Confs.l1, f_ref21_Confs.b1]
    rw [if_pos (by (first | omega | (dsimp only [Ty.T]; omega) | (simp only [decide_eq_true_eq, decide_eq_false_iff_not, Bool.not_eq_true, Ty.T]; omega) | (simp only [decide_eq_true_eq, decide_eq_false_iff_not, Ty.T]; omega) | (simp only [beq_iff_eq, bne_iff_ne, ne_eq, decide_eq_true_eq, Ty.T]; omega))), if_pos (by omega), if_pos (by omega), if_pos (by omega), if_neg (by rw [bne_self]; exact Bool.false_ne_true)]
    refine loop (fun q j => f_ref21_Confs.l2 xs xs (f_ref21_Confs.l1 xs xs 1000 m) 1000 q (i : Int) (j : Int)) (xs[i]).length _ (fun q j hj => ?_) (fun q => ?_) 1000 (by omega)
    · have hy := hx.2 _ (List.getElem_mem hj)
      simp only [f_ref21_Confs.l2, f_ref21_Confs.b2]
      rw [att_n (e := .slice (.slice T1383)) xs i hi, if_pos (by omega), if_pos (by omega), if_pos (by (first | omega | (dsimp only [Ty.T]; omega) | (simp only [decide_eq_true_eq, decide_eq_false_iff_not, Bool.not_eq_true, Ty.T]; omega) | (simp only [decide_eq_true_eq, decide_eq_false_iff_not, Ty.T]; omega) | (simp only [beq_iff_eq, bne_iff_ne, ne_eq, decide_eq_true_eq, Ty.T]; omega))), if_pos (by omega), if_pos (by omega), if_pos (by omega), if_pos (by omega), att_n (e := .slice T1383) xs[i] j hj, rules_refl _ (by omega), Option.bind_some, if_neg (by decide), wsucc j (by omega)]
    · simp only [f_ref21_Confs.l2, f_ref21_Confs.b2]
      rw [att_n (e := .slice (.slice T1383)) xs i hi, if_pos (by omega), if_pos (by omega), if_neg (by (first | omega | (dsimp only [Ty.T]; omega) | (simp only [decide_eq_true_eq, decide_eq_false_iff_not, Bool.not_eq_true, Ty.T]; omega) | (simp only [decide_eq_true_eq, decide_eq_false_iff_not, Ty.T]; omega) | (simp only [beq_iff_eq, bne_iff_ne, ne_eq, decide_eq_true_eq, Ty.T]; omega))), wsucc i (by omega)]
  · simp only [f_ref21_Confs.l1, f_ref21_Confs.b1]
    rw [if_neg (by (first | omega | (dsimp only [Ty.T]; omega) | (simp only [decide_eq_true_eq, decide_eq_false_iff_not, Bool.not_eq_true, Ty.T]; omega) | (simp only [decide_eq_true_eq, decide_eq_false_iff_not, Ty.T]; omega) | (simp only [beq_iff_eq, bne_iff_ne, ne_eq, decide_eq_true_eq, Ty.T]; omega)))]
theorem same_refl (c : Ct) (h : FewOf c) : f_ref21_Same.f 1000 c c = some (true, ()) := by
  have f1 := h.c
  have f2 := h.p
  have f3 := h.q
  have f4 := h.g
  have f5 := h.d
  have f6 := h.u
  have b : ∀ x : Int, (x == x) = true := fun x => beq_iff_eq.2 rfl
  unfold f_ref21_Same.f
  rw [confs_refl _ (by omega) h.r, Option.bind_some, peers_refl _ (by omega) h.o, Option.bind_some, given_refl _ (by omega), Option.bind_some, ints_refl _ (by omega), Option.bind_some, ints_refl _ (by omega), Option.bind_some, ints_refl _ (by omega), Option.bind_some]
  unfold f_ref21_Same.j2 f_ref21_Same.j1
  rw [if_pos (b _), if_pos (b _), if_pos (b _), if_pos (b _), if_pos (b _), b, b]
  rfl
theorem live_any (k : Nat) (hk : 10 ≤ k) (c : Ct) (hq : c.2.2.2.2.2.2.2.1.length < k) (hq2 : c.2.2.2.2.2.2.2.1.length ≤ 9223372036854775807) (hr : ∀ x ∈ c.1, ∀ l ∈ x, l.length * 48 ≤ 140737488355328) (sw : Int) : f_control_Live.f k c sw = some (if isC c = true then (lvC c sw, (stC c, ())) else ([], (0, ()))) := by
  unfold f_control_Live.f
  rw [gi_control_controller_is_e28 hk c hq hq2, Option.bind_some]
  by_cases hc : isC c = true
  · have hb : isB c.1.length c.2.1 c.2.2.1 c.2.2.2.2.2.1 c.2.2.2.2.2.2.2.1 c.2.2.2.2.2.2.2.2.1.length = true := hc
    have hl := isB_live hb
    rw [if_pos hc, if_pos hb, gi_control_controller_live_258 hk sw c hl.1 hl.2 (fun ht => isB_next hb ht) hr, Option.bind_some]
    rfl
  · rw [if_neg hc]
    exact if_neg hc
theorem P_ControlAcks (x0 : Ct) (x1 x2 x3 x4 : Int) (hw : Wf T26b3 x0) (_ : Wf (.int .i64) x1) (_ : Wf (.int .i64) x2) (_ : Wf (.int .i64) x3) (_ : Wf (.int .i64) x4) (hs : Sz T26b3 x0) : ∃ k, f_law21_ControlAcks.f k x0 x1 x2 x3 x4 = some (true, ()) := by
  refine ⟨fun n => if n = 11 then 1000 + x0.2.2.2.2.2.2.2.1.length else 1000, ?_⟩
  have hr : ∀ x ∈ x0.1, ∀ l ∈ x, l.length * 48 ≤ 140737488355328 := fun x hx l hl => by
    have h1 := ((hs.1.2 x hx).2 l hl).1
    have h2 : l.length * 48 ≤ reachBytes := h1
    unfold reachBytes at h2
    omega
  have hq2 : x0.2.2.2.2.2.2.2.1.length ≤ 9223372036854775807 := by
    have h1 := hw.2.2.2.2.2.2.2.1.1
    have h2 : x0.2.2.2.2.2.2.2.1.length ≤ maxLen := h1
    unfold maxLen at h2
    omega
  unfold f_law21_ControlAcks.f
  obtain ⟨b, hb, hf⟩ := fewC x0
  generalize hK : (fun n => if n = 11 then 1000 + x0.2.2.2.2.2.2.2.1.length else 1000) = K
  have k8 : K 8 = 1000 := by rw [← hK]; rfl
  have k9 : K 9 = 1000 := by rw [← hK]; rfl
  have k10 : K 10 = 1000 := by rw [← hK]; rfl
  have k11 : K 11 = 1000 + x0.2.2.2.2.2.2.2.1.length := by rw [← hK]; rfl
  rw [k8, k9, k10, k11, awake21, Option.bind_some, hb, Option.bind_some]
  have k13 : K 13 = 1000 := by rw [← hK]; rfl
  have k14 : K 14 = 1000 := by rw [← hK]; rfl
  have k12 : K 12 = 1000 := by rw [← hK]; rfl
  have hj : ∀ bs, f_law21_ControlAcks.j1 x0 x1 x2 x3 x4 K true bs true = some (true, ()) := fun bs => rfl
  have hlv := live_any (1000 + x0.2.2.2.2.2.2.2.1.length) (by omega) x0 (by omega) hq2 hr x1
  by_cases hm : ¬ mmay ((1, (x2, (x3, (x4, ((0, 0), (0, (0, (0, 0)))))))) : Mg) = true
  · rw [seal_no _ hm, Option.bind_some, hlv, Option.bind_some, if_neg (show ¬ (!(true, ()).1) = true by decide)]
    dsimp only
    rw [hj, if_pos (show ((1 : Int) != 0) = true by decide)]
    split <;> rfl
  replace hm := Decidable.not_not.1 hm
  obtain ⟨bs, s1, s2, s3, s4⟩ := seal_open _ hm
  rw [s1, Option.bind_some, hlv, Option.bind_some, if_neg (show ¬ (!(true, ()).1) = true by decide)]
  dsimp only
  rw [hj]
  cases b with
  | false => rfl
  | true =>
    have h := hf rfl
    rw [if_neg (show ¬ (!true) = true by decide), if_neg (show ¬ ((0 : Int) != 0) = true by decide)]
    by_cases g0 : x1 < 0
    · rw [if_pos (decide_eq_true g0)]
    rw [if_neg (by rw [decide_eq_false g0]; exact Bool.false_ne_true)]
    by_cases g1 : ¬ x1 < (x0.2.2.2.2.2.2.2.2.1.length : Int)
    · rw [if_pos (decide_eq_true (by omega))]
    replace g1 := Decidable.not_not.1 g1
    rw [if_neg (by rw [decide_eq_false (by omega)]; exact Bool.false_ne_true)]
    by_cases hc : ¬ isC x0 = true
    · rw [if_neg hc]
      exact hj bs
    replace hc := Decidable.not_not.1 hc
    rw [if_pos hc]
    dsimp only
    cases hst : (stC x0 == (0 : Int)) with
    | true => exact hj bs
    | false =>
      unfold f_law21_ControlAcks.j1
      rw [if_neg Bool.false_ne_true, if_pos (by omega), if_pos g1]
      have hp : ∀ y, f_law21_ControlAcks.j2 x0 x1 x2 x3 x4 K bs true y = some (true, ()) := fun y => rfl
      generalize hy : att T23b6 x0.2.2.2.2.2.2.2.2.1 x1 = y
      by_cases n1 : y.2.2.2.1 < (1 : Int)
      · rw [if_pos (decide_eq_true n1), hp]
      rw [if_neg (by rw [decide_eq_false n1]; exact Bool.false_ne_true)]
      by_cases n2 : y.2.2.2.1 > (1000 : Int)
      · rw [decide_eq_true n2, hp]
      rw [decide_eq_false n2]
      unfold f_law21_ControlAcks.j2
      have he : heardC x0 x1 (1, (x2, (x3, (x4, ((0, 0), (0, (0, (0, 0)))))))) 0 = withP x0 (ackP x0.2.2.2.2.2.2.2.2.1 x1 (1, (x2, (x3, (x4, ((0, 0), (0, (0, (0, 0))))))))) := by
        unfold heardC
        rw [if_pos ⟨hc, by omega, g1⟩, if_neg (show ¬ ((0 : Int) = 0 ∧ (1 : Int) = 0) by decide), if_pos ⟨rfl, rfl⟩]
      rw [if_neg Bool.false_ne_true, k12, heard_eq x0 h x1 bs _ 0 s4, Option.bind_some, he]
      dsimp only
      have hsame : withP x0 (ackP x0.2.2.2.2.2.2.2.2.1 x1 (1, (x2, (x3, (x4, ((0, 0), (0, (0, (0, 0))))))))) = x0 → ∀ z, f_law21_ControlAcks.j3 x0 x1 x2 x3 x4 K true z (withP x0 (ackP x0.2.2.2.2.2.2.2.2.1 x1 (1, (x2, (x3, (x4, ((0, 0), (0, (0, (0, 0)))))))))) = some (true, ()) := by
        intro e z
        unfold f_law21_ControlAcks.j3
        rw [e, k13, if_pos rfl, same_refl x0 h, Option.bind_some]
      have hno : ¬ (x2 = y.1 ∧ x3 ≥ IntKind.i64.wrap (IntKind.i64.wrap (y.2.2.2.1 - 1) - (y.2.2.2.2.length : Int)) ∧ x3 < y.2.2.2.1) → withP x0 (ackP x0.2.2.2.2.2.2.2.2.1 x1 (1, (x2, (x3, (x4, ((0, 0), (0, (0, (0, 0))))))))) = x0 := by
        intro hn
        unfold ackP
        rw [hy, if_neg hn]
        rfl
      by_cases e1 : x2 = y.1
      · rw [if_neg (by rw [bne_iff_ne]; exact fun k => k e1)]
        by_cases e2 : x3 ≥ y.2.2.2.1
        · rw [if_pos (decide_eq_true e2)]
          exact hsame (hno fun k => absurd k.2.2 (Int.not_lt.2 e2)) _
        rw [if_neg (by rw [decide_eq_false e2]; exact Bool.false_ne_true)]
        by_cases e3 : x3 < IntKind.i64.wrap (IntKind.i64.wrap (y.2.2.2.1 - 1) - (y.2.2.2.2.length : Int))
        · rw [decide_eq_true e3]
          exact hsame (hno fun k => absurd e3 (Int.not_lt.2 k.2.1)) _
        rw [decide_eq_false e3]
        unfold f_law21_ControlAcks.j3
        have hA : ackP x0.2.2.2.2.2.2.2.2.1 x1 (1, (x2, (x3, (x4, ((0, 0), (0, (0, (0, 0)))))))) = x0.2.2.2.2.2.2.2.2.1.set x1.toNat (y.1, (x4, sdone y.2.2 x2 x3)) := by
          unfold ackP
          rw [hy, if_pos ⟨e1, Int.not_lt.1 e3, Int.not_le.1 e2⟩]
        generalize hP : ackP x0.2.2.2.2.2.2.2.2.1 x1 (1, (x2, (x3, (x4, ((0, 0), (0, (0, (0, 0)))))))) = P at *
        have hPl : P.length = x0.2.2.2.2.2.2.2.2.1.length := by rw [hA, List.length_set]
        have hPa : att T23b6 P x1 = (y.1, (x4, sdone y.2.2 x2 x3)) := by rw [hA]; exact att_set (e := T23b6) _ _ (by omega) g1
        have hwp : (withP x0 P).2.2.2.2.2.2.2.2.1 = P := rfl
        have hyo : y.2.2.2.2.length ≤ 100 := by rw [← hy]; exact h.o _ (att_mem (e := T23b6) _ (by omega) g1)
        rw [if_neg Bool.false_ne_true, hwp, if_pos (decide_eq_true (by omega)), if_pos (by omega), if_pos (by omega), hPa, if_pos (beq_iff_eq.2 rfl), k14, done_eq 1000 _ _ _ (by omega) (by omega), Option.bind_some]
        dsimp only
        rw [show (((sdone y.2.2 x2 x3).2.2.length : Int) == ((sdone y.2.2 x2 x3).2.2.length : Int)) = true from beq_iff_eq.2 rfl]
      · rw [if_pos (by rw [bne_iff_ne]; exact e1)]
        exact hsame (hno fun k => e1 k.1) _
end Go.Proofs.YtkhjemahenkdiaaDoor.V
