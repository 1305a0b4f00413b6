/- What the law needs of plain Lean, and the law itself over it. -/
import Derived.Test.YthfdkmbijjkmaaaDoorVF1
import Derived.Test.YthfdkmbijjkmaaaDoorVBase
import Derived.IntWalk
import Derived.Test.YthfdkmbijjkmaaaDoorVZ
namespace Go.Proofs.YthfdkmbijjkmaaaDoor.V
open Go Go.RowKit
set_option synthInstance.maxSize 2000
set_option synthInstance.maxHeartbeats 200000
set_option linter.unusedVariables false
set_option linter.unusedSimpArgs false
set_option maxRecDepth 10000
theorem wsucc (i : Nat) (h : i < 1000000) : IntKind.i64.wrap ((i : Int) + 1) = ((i + 1 : Nat) : Int) := by rw [IntWalk.i64_in _ (by omega)]; omega
theorem att_n {e : Ty} (xs : List e.T) (i : Nat) (h : i < xs.length) : att e xs (i : Int) = xs[i] := by
  unfold att
  rw [Int.toNat_natCast, List.getElem?_eq_getElem h]
  rfl
theorem loop_at {R : Type} (B : Nat → Nat → Option R) (j : Nat) (r : Option R) (step : ∀ m i, i < j → B (m + 1) i = B m (i + 1)) (fin : ∀ m, B (m + 1) j = r) : ∀ d i m, i + d = j → d < m → B m i = r
  | 0, i, m + 1, h, _ => by rw [show i = j by omega]; exact fin m
  | d + 1, i, m + 1, h, hm => by rw [step m i (by omega)]; exact loop_at B j r step fin d (i + 1) m (by omega) (by omega)
theorem loop {R : Type} (B : Nat → Nat → Option R) (j : Nat) (r : Option R) (step : ∀ m i, i < j → B (m + 1) i = B m (i + 1)) (fin : ∀ m, B (m + 1) j = r) (m : Nat) (hm : j < m) : B m 0 = r := loop_at B j r step fin j 0 m (by omega) hm
theorem fi_not {α : Type} {p : α → Bool} {xs : List α} {i : Nat} (hi : i < xs.findIdx p) (hl : i < xs.length) : p xs[i] = false := by simpa using List.not_of_lt_findIdx hi
abbrev Rl := T1383.T
abbrev Vr := T814c.T
def hasTag (tag : Int) (v : Vr) : Bool := v.1 == tag
def tagAt (t : List Vr) (tag : Int) : Nat := t.findIdx (hasTag tag)
theorem tagAt_le (t : List Vr) (tag : Int) : tagAt t tag ≤ t.length := List.findIdx_le_length
theorem index_ver (k : Nat) (t : List Vr) (tag : Int) (hk : t.length < k) (hs : t.length < 1000000) : i_slices_IndexFunc_Ver_3c9.f k t tag = some (if tagAt t tag < t.length then (tagAt t tag : Int) else -1, (tag, ())) := by
  have hle := tagAt_le t tag
  refine loop (fun m i => i_slices_IndexFunc_Ver_3c9.l1 k m t (t.length : Int) (i : Int) tag) (tagAt t tag) _ (fun m i hi => ?_) (fun m => ?_) k (by omega)
  · have hl : i < t.length := by omega
    have hn : (t[i].1 == tag) = false := fi_not (p := hasTag tag) hi hl
    simp only [i_slices_IndexFunc_Ver_3c9.l1, i_slices_IndexFunc_Ver_3c9.b1, i_table_at_1_8ee.f, att_n t i hl]
    rw [if_pos (by simp; exact hl), if_pos (by omega), if_pos (by omega)]
    simp only [Option.bind_some, hn]
    rw [wsucc i (by omega)]
    simp
  · by_cases hl : tagAt t tag < t.length
    · have hn : (t[tagAt t tag].1 == tag) = true := List.findIdx_getElem (p := hasTag tag) (w := hl)
      simp only [i_slices_IndexFunc_Ver_3c9.l1, i_slices_IndexFunc_Ver_3c9.b1, i_table_at_1_8ee.f, att_n t _ hl]
      rw [if_pos (by simp; exact hl), if_pos (by omega), if_pos (by omega)]
      simp only [Option.bind_some, hn, if_pos hl, if_true]
    · have : tagAt t tag = t.length := by omega
      simp only [i_slices_IndexFunc_Ver_3c9.l1, i_slices_IndexFunc_Ver_3c9.b1, if_neg hl]
      rw [if_neg (by simp; omega)]
theorem at_eq (k : Nat) (t : List Vr) (tag : Int) (hk : t.length < k) (hs : t.length < 1000000) : f_table_at.f k t tag = some ((tagAt t tag : Int), ()) := by
  have hle := tagAt_le t tag
  unfold f_table_at.f i_table_first_Ver_3c9.f
  rw [index_ver k t tag hk hs]
  simp only [Option.bind_some]
  by_cases hl : tagAt t tag < t.length
  · rw [if_pos hl, if_pos (by simp)]; rfl
  · rw [if_neg hl, if_neg (by simp), show tagAt t tag = t.length by omega]; rfl
theorem few_eq (k : Nat) (t : List Vr) (hk : 20 < k) : f_law09_Few.f k t = some (decide (t.length ≤ 20) && t.all fun v => decide (v.2.length ≤ 60), ()) := by
  unfold f_law09_Few.f
  by_cases h : t.length ≤ 20
  · rw [if_neg (by simp; omega)]
    have hle : t.findIdx (fun v => decide (60 < v.2.length)) ≤ t.length := List.findIdx_le_length
    refine loop (fun m i => f_law09_Few.l1 k m t (i : Int)) (t.findIdx fun v => decide (60 < v.2.length)) _ (fun m i hi => ?_) (fun m => ?_) k (by omega)
    · have hl : i < t.length := by omega
      have hn := fi_not (p := fun v : Vr => decide (60 < v.2.length)) hi hl
      simp only [decide_eq_false_iff_not] at hn
      simp only [f_law09_Few.l1, f_law09_Few.b1, att_n t i hl]
      rw [if_pos (by simp; exact hl), if_pos (by omega), if_pos (by omega), if_neg (by simp; omega), wsucc i (by omega)]
    · by_cases hl : t.findIdx (fun v => decide (60 < v.2.length)) < t.length
      · have hn := List.findIdx_getElem (p := fun v : Vr => decide (60 < v.2.length)) (w := hl)
        simp only [f_law09_Few.l1, f_law09_Few.b1, att_n t _ hl]
        have hn2 : 60 < t[t.findIdx fun v => decide (60 < v.2.length)].2.length := by simpa using hn
        rw [if_pos (by (first | omega | (dsimp only [Ty.T]; omega) | (simp only [decide_eq_true_eq, decide_eq_false_iff_not, Bool.not_eq_true, Ty.T]; omega) | (simp only [decide_eq_true_eq, decide_eq_false_iff_not, Ty.T]; omega) | (simp only [beq_iff_eq, bne_iff_ne, ne_eq, decide_eq_true_eq, Ty.T]; omega))), if_pos (by omega), if_pos (by omega), if_pos (by (first | omega | (dsimp only [Ty.T]; omega) | (simp only [decide_eq_true_eq, decide_eq_false_iff_not, Bool.not_eq_true, Ty.T]; omega) | (simp only [decide_eq_true_eq, decide_eq_false_iff_not, Ty.T]; omega) | (simp only [beq_iff_eq, bne_iff_ne, ne_eq, decide_eq_true_eq, Ty.T]; omega)))]
        have : (t.all fun v => decide (v.2.length ≤ 60)) = false := by
          rw [List.all_eq_false]
          exact ⟨_, List.getElem_mem hl, by simpa using hn⟩
        rw [this]; simp
      · simp only [f_law09_Few.l1, f_law09_Few.b1]
        rw [if_neg (by (first | omega | (dsimp only [Ty.T]; omega) | (simp only [decide_eq_true_eq, decide_eq_false_iff_not, Bool.not_eq_true, Ty.T]; omega) | (simp only [decide_eq_true_eq, decide_eq_false_iff_not, Ty.T]; omega) | (simp only [beq_iff_eq, bne_iff_ne, ne_eq, decide_eq_true_eq, Ty.T]; omega)))]
        have : (t.all fun v => decide (v.2.length ≤ 60)) = true := by
          rw [List.all_eq_true]
          intro x hx
          have h2 := List.findIdx_eq_length.1 (show t.findIdx (fun v => decide (60 < v.2.length)) = t.length by omega) x hx
          have h3 : decide (60 < x.2.length) = false := h2
          rw [decide_eq_false_iff_not] at h3
          rw [decide_eq_true_eq]
          exact Nat.le_of_not_lt h3
        rw [this]; simp [h]
  · rw [if_pos (by simp; omega)]; simp [h]
def sizeOf' (t : List Vr) : Nat := (t.map fun v => v.2.length).sum
theorem size_take (t : List Vr) (i : Nat) (h : i < t.length) : sizeOf' (t.take (i + 1)) = sizeOf' (t.take i) + t[i].2.length := by
  unfold sizeOf'
  rw [List.take_succ_eq_append_getElem h, List.map_append, List.sum_append]
  simp
theorem size_take_le (t : List Vr) (i : Nat) : sizeOf' (t.take i) ≤ sizeOf' t := by
  unfold sizeOf'
  conv => rhs; rw [← List.take_append_drop i t, List.map_append, List.sum_append]
  omega
theorem size_eq (k : Nat) (t : List Vr) (hk : t.length < k) (hs : t.length < 1000000) (hz : sizeOf' t < 1000000) : f_table_Size.f k t = some ((sizeOf' t : Int), ()) := by
  unfold f_table_Size.f
  refine loop (fun m i => f_table_Size.l1 k m (sizeOf' (t.take i) : Int) t (t.length : Int) (i : Int)) t.length _ (fun m i hl => ?_) (fun m => ?_) k (by omega)
  · have h1 := size_take t i hl
    have h2 := size_take_le t (i + 1)
    simp only [f_table_Size.l1, f_table_Size.b1, att_n t i hl]
    rw [if_pos (by (first | omega | (dsimp only [Ty.T]; omega) | (simp only [decide_eq_true_eq, decide_eq_false_iff_not, Bool.not_eq_true, Ty.T]; omega) | (simp only [decide_eq_true_eq, decide_eq_false_iff_not, Ty.T]; omega) | (simp only [beq_iff_eq, bne_iff_ne, ne_eq, decide_eq_true_eq, Ty.T]; omega))), if_pos (by omega), if_pos (by omega), wsucc i (by omega), IntWalk.i64_in _ (by omega), h1]
    push_cast; rfl
  · simp only [f_table_Size.l1, f_table_Size.b1]
    rw [if_neg (by (first | omega | (dsimp only [Ty.T]; omega) | (simp only [decide_eq_true_eq, decide_eq_false_iff_not, Bool.not_eq_true, Ty.T]; omega) | (simp only [decide_eq_true_eq, decide_eq_false_iff_not, Ty.T]; omega) | (simp only [beq_iff_eq, bne_iff_ne, ne_eq, decide_eq_true_eq, Ty.T]; omega))), List.take_length]
theorem clone_eq (k : Nat) (xs : List Rl) (h : xs.length < 1000000) : f_slices_Clone_Rule.f k xs = some (xs, ()) := by
  unfold f_slices_Clone_Rule.f
  rw [if_pos (by omega), if_pos (Or.inl rfl)]; rfl
def Sm (t : List Vr) : Prop := t.length < 1000 ∧ ∀ v ∈ t, v.2.length < 1000
theorem own_eq (k : Nat) (t : List Vr) (tag : Int) (r : Rl) (hk : t.length < k) (hs : Sm t) : i_table_own_6f4.f k t tag r = some (tag, (r, (t, ()))) := by
  obtain ⟨h1, h2⟩ := hs
  unfold i_table_own_6f4.f
  refine loop (fun m i => i_table_own_6f4.l1 k m t (t.length : Int) (i : Int) tag r (t.take i)) t.length _ (fun m i hl => ?_) (fun m => ?_) k (by omega)
  · have hm := h2 t[i] (List.getElem_mem hl)
    simp only [i_table_own_6f4.l1, i_table_own_6f4.b1, att_n t i hl]
    rw [if_pos (by (first | omega | (dsimp only [Ty.T]; omega) | (simp only [decide_eq_true_eq, decide_eq_false_iff_not, Bool.not_eq_true, Ty.T]; omega) | (simp only [decide_eq_true_eq, decide_eq_false_iff_not, Ty.T]; omega) | (simp only [beq_iff_eq, bne_iff_ne, ne_eq, decide_eq_true_eq, Ty.T]; omega))), if_pos (by omega), if_pos (by omega), clone_eq k _ (by omega), Option.bind_some, if_pos (by rw [List.length_take]; omega), wsucc i (by omega), List.take_succ_eq_append_getElem hl]
  · simp only [i_table_own_6f4.l1, i_table_own_6f4.b1]
    rw [if_neg (by (first | omega | (dsimp only [Ty.T]; omega) | (simp only [decide_eq_true_eq, decide_eq_false_iff_not, Bool.not_eq_true, Ty.T]; omega) | (simp only [decide_eq_true_eq, decide_eq_false_iff_not, Ty.T]; omega) | (simp only [beq_iff_eq, bne_iff_ne, ne_eq, decide_eq_true_eq, Ty.T]; omega))), List.take_length]
theorem own2_eq (k : Nat) (t : List Vr) (hk : t.length < k) (hs : Sm t) : i_table_own_301.f k t = some (t, ()) := by
  obtain ⟨h1, h2⟩ := hs
  unfold i_table_own_301.f
  refine loop (fun m i => i_table_own_301.l1 k m t (t.length : Int) (i : Int) (t.take i)) t.length _ (fun m i hl => ?_) (fun m => ?_) k (by omega)
  · have hm := h2 t[i] (List.getElem_mem hl)
    simp only [i_table_own_301.l1, i_table_own_301.b1, att_n t i hl]
    rw [if_pos (by (first | omega | (dsimp only [Ty.T]; omega) | (simp only [decide_eq_true_eq, decide_eq_false_iff_not, Bool.not_eq_true, Ty.T]; omega) | (simp only [decide_eq_true_eq, decide_eq_false_iff_not, Ty.T]; omega) | (simp only [beq_iff_eq, bne_iff_ne, ne_eq, decide_eq_true_eq, Ty.T]; omega))), if_pos (by omega), if_pos (by omega), clone_eq k _ (by omega), Option.bind_some, if_pos (by rw [List.length_take]; omega), wsucc i (by omega), List.take_succ_eq_append_getElem hl]
  · simp only [i_table_own_301.l1, i_table_own_301.b1]
    rw [if_neg (by (first | omega | (dsimp only [Ty.T]; omega) | (simp only [decide_eq_true_eq, decide_eq_false_iff_not, Bool.not_eq_true, Ty.T]; omega) | (simp only [decide_eq_true_eq, decide_eq_false_iff_not, Ty.T]; omega) | (simp only [beq_iff_eq, bne_iff_ne, ne_eq, decide_eq_true_eq, Ty.T]; omega))), List.take_length]
theorem fit_of {t : List Vr} (hs : Sm t) : lnkFit 32 48 t = true := by
  unfold lnkFit
  have := hs.1
  rw [Bool.and_eq_true, Nat.ble_eq, List.all_eq_true]
  exact ⟨by omega, fun v hv => by have := hs.2 v hv; rw [Nat.ble_eq]; omega⟩
def bnd (n : Int) : Int := if 32 < (if 0 > n then 0 else n) then 32 else if 0 > n then 0 else n
theorem bnd_range (n : Int) : 0 ≤ bnd n ∧ bnd n ≤ 32 := by unfold bnd; split <;> split <;> omega
noncomputable def mask (n : Int) : Int := IntKind.i64.wrap (IntKind.u32.wrap (IntKind.u64.wrap (4294967295 * (2 ^ (min (IntKind.i64.wrap (32 - bnd n)).toNat IntKind.u64.bits)))))
theorem mask_eq (k : Nat) (n : Int) : f_bits_Mask.f k n = some (mask n, ()) := by
  have h := bnd_range n
  unfold f_bits_Mask.f f_bits_bound.f
  simp only [Option.bind_some]
  change (if 0 ≤ IntKind.i64.wrap (32 - bnd n) then _ else _) = _
  rw [if_pos (by rw [IntWalk.i64_in _ (by omega)]; omega)]
  rfl
noncomputable def pmay (p : T713d.T) : Bool := decide (p.2 ≥ 0) && (decide (p.2 ≤ 32) && (decide (p.1 ≥ 0) && (decide (p.1 ≤ 4294967295) && IntKind.i64.wrap (((BitVec.ofInt IntKind.i64.bits p.1 &&& ~~~ BitVec.ofInt IntKind.i64.bits (mask p.2)).toNat : Int)) == (0 : Int))))
theorem pmay_eq (k : Nat) (p : T713d.T) : f_bits_May.f k p = some (pmay p, ()) := by
  unfold f_bits_May.f pmay
  simp only [mask_eq, Option.bind_some]
  by_cases h1 : decide (p.2 ≥ 0) = true <;> by_cases h2 : decide (p.2 ≤ 32) = true <;> by_cases h3 : decide (p.1 ≥ 0) = true <;> by_cases h4 : decide (p.1 ≤ 4294967295) = true <;> simp only [h1, h2, h3, h4, if_true, if_false, Bool.true_and, Bool.false_and, Bool.false_eq_true]
def port (r : Rl) : Bool := if ((r.2.2.2.1 == (0 : Int)) && ((r.2.2.2.2 == (0 : Int)) && true)) = true then true else (r.2.2.2.1 == (1 : Int)) && (decide (r.2.2.2.2 ≥ 0) && decide (r.2.2.2.2 ≤ 7))
noncomputable def rmay (r : Rl) : Bool := port r && (pmay r.1 && (decide (r.2.1 ≥ -1) && (decide (r.2.1 ≤ 7) && (decide (r.2.2.1 ≥ 0) && decide (r.2.2.1 ≤ 255)))))
theorem rmay_eq (k : Nat) (r : Rl) : f_rule_May.f k r = some (rmay r, ()) := by
  have hj : ∀ b, f_rule_May.j1 k b r = some (b && (pmay r.1 && (decide (r.2.1 ≥ -1) && (decide (r.2.1 ≤ 7) && (decide (r.2.2.1 ≥ 0) && decide (r.2.2.1 ≤ 255))))), ()) := by
    intro b
    unfold f_rule_May.j1
    simp only [pmay_eq, Option.bind_some]
    cases b <;> cases pmay r.1 <;> by_cases h2 : decide (r.2.1 ≥ -1) = true <;> by_cases h3 : decide (r.2.1 ≤ 7) = true <;> by_cases h4 : decide (r.2.2.1 ≥ 0) = true <;> simp only [h2, h3, h4, if_true, if_false, Bool.true_and, Bool.false_and, Bool.false_eq_true]
  unfold f_rule_May.f rmay port
  simp only [hj]
  by_cases h1 : ((r.2.2.2.1 == (0 : Int)) && ((r.2.2.2.2 == (0 : Int)) && true)) = true
  · rw [if_pos h1, if_pos h1]
  · rw [if_neg h1, if_neg h1]
    by_cases h2 : (r.2.2.2.1 == (1 : Int)) = true <;> by_cases h3 : decide (r.2.2.2.2 ≥ 0) = true <;> simp only [h2, h3, if_true, if_false, Bool.true_and, Bool.false_and, Bool.false_eq_true]
def alike (r : Rl) (x : Rl) : Bool := x.1.1 == r.1.1 && (x.1.2 == r.1.2 && (x.2.1 == r.2.1 && x.2.2.1 == r.2.2.1))
theorem alike_eq (k : Nat) (x r : Rl) : f_rule_Alike.f k x r = some (alike r x, ()) := by
  unfold f_rule_Alike.f alike
  simp
theorem size_le {t : List Vr} (h : ∀ v ∈ t, v.2.length < 1000) : sizeOf' t ≤ t.length * 999 := by
  induction t with
  | nil => simp [sizeOf']
  | cons v t ih =>
    have h1 := h v List.mem_cons_self
    have h2 := ih fun x hx => h x (List.mem_cons_of_mem _ hx)
    simp only [sizeOf', List.map_cons, List.sum_cons, List.length_cons] at h2 ⊢
    omega
theorem Sm.size {t : List Vr} (h : Sm t) : sizeOf' t < 1000000 := by
  have := size_le h.2
  have := h.1
  omega
def alikeAt (rs : List Rl) (r : Rl) : Nat := rs.findIdx (alike r)
theorem alikeAt_le (rs : List Rl) (r : Rl) : alikeAt rs r ≤ rs.length := List.findIdx_le_length
theorem index_rule (k : Nat) (p1 : List (Int × List T1383.T)) (p2 : Nat) (p3 : Int) (r : Rl) (rs : List Rl) (hk : rs.length < k) (hs : rs.length < 1000000) :
    i_slices_IndexFunc_Rule_7cf.f k p1 p2 p3 r rs = some (if alikeAt rs r < rs.length then (alikeAt rs r : Int) else -1, (p1, (p2, (p3, (r, (rs, ())))))) := by
  have hle := alikeAt_le rs r
  refine loop (fun m i => i_slices_IndexFunc_Rule_7cf.l1 k m (rs.length : Int) (i : Int) p1 p2 p3 r rs) (alikeAt rs r) _ (fun m i hi => ?_) (fun m => ?_) k (by omega)
  · have hl : i < rs.length := by omega
    have hn : alike r rs[i] = false := fi_not (p := alike r) hi hl
    simp only [i_slices_IndexFunc_Rule_7cf.l1, i_slices_IndexFunc_Rule_7cf.b1, i_table_Put_1_a6e.f, att_n rs i hl, alike_eq, Option.bind_some, hn]
    rw [if_pos (by (first | omega | (dsimp only [Ty.T]; omega) | (simp only [decide_eq_true_eq, decide_eq_false_iff_not, Bool.not_eq_true, Ty.T]; omega) | (simp only [decide_eq_true_eq, decide_eq_false_iff_not, Ty.T]; omega) | (simp only [beq_iff_eq, bne_iff_ne, ne_eq, decide_eq_true_eq, Ty.T]; omega))), if_pos (by (first | omega | (dsimp only [Ty.T]; omega) | (simp only [decide_eq_true_eq, decide_eq_false_iff_not, Bool.not_eq_true, Ty.T]; omega) | (simp only [decide_eq_true_eq, decide_eq_false_iff_not, Ty.T]; omega) | (simp only [beq_iff_eq, bne_iff_ne, ne_eq, decide_eq_true_eq, Ty.T]; omega))), if_pos (by (first | omega | (dsimp only [Ty.T]; omega) | (simp only [decide_eq_true_eq, decide_eq_false_iff_not, Bool.not_eq_true, Ty.T]; omega) | (simp only [decide_eq_true_eq, decide_eq_false_iff_not, Ty.T]; omega) | (simp only [beq_iff_eq, bne_iff_ne, ne_eq, decide_eq_true_eq, Ty.T]; omega))), wsucc i (by omega)]
    simp
  · by_cases hl : alikeAt rs r < rs.length
    · have hn : alike r rs[alikeAt rs r] = true := List.findIdx_getElem (p := alike r) (w := hl)
      simp only [i_slices_IndexFunc_Rule_7cf.l1, i_slices_IndexFunc_Rule_7cf.b1, i_table_Put_1_a6e.f, att_n rs _ hl, alike_eq, Option.bind_some, hn]
      rw [if_pos (by (first | omega | (dsimp only [Ty.T]; omega) | (simp only [decide_eq_true_eq, decide_eq_false_iff_not, Bool.not_eq_true, Ty.T]; omega) | (simp only [decide_eq_true_eq, decide_eq_false_iff_not, Ty.T]; omega) | (simp only [beq_iff_eq, bne_iff_ne, ne_eq, decide_eq_true_eq, Ty.T]; omega))), if_pos (by (first | omega | (dsimp only [Ty.T]; omega) | (simp only [decide_eq_true_eq, decide_eq_false_iff_not, Bool.not_eq_true, Ty.T]; omega) | (simp only [decide_eq_true_eq, decide_eq_false_iff_not, Ty.T]; omega) | (simp only [beq_iff_eq, bne_iff_ne, ne_eq, decide_eq_true_eq, Ty.T]; omega))), if_pos (by (first | omega | (dsimp only [Ty.T]; omega) | (simp only [decide_eq_true_eq, decide_eq_false_iff_not, Bool.not_eq_true, Ty.T]; omega) | (simp only [decide_eq_true_eq, decide_eq_false_iff_not, Ty.T]; omega) | (simp only [beq_iff_eq, bne_iff_ne, ne_eq, decide_eq_true_eq, Ty.T]; omega))), if_pos hl]
      simp
    · simp only [i_slices_IndexFunc_Rule_7cf.l1, i_slices_IndexFunc_Rule_7cf.b1, if_neg hl]
      rw [if_neg (by (first | omega | (dsimp only [Ty.T]; omega) | (simp only [decide_eq_true_eq, decide_eq_false_iff_not, Bool.not_eq_true, Ty.T]; omega) | (simp only [decide_eq_true_eq, decide_eq_false_iff_not, Ty.T]; omega) | (simp only [beq_iff_eq, bne_iff_ne, ne_eq, decide_eq_true_eq, Ty.T]; omega)))]
theorem first_rule (k : Nat) (p1 : List (Int × List T1383.T)) (p2 : Nat) (p3 : Int) (r : Rl) (rs : List Rl) (hk : rs.length < k) (hs : rs.length < 1000000) :
    i_table_first_Rule_7cf.f k p1 p2 p3 r rs = some ((alikeAt rs r : Int), (p1, (p2, (p3, (r, (rs, ())))))) := by
  have hle := alikeAt_le rs r
  unfold i_table_first_Rule_7cf.f
  rw [index_rule k p1 p2 p3 r rs hk hs]
  simp only [Option.bind_some]
  by_cases hl : alikeAt rs r < rs.length
  · rw [if_pos hl, if_pos (by (first | omega | (dsimp only [Ty.T]; omega) | (simp only [decide_eq_true_eq, decide_eq_false_iff_not, Bool.not_eq_true, Ty.T]; omega) | (simp only [decide_eq_true_eq, decide_eq_false_iff_not, Ty.T]; omega) | (simp only [beq_iff_eq, bne_iff_ne, ne_eq, decide_eq_true_eq, Ty.T]; omega)))]
  · rw [if_neg hl, if_neg (by (first | omega | (dsimp only [Ty.T]; omega) | (simp only [decide_eq_true_eq, decide_eq_false_iff_not, Bool.not_eq_true, Ty.T]; omega) | (simp only [decide_eq_true_eq, decide_eq_false_iff_not, Ty.T]; omega) | (simp only [beq_iff_eq, bne_iff_ne, ne_eq, decide_eq_true_eq, Ty.T]; omega))), show alikeAt rs r = rs.length by omega]
def above (tag : Int) (v : Vr) : Bool := decide (v.1 > tag)
def aboveAt (t : List Vr) (tag : Int) : Nat := t.findIdx (above tag)
theorem aboveAt_le (t : List Vr) (tag : Int) : aboveAt t tag ≤ t.length := List.findIdx_le_length
theorem index_above (k : Nat) (t : List Vr) (tag : Int) (r : Rl) (hk : t.length < k) (hs : t.length < 1000000) :
    i_slices_IndexFunc_Ver_d92.f k t tag r = some (if aboveAt t tag < t.length then (aboveAt t tag : Int) else -1, (t, (tag, (r, ())))) := by
  have hle := aboveAt_le t tag
  refine loop (fun m i => i_slices_IndexFunc_Ver_d92.l1 k m (t.length : Int) (i : Int) t tag r) (aboveAt t tag) _ (fun m i hi => ?_) (fun m => ?_) k (by omega)
  · have hl : i < t.length := by omega
    have hn : decide (t[i].1 > tag) = false := fi_not (p := above tag) hi hl
    simp only [i_slices_IndexFunc_Ver_d92.l1, i_slices_IndexFunc_Ver_d92.b1, i_table_Put_2_4f9.f, att_n t i hl, Option.bind_some, hn]
    rw [if_pos (by (first | omega | (dsimp only [Ty.T]; omega) | (simp only [decide_eq_true_eq, decide_eq_false_iff_not, Bool.not_eq_true, Ty.T]; omega) | (simp only [decide_eq_true_eq, decide_eq_false_iff_not, Ty.T]; omega) | (simp only [beq_iff_eq, bne_iff_ne, ne_eq, decide_eq_true_eq, Ty.T]; omega))), if_pos (by (first | omega | (dsimp only [Ty.T]; omega) | (simp only [decide_eq_true_eq, decide_eq_false_iff_not, Bool.not_eq_true, Ty.T]; omega) | (simp only [decide_eq_true_eq, decide_eq_false_iff_not, Ty.T]; omega) | (simp only [beq_iff_eq, bne_iff_ne, ne_eq, decide_eq_true_eq, Ty.T]; omega))), if_pos (by (first | omega | (dsimp only [Ty.T]; omega) | (simp only [decide_eq_true_eq, decide_eq_false_iff_not, Bool.not_eq_true, Ty.T]; omega) | (simp only [decide_eq_true_eq, decide_eq_false_iff_not, Ty.T]; omega) | (simp only [beq_iff_eq, bne_iff_ne, ne_eq, decide_eq_true_eq, Ty.T]; omega))), wsucc i (by omega)]
    simp
  · by_cases hl : aboveAt t tag < t.length
    · have hn : decide (t[aboveAt t tag].1 > tag) = true := List.findIdx_getElem (p := above tag) (w := hl)
      simp only [i_slices_IndexFunc_Ver_d92.l1, i_slices_IndexFunc_Ver_d92.b1, i_table_Put_2_4f9.f, att_n t _ hl, Option.bind_some, hn]
      rw [if_pos (by (first | omega | (dsimp only [Ty.T]; omega) | (simp only [decide_eq_true_eq, decide_eq_false_iff_not, Bool.not_eq_true, Ty.T]; omega) | (simp only [decide_eq_true_eq, decide_eq_false_iff_not, Ty.T]; omega) | (simp only [beq_iff_eq, bne_iff_ne, ne_eq, decide_eq_true_eq, Ty.T]; omega))), if_pos (by (first | omega | (dsimp only [Ty.T]; omega) | (simp only [decide_eq_true_eq, decide_eq_false_iff_not, Bool.not_eq_true, Ty.T]; omega) | (simp only [decide_eq_true_eq, decide_eq_false_iff_not, Ty.T]; omega) | (simp only [beq_iff_eq, bne_iff_ne, ne_eq, decide_eq_true_eq, Ty.T]; omega))), if_pos (by (first | omega | (dsimp only [Ty.T]; omega) | (simp only [decide_eq_true_eq, decide_eq_false_iff_not, Bool.not_eq_true, Ty.T]; omega) | (simp only [decide_eq_true_eq, decide_eq_false_iff_not, Ty.T]; omega) | (simp only [beq_iff_eq, bne_iff_ne, ne_eq, decide_eq_true_eq, Ty.T]; omega))), if_pos hl]
      simp
    · simp only [i_slices_IndexFunc_Ver_d92.l1, i_slices_IndexFunc_Ver_d92.b1, if_neg hl]
      rw [if_neg (by (first | omega | (dsimp only [Ty.T]; omega) | (simp only [decide_eq_true_eq, decide_eq_false_iff_not, Bool.not_eq_true, Ty.T]; omega) | (simp only [decide_eq_true_eq, decide_eq_false_iff_not, Ty.T]; omega) | (simp only [beq_iff_eq, bne_iff_ne, ne_eq, decide_eq_true_eq, Ty.T]; omega)))]
theorem first_above (k : Nat) (t : List Vr) (tag : Int) (r : Rl) (hk : t.length < k) (hs : t.length < 1000000) :
    i_table_first_Ver_d92.f k t tag r = some ((aboveAt t tag : Int), (t, (tag, (r, ())))) := by
  have hle := aboveAt_le t tag
  unfold i_table_first_Ver_d92.f
  rw [index_above k t tag r hk hs]
  simp only [Option.bind_some]
  by_cases hl : aboveAt t tag < t.length
  · rw [if_pos hl, if_pos (by (first | omega | (dsimp only [Ty.T]; omega) | (simp only [decide_eq_true_eq, decide_eq_false_iff_not, Bool.not_eq_true, Ty.T]; omega) | (simp only [decide_eq_true_eq, decide_eq_false_iff_not, Ty.T]; omega) | (simp only [beq_iff_eq, bne_iff_ne, ne_eq, decide_eq_true_eq, Ty.T]; omega)))]
  · rw [if_neg hl, if_neg (by (first | omega | (dsimp only [Ty.T]; omega) | (simp only [decide_eq_true_eq, decide_eq_false_iff_not, Bool.not_eq_true, Ty.T]; omega) | (simp only [decide_eq_true_eq, decide_eq_false_iff_not, Ty.T]; omega) | (simp only [beq_iff_eq, bne_iff_ne, ne_eq, decide_eq_true_eq, Ty.T]; omega))), show aboveAt t tag = t.length by omega]
theorem lnkd_at (t : List (Int × List Rl)) (i : Nat) (ys : List Rl) (h : i < t.length) : lnkd t i ys = t.set i (t[i].1, ys) := by
  unfold lnkd
  rw [List.getElem?_eq_getElem h]
theorem lnkd_self (t : List (Int × List Rl)) (i : Nat) (h : i < t.length) : lnkd t i t[i].2 = t := by
  rw [lnkd_at t i _ h]
  exact List.set_getElem_self h
noncomputable def okIn (tag : Int) (r : Rl) : Bool := rmay r && (decide (1 ≤ tag) && decide (tag ≤ 4095))
def grown (t : List Vr) (i : Nat) (h : i < t.length) (r : Rl) : List Vr := if alikeAt t[i].2 r < t[i].2.length then t.set i (t[i].1, t[i].2.set (alikeAt t[i].2 r) r) else t.set i (t[i].1, t[i].2 ++ [r])
def added (t : List Vr) (tag : Int) (r : Rl) : List Vr := t.take (aboveAt t tag) ++ [(tag, [r])] ++ t.drop (aboveAt t tag)
noncomputable def put (t : List Vr) (tag : Int) (r : Rl) (n : Int) : List Vr × Int :=
  if okIn tag r = false then (t, 1)
  else if h : tagAt t tag < t.length then
    if alikeAt t[tagAt t tag].2 r < t[tagAt t tag].2.length then (grown t _ h r, 0)
    else if (sizeOf' t : Int) ≥ n then (t, 7) else (grown t _ h r, 0)
  else if (sizeOf' t : Int) ≥ n then (t, 7) else (added t tag r, 0)
theorem put_eq (k : Nat) (t : List Vr) (tag : Int) (r : Rl) (n : Int) (hk : 1000 ≤ k) (hs : Sm t) : f_table_Put.f k t tag r n = some ((put t tag r n).1, ((put t tag r n).2, ())) := by
  have h1 := hs.1
  have hsz := hs.size
  have hat := at_eq k t tag (by omega) (by omega)
  have hle := tagAt_le t tag
  unfold f_table_Put.f
  rw [hat]
  simp only [Option.bind_some]
  by_cases hl : tagAt t tag < t.length
  · have hv := hs.2 _ (List.getElem_mem hl)
    rw [if_pos ⟨by (first | omega | (dsimp only [Ty.T]; omega) | (simp only [decide_eq_true_eq, decide_eq_false_iff_not, Bool.not_eq_true, Ty.T]; omega) | (simp only [decide_eq_true_eq, decide_eq_false_iff_not, Ty.T]; omega) | (simp only [beq_iff_eq, bne_iff_ne, ne_eq, decide_eq_true_eq, Ty.T]; omega)), by rw [Int.toNat_natCast]; exact hl⟩, if_pos ⟨by rw [Int.toNat_natCast]; exact hl, fit_of hs⟩, rmay_eq, Int.toNat_natCast]
    simp only [Option.bind_some, att_n t _ hl]
    have hj : ∀ b, f_table_Put.j1 k n b t (tagAt t tag) tag r t[tagAt t tag].2 = some ((if b = true then (t, (1 : Int)) else if alikeAt t[tagAt t tag].2 r < t[tagAt t tag].2.length then (grown t _ hl r, 0) else if (sizeOf' t : Int) ≥ n then (t, 7) else (grown t _ hl r, 0)).1, ((if b = true then (t, (1 : Int)) else if alikeAt t[tagAt t tag].2 r < t[tagAt t tag].2.length then (grown t _ hl r, 0) else if (sizeOf' t : Int) ≥ n then (t, 7) else (grown t _ hl r, 0)).2, ())) := by
      intro b
      unfold f_table_Put.j1
      have hself := lnkd_self t (tagAt t tag) hl
      cases b with
      | true => simp only [if_true]; rw [hself]
      | false =>
        simp only [Bool.false_eq_true, if_false]
        have hale := alikeAt_le t[tagAt t tag].2 r
        rw [hself, hat, Option.bind_some, if_pos (by (first | omega | (dsimp only [Ty.T]; omega) | (simp only [decide_eq_true_eq, decide_eq_false_iff_not, Bool.not_eq_true, Ty.T]; omega) | (simp only [decide_eq_true_eq, decide_eq_false_iff_not, Ty.T]; omega) | (simp only [beq_iff_eq, bne_iff_ne, ne_eq, decide_eq_true_eq, Ty.T]; omega))), if_pos (by (first | omega | (dsimp only [Ty.T]; omega) | (simp only [decide_eq_true_eq, decide_eq_false_iff_not, Bool.not_eq_true, Ty.T]; omega) | (simp only [decide_eq_true_eq, decide_eq_false_iff_not, Ty.T]; omega) | (simp only [beq_iff_eq, bne_iff_ne, ne_eq, decide_eq_true_eq, Ty.T]; omega))), if_pos (by (first | omega | (dsimp only [Ty.T]; omega) | (simp only [decide_eq_true_eq, decide_eq_false_iff_not, Bool.not_eq_true, Ty.T]; omega) | (simp only [decide_eq_true_eq, decide_eq_false_iff_not, Ty.T]; omega) | (simp only [beq_iff_eq, bne_iff_ne, ne_eq, decide_eq_true_eq, Ty.T]; omega))), if_pos rfl, first_rule k _ _ _ _ _ (by omega) (by omega), Option.bind_some, if_pos rfl]
        by_cases ha : alikeAt t[tagAt t tag].2 r < t[tagAt t tag].2.length
        · rw [if_pos (by (first | omega | (dsimp only [Ty.T]; omega) | (simp only [decide_eq_true_eq, decide_eq_false_iff_not, Bool.not_eq_true, Ty.T]; omega) | (simp only [decide_eq_true_eq, decide_eq_false_iff_not, Ty.T]; omega) | (simp only [beq_iff_eq, bne_iff_ne, ne_eq, decide_eq_true_eq, Ty.T]; omega))), if_pos (by (first | omega | (dsimp only [Ty.T]; omega) | (simp only [decide_eq_true_eq, decide_eq_false_iff_not, Bool.not_eq_true, Ty.T]; omega) | (simp only [decide_eq_true_eq, decide_eq_false_iff_not, Ty.T]; omega) | (simp only [beq_iff_eq, bne_iff_ne, ne_eq, decide_eq_true_eq, Ty.T]; omega))), if_pos (by (first | omega | (dsimp only [Ty.T]; omega) | (simp only [decide_eq_true_eq, decide_eq_false_iff_not, Bool.not_eq_true, Ty.T]; omega) | (simp only [decide_eq_true_eq, decide_eq_false_iff_not, Ty.T]; omega) | (simp only [beq_iff_eq, bne_iff_ne, ne_eq, decide_eq_true_eq, Ty.T]; omega))), if_pos ha]
          simp only [Int.toNat_natCast]
          rw [lnkd_at t _ _ hl]
          unfold grown
          rw [if_pos ha]
        · rw [if_neg (by (first | omega | (dsimp only [Ty.T]; omega) | (simp only [decide_eq_true_eq, decide_eq_false_iff_not, Bool.not_eq_true, Ty.T]; omega) | (simp only [decide_eq_true_eq, decide_eq_false_iff_not, Ty.T]; omega) | (simp only [beq_iff_eq, bne_iff_ne, ne_eq, decide_eq_true_eq, Ty.T]; omega))), if_neg ha]
          unfold f_table_Put.j2
          rw [hself, size_eq k t (by omega) (by omega) hsz, Option.bind_some]
          by_cases hz : (sizeOf' t : Int) ≥ n
          · rw [if_pos (by (first | omega | (dsimp only [Ty.T]; omega) | (simp only [decide_eq_true_eq, decide_eq_false_iff_not, Bool.not_eq_true, Ty.T]; omega) | (simp only [decide_eq_true_eq, decide_eq_false_iff_not, Ty.T]; omega) | (simp only [beq_iff_eq, bne_iff_ne, ne_eq, decide_eq_true_eq, Ty.T]; omega))), if_pos hz]
          · rw [if_neg (by (first | omega | (dsimp only [Ty.T]; omega) | (simp only [decide_eq_true_eq, decide_eq_false_iff_not, Bool.not_eq_true, Ty.T]; omega) | (simp only [decide_eq_true_eq, decide_eq_false_iff_not, Ty.T]; omega) | (simp only [beq_iff_eq, bne_iff_ne, ne_eq, decide_eq_true_eq, Ty.T]; omega))), if_neg hz, if_pos (by (first | omega | (dsimp only [Ty.T]; omega) | (simp only [decide_eq_true_eq, decide_eq_false_iff_not, Bool.not_eq_true, Ty.T]; omega) | (simp only [decide_eq_true_eq, decide_eq_false_iff_not, Ty.T]; omega) | (simp only [beq_iff_eq, bne_iff_ne, ne_eq, decide_eq_true_eq, Ty.T]; omega))), if_pos (by (first | omega | (dsimp only [Ty.T]; omega) | (simp only [decide_eq_true_eq, decide_eq_false_iff_not, Bool.not_eq_true, Ty.T]; omega) | (simp only [decide_eq_true_eq, decide_eq_false_iff_not, Ty.T]; omega) | (simp only [beq_iff_eq, bne_iff_ne, ne_eq, decide_eq_true_eq, Ty.T]; omega))), if_pos (by (first | omega | (dsimp only [Ty.T]; omega) | (simp only [decide_eq_true_eq, decide_eq_false_iff_not, Bool.not_eq_true, Ty.T]; omega) | (simp only [decide_eq_true_eq, decide_eq_false_iff_not, Ty.T]; omega) | (simp only [beq_iff_eq, bne_iff_ne, ne_eq, decide_eq_true_eq, Ty.T]; omega))), att_n t _ hl, if_pos (by (first | omega | (dsimp only [Ty.T]; omega) | (simp only [decide_eq_true_eq, decide_eq_false_iff_not, Bool.not_eq_true, Ty.T]; omega) | (simp only [decide_eq_true_eq, decide_eq_false_iff_not, Ty.T]; omega) | (simp only [beq_iff_eq, bne_iff_ne, ne_eq, decide_eq_true_eq, Ty.T]; omega)))]
            simp only [Int.toNat_natCast, Int.toNat_zero, List.drop_zero, List.take_length]
            rw [if_pos (by (first | omega | (dsimp only [Ty.T]; omega) | (simp only [decide_eq_true_eq, decide_eq_false_iff_not, Bool.not_eq_true, Ty.T]; omega) | (simp only [decide_eq_true_eq, decide_eq_false_iff_not, Ty.T]; omega) | (simp only [beq_iff_eq, bne_iff_ne, ne_eq, decide_eq_true_eq, Ty.T]; omega)))]
            unfold grown
            rw [if_neg ha]
    unfold put
    by_cases ho : okIn tag r = false
    · rw [if_pos ho]
      unfold okIn at ho
      cases hr : rmay r
      · rw [if_pos (by rfl), hj]; rfl
      · rw [hr, Bool.true_and, Bool.and_eq_false_iff] at ho
        rw [if_neg (by simp)]
        by_cases h3 : tag < 1
        · rw [if_pos (by (first | omega | (dsimp only [Ty.T]; omega) | (simp only [decide_eq_true_eq, decide_eq_false_iff_not, Bool.not_eq_true, Ty.T]; omega) | (simp only [decide_eq_true_eq, decide_eq_false_iff_not, Ty.T]; omega) | (simp only [beq_iff_eq, bne_iff_ne, ne_eq, decide_eq_true_eq, Ty.T]; omega))), hj]; rfl
        · rw [if_neg (by (first | omega | (dsimp only [Ty.T]; omega) | (simp only [decide_eq_true_eq, decide_eq_false_iff_not, Bool.not_eq_true, Ty.T]; omega) | (simp only [decide_eq_true_eq, decide_eq_false_iff_not, Ty.T]; omega) | (simp only [beq_iff_eq, bne_iff_ne, ne_eq, decide_eq_true_eq, Ty.T]; omega))), decide_eq_true (p := tag > (4095 : Int)) (by rcases ho with h | h <;> rw [decide_eq_false_iff_not] at h <;> omega), hj]; rfl
    · rw [if_neg ho, dif_pos hl]
      have ho2 : okIn tag r = true := by simpa using ho
      unfold okIn at ho2
      rw [Bool.and_eq_true, Bool.and_eq_true, decide_eq_true_eq, decide_eq_true_eq] at ho2
      rw [if_neg (by rw [ho2.1]; simp), if_neg (by (first | omega | (dsimp only [Ty.T]; omega) | (simp only [decide_eq_true_eq, decide_eq_false_iff_not, Bool.not_eq_true, Ty.T]; omega) | (simp only [decide_eq_true_eq, decide_eq_false_iff_not, Ty.T]; omega) | (simp only [beq_iff_eq, bne_iff_ne, ne_eq, decide_eq_true_eq, Ty.T]; omega))), decide_eq_false (p := tag > (4095 : Int)) (by omega), hj]
      rfl
  · have hll : tagAt t tag = t.length := by omega
    rw [if_neg (by (first | omega | (dsimp only [Ty.T]; omega) | (simp only [decide_eq_true_eq, decide_eq_false_iff_not, Bool.not_eq_true, Ty.T]; omega) | (simp only [decide_eq_true_eq, decide_eq_false_iff_not, Ty.T]; omega) | (simp only [beq_iff_eq, bne_iff_ne, ne_eq, decide_eq_true_eq, Ty.T]; omega))), own_eq k t tag r (by omega) hs, Option.bind_some, rmay_eq]
    simp only [Option.bind_some]
    have hj : ∀ b, f_table_Put.j3 k n b t tag r = some ((if b = true then (t, (1 : Int)) else if (sizeOf' t : Int) ≥ n then (t, 7) else (added t tag r, 0)).1, ((if b = true then (t, (1 : Int)) else if (sizeOf' t : Int) ≥ n then (t, 7) else (added t tag r, 0)).2, ())) := by
      intro b
      unfold f_table_Put.j3
      cases b with
      | true => simp only [if_true]
      | false =>
        simp only [Bool.false_eq_true, if_false]
        have hale := aboveAt_le t tag
        rw [hat, Option.bind_some, if_neg (by (first | omega | (dsimp only [Ty.T]; omega) | (simp only [decide_eq_true_eq, decide_eq_false_iff_not, Bool.not_eq_true, Ty.T]; omega) | (simp only [decide_eq_true_eq, decide_eq_false_iff_not, Ty.T]; omega) | (simp only [beq_iff_eq, bne_iff_ne, ne_eq, decide_eq_true_eq, Ty.T]; omega)))]
        unfold f_table_Put.j4
        rw [size_eq k t (by omega) (by omega) hsz, Option.bind_some]
        by_cases hz : (sizeOf' t : Int) ≥ n
        · rw [if_pos (by (first | omega | (dsimp only [Ty.T]; omega) | (simp only [decide_eq_true_eq, decide_eq_false_iff_not, Bool.not_eq_true, Ty.T]; omega) | (simp only [decide_eq_true_eq, decide_eq_false_iff_not, Ty.T]; omega) | (simp only [beq_iff_eq, bne_iff_ne, ne_eq, decide_eq_true_eq, Ty.T]; omega))), if_pos hz]
        · rw [if_neg (by (first | omega | (dsimp only [Ty.T]; omega) | (simp only [decide_eq_true_eq, decide_eq_false_iff_not, Bool.not_eq_true, Ty.T]; omega) | (simp only [decide_eq_true_eq, decide_eq_false_iff_not, Ty.T]; omega) | (simp only [beq_iff_eq, bne_iff_ne, ne_eq, decide_eq_true_eq, Ty.T]; omega))), if_neg hz, if_neg (by (first | omega | (dsimp only [Ty.T]; omega) | (simp only [decide_eq_true_eq, decide_eq_false_iff_not, Bool.not_eq_true, Ty.T]; omega) | (simp only [decide_eq_true_eq, decide_eq_false_iff_not, Ty.T]; omega) | (simp only [beq_iff_eq, bne_iff_ne, ne_eq, decide_eq_true_eq, Ty.T]; omega))), first_above k t tag r (by omega) (by omega), Option.bind_some, if_pos ⟨by (first | omega | (dsimp only [Ty.T]; omega) | (simp only [decide_eq_true_eq, decide_eq_false_iff_not, Bool.not_eq_true, Ty.T]; omega) | (simp only [decide_eq_true_eq, decide_eq_false_iff_not, Ty.T]; omega) | (simp only [beq_iff_eq, bne_iff_ne, ne_eq, decide_eq_true_eq, Ty.T]; omega)), by (first | omega | (dsimp only [Ty.T]; omega) | (simp only [decide_eq_true_eq, decide_eq_false_iff_not, Bool.not_eq_true, Ty.T]; omega) | (simp only [decide_eq_true_eq, decide_eq_false_iff_not, Ty.T]; omega) | (simp only [beq_iff_eq, bne_iff_ne, ne_eq, decide_eq_true_eq, Ty.T]; omega)), rfl, by (first | omega | (dsimp only [Ty.T]; omega) | (simp only [decide_eq_true_eq, decide_eq_false_iff_not, Bool.not_eq_true, Ty.T]; omega) | (simp only [decide_eq_true_eq, decide_eq_false_iff_not, Ty.T]; omega) | (simp only [beq_iff_eq, bne_iff_ne, ne_eq, decide_eq_true_eq, Ty.T]; omega)), by decide⟩]
          simp only [Int.toNat_natCast]
          rfl
    unfold put
    by_cases ho : okIn tag r = false
    · rw [if_pos ho]
      unfold okIn at ho
      cases hr : rmay r
      · rw [if_pos (by rfl), hj]; rfl
      · rw [hr, Bool.true_and, Bool.and_eq_false_iff] at ho
        rw [if_neg (by simp)]
        by_cases h3 : tag < 1
        · rw [if_pos (by (first | omega | (dsimp only [Ty.T]; omega) | (simp only [decide_eq_true_eq, decide_eq_false_iff_not, Bool.not_eq_true, Ty.T]; omega) | (simp only [decide_eq_true_eq, decide_eq_false_iff_not, Ty.T]; omega) | (simp only [beq_iff_eq, bne_iff_ne, ne_eq, decide_eq_true_eq, Ty.T]; omega))), hj]; rfl
        · rw [if_neg (by (first | omega | (dsimp only [Ty.T]; omega) | (simp only [decide_eq_true_eq, decide_eq_false_iff_not, Bool.not_eq_true, Ty.T]; omega) | (simp only [decide_eq_true_eq, decide_eq_false_iff_not, Ty.T]; omega) | (simp only [beq_iff_eq, bne_iff_ne, ne_eq, decide_eq_true_eq, Ty.T]; omega))), decide_eq_true (p := tag > (4095 : Int)) (by rcases ho with h | h <;> rw [decide_eq_false_iff_not] at h <;> omega), hj]; rfl
    · rw [if_neg ho, dif_neg hl]
      have ho2 : okIn tag r = true := by simpa using ho
      unfold okIn at ho2
      rw [Bool.and_eq_true, Bool.and_eq_true, decide_eq_true_eq, decide_eq_true_eq] at ho2
      rw [if_neg (by rw [ho2.1]; simp), if_neg (by (first | omega | (dsimp only [Ty.T]; omega) | (simp only [decide_eq_true_eq, decide_eq_false_iff_not, Bool.not_eq_true, Ty.T]; omega) | (simp only [decide_eq_true_eq, decide_eq_false_iff_not, Ty.T]; omega) | (simp only [beq_iff_eq, bne_iff_ne, ne_eq, decide_eq_true_eq, Ty.T]; omega))), decide_eq_false (p := tag > (4095 : Int)) (by omega), hj]
      rfl
noncomputable def drop (t : List Vr) (tag : Int) : List Vr := t.eraseIdx (tagAt t tag)
theorem drop_eq (k : Nat) (t : List Vr) (tag : Int) (hk : 1000 ≤ k) (hs : Sm t) : f_table_Drop.f k t tag = some (drop t tag, ()) := by
  have h1 := hs.1
  have hle := tagAt_le t tag
  unfold f_table_Drop.f f_table_Drop.j1 drop
  rw [own2_eq k t (by omega) hs, Option.bind_some, at_eq k t tag (by omega) (by omega), Option.bind_some]
  by_cases hl : tagAt t tag < t.length
  · rw [if_pos (by (first | omega | (dsimp only [Ty.T]; omega) | (simp only [decide_eq_true_eq, decide_eq_false_iff_not, Bool.not_eq_true, Ty.T]; omega) | (simp only [decide_eq_true_eq, decide_eq_false_iff_not, Ty.T]; omega) | (simp only [beq_iff_eq, bne_iff_ne, ne_eq, decide_eq_true_eq, Ty.T]; omega))), if_pos ⟨by (first | omega | (dsimp only [Ty.T]; omega) | (simp only [decide_eq_true_eq, decide_eq_false_iff_not, Bool.not_eq_true, Ty.T]; omega) | (simp only [decide_eq_true_eq, decide_eq_false_iff_not, Ty.T]; omega) | (simp only [beq_iff_eq, bne_iff_ne, ne_eq, decide_eq_true_eq, Ty.T]; omega)), by (first | omega | (dsimp only [Ty.T]; omega) | (simp only [decide_eq_true_eq, decide_eq_false_iff_not, Bool.not_eq_true, Ty.T]; omega) | (simp only [decide_eq_true_eq, decide_eq_false_iff_not, Ty.T]; omega) | (simp only [beq_iff_eq, bne_iff_ne, ne_eq, decide_eq_true_eq, Ty.T]; omega)), by dsimp only; rw [wsucc _ (by omega)]; (first | omega | (dsimp only [Ty.T]; omega) | (simp only [decide_eq_true_eq, decide_eq_false_iff_not, Bool.not_eq_true, Ty.T]; omega) | (simp only [decide_eq_true_eq, decide_eq_false_iff_not, Ty.T]; omega) | (simp only [beq_iff_eq, bne_iff_ne, ne_eq, decide_eq_true_eq, Ty.T]; omega))⟩]
    simp only [Int.toNat_natCast]
    rw [List.eraseIdx_eq_take_drop_succ]
  · rw [if_neg (by (first | omega | (dsimp only [Ty.T]; omega) | (simp only [decide_eq_true_eq, decide_eq_false_iff_not, Bool.not_eq_true, Ty.T]; omega) | (simp only [decide_eq_true_eq, decide_eq_false_iff_not, Ty.T]; omega) | (simp only [beq_iff_eq, bne_iff_ne, ne_eq, decide_eq_true_eq, Ty.T]; omega))), List.eraseIdx_of_length_le (by omega)]
noncomputable def of (t : List Vr) (tag : Int) : List Rl × Bool := if h : tagAt t tag < t.length then (t[tagAt t tag].2, true) else ([], false)
theorem few_of {t : List Vr} (h : (decide (t.length ≤ 20) && t.all fun v => decide (v.2.length ≤ 60)) = true) : t.length ≤ 20 ∧ ∀ v ∈ t, v.2.length ≤ 60 := by
  rw [Bool.and_eq_true, decide_eq_true_eq, List.all_eq_true] at h
  exact ⟨h.1, fun v hv => by simpa using h.2 v hv⟩
theorem Sm.mk' {t : List Vr} {A B : Nat} (h1 : t.length ≤ A) (h2 : ∀ v ∈ t, v.2.length ≤ B) (hA : A < 1000) (hB : B < 1000) : Sm t := ⟨by omega, fun v hv => by have := h2 v hv; omega⟩
abbrev Mg := T4414.T
theorem u8_in (n : Int) (h : 0 ≤ n) (h2 : n < 256) : IntKind.u8.wrap n = n := by
  unfold IntKind.wrap
  simp [IntKind.bits, IntKind.signed]
  omega
theorem u32_in (n : Int) (h : 0 ≤ n) (h2 : n < 4294967296) : IntKind.u32.wrap n = n := by
  unfold IntKind.wrap
  simp [IntKind.bits, IntKind.signed]
  omega
theorem u8_mod (n : Int) : IntKind.u8.wrap n = n % 256 := by
  unfold IntKind.wrap
  simp [IntKind.bits, IntKind.signed]
theorem fdiv_pos (a : Int) (b : Int) (h : 0 < b) : Int.fdiv a b = a / b := Int.fdiv_eq_ediv_of_nonneg a (by omega)
-- folding
def fl (p : Int) : Int := if p = 0 then 0 else if p % 65535 = 0 then 65535 else p % 65535
theorem fl_small (p : Int) (h : 0 ≤ p) (h2 : p ≤ 65535) : fl p = p := by unfold fl; split <;> (try split) <;> omega
theorem fl_step (p : Int) (h : 65535 < p) : fl (p / 65536 + p % 65536) = fl p := by
  unfold fl
  have : (p / 65536 + p % 65536) % 65535 = p % 65535 := by omega
  rw [this]
  have : ¬ (p / 65536 + p % 65536 = 0) := by omega
  rw [if_neg this, if_neg (show ¬ p = 0 by omega)]
theorem fl_range (p : Int) (h : 0 < p) : 1 ≤ fl p ∧ fl p ≤ 65535 := by unfold fl; split <;> (try split) <;> omega
theorem and16 (p : Int) (h : 0 ≤ p) (h2 : p < 1099511627776) : IntKind.i64.wrap (((BitVec.ofInt IntKind.i64.bits p &&& BitVec.ofInt IntKind.i64.bits 65535).toNat : Nat) : Int) = p % 65536 := by
  obtain ⟨n, rfl⟩ : ∃ n : Nat, p = (n : Int) := ⟨p.toNat, by omega⟩
  have h3 : (BitVec.ofInt IntKind.i64.bits (n : Int) &&& BitVec.ofInt IntKind.i64.bits 65535).toNat = n % 65536 := by
    have e1 : (BitVec.ofInt IntKind.i64.bits (n : Int)).toNat = n := by
      show (BitVec.ofInt 64 (n : Int)).toNat = n
      rw [BitVec.toNat_ofInt]; omega
    have e2 : (BitVec.ofInt IntKind.i64.bits 65535).toNat = 2 ^ 16 - 1 := by decide
    rw [BitVec.toNat_and, e1, e2, Nat.and_two_pow_sub_one_eq_mod]
  rw [h3, IntWalk.i64_in _ (by omega)]
  omega
theorem fold_step (k m : Nat) (p : Int) (h : 65535 < p) (h2 : p < 1099511627776) : f_octets_Sum.l2 k (m + 1) p = f_octets_Sum.l2 k m (p / 65536 + p % 65536) := by
  simp only [f_octets_Sum.l2, f_octets_Sum.b2]
  rw [if_pos (decide_eq_true h), and16 p (by omega) h2, show (2 : Int) ^ (min (16 : Int).toNat IntKind.i64.bits) = 65536 by decide, fdiv_pos _ _ (by omega), IntWalk.i64_in _ (by omega)]
theorem fold_end (k m : Nat) (p : Int) (h : 0 ≤ p) (h2 : p ≤ 65535) : f_octets_Sum.l2 k (m + 1) p = some (65535 - fl p, ()) := by
  simp only [f_octets_Sum.l2, f_octets_Sum.b2]
  rw [if_neg (by rw [decide_eq_false (by omega)]; exact Bool.false_ne_true), fl_small p h h2, IntWalk.i64_in _ (by omega)]
theorem fold_two (k m : Nat) (p : Int) (h : 0 ≤ p) (h2 : p < 131072) : f_octets_Sum.l2 k (m + 3) p = some (65535 - fl p, ()) := by
  by_cases h3 : 65535 < p
  · rw [fold_step k (m + 2) p h3 (by omega), ← fl_step p h3]
    by_cases h4 : 65535 < p / 65536 + p % 65536
    · rw [fold_step k (m + 1) _ h4 (by omega), ← fl_step _ h4]
      exact fold_end k m _ (by omega) (by omega)
    · exact fold_end k (m + 1) _ (by omega) (by omega)
  · exact fold_end k (m + 2) p h (by omega)
theorem fold_eq (k m : Nat) (p : Int) (h : 0 ≤ p) (h2 : p < 1099511627776) : f_octets_Sum.l2 k (m + 5) p = some (65535 - fl p, ()) := by
  by_cases h3 : 65535 < p
  · rw [fold_step k (m + 4) p h3 h2, ← fl_step p h3]
    by_cases h4 : 65535 < p / 65536 + p % 65536
    · rw [fold_step k (m + 3) _ h4 (by omega), ← fl_step _ h4]
      exact fold_two k m _ (by omega) (by omega)
    · exact fold_end k (m + 3) _ (by omega) (by omega)
  · exact fold_end k (m + 4) p h (by omega)
-- the sum of bytes
def Oct (xs : List Int) : Prop := ∀ x ∈ xs, (0 : Int) ≤ x ∧ x < 256
def tot (xs : List Int) : Nat → Int
  | 0 => 0
  | i + 1 => tot xs i + (xs[i]?).getD 0 * (if i % 2 = 0 then 256 else 1)
theorem tot_range (xs : List Int) (h : Oct xs) : ∀ i, i ≤ xs.length → 0 ≤ tot xs i ∧ tot xs i ≤ 65280 * (i : Int)
  | 0, _ => by simp [tot]
  | i + 1, hi => by
    have h1 := tot_range xs h i (by omega)
    have hl : i < xs.length := by omega
    have h2 := h xs[i] (List.getElem_mem hl)
    simp only [tot, List.getElem?_eq_getElem hl, Option.getD_some]
    split <;> omega
theorem sum_eq (xs : List Int) (h : Oct xs) (hs : xs.length < 900) : f_octets_Sum.f 1000 xs = some (65535 - fl (tot xs xs.length), ()) := by
  unfold f_octets_Sum.f
  have key : ∀ d i m, i + d = xs.length → d < m → f_octets_Sum.l1 1000 m (tot xs i) xs (xs.length : Int) (i : Int) = some (65535 - fl (tot xs xs.length), ()) := by
    intro d
    induction d with
    | zero =>
      intro i m hi hm
      obtain ⟨m, rfl⟩ : ∃ q, m = q + 1 := ⟨m - 1, by omega⟩
      obtain rfl : i = xs.length := by omega
      simp only [f_octets_Sum.l1, f_octets_Sum.b1]
      rw [if_neg (by simp)]
      have := tot_range xs h xs.length (Nat.le_refl _)
      obtain ⟨m', hm'⟩ : ∃ m' : Nat, 1000000 = m' + 5 := ⟨999995, by decide⟩
      rw [hm']
      exact (show f_octets_Sum.l2 1000 (m' + 1 + 5) (tot xs xs.length) = _ from fold_eq 1000 (m' + 1) _ this.1 (by omega))
    | succ d ih =>
      intro i m hi hm
      obtain ⟨m, rfl⟩ : ∃ q, m = q + 1 := ⟨m - 1, by omega⟩
      have hl : i < xs.length := by omega
      have hx := h xs[i] (List.getElem_mem hl)
      have h1 := tot_range xs h i (by omega)
      have e8 : IntKind.i64.wrap (8 * (Int.tmod (IntKind.i64.wrap ((i : Int) + 1)) 2)) = 8 * (((i + 1) % 2 : Nat) : Int) := by
        rw [wsucc i (by omega), show Int.tmod (((i + 1 : Nat) : Int)) 2 = (((i + 1) % 2 : Nat) : Int) by rw [Int.tmod_eq_emod_of_nonneg (by omega)]; omega, IntWalk.i64_in _ (by omega)]
      have et : tot xs (i + 1) = tot xs i + xs[i] * (if i % 2 = 0 then 256 else 1) := by simp only [tot, List.getElem?_eq_getElem hl, Option.getD_some]
      have ep : (2 : Int) ^ (min (8 * (((i + 1) % 2 : Nat) : Int)).toNat IntKind.i64.bits) = if i % 2 = 0 then 256 else 1 := by
        rcases Nat.mod_two_eq_zero_or_one i with h2 | h2
        · rw [if_pos h2, show (i + 1) % 2 = 1 by omega]; decide
        · rw [if_neg (by omega), show (i + 1) % 2 = 0 by omega]; decide
      simp only [f_octets_Sum.l1, f_octets_Sum.b1, e8, att_n (e := .int .u8) xs i hl]
      rw [if_pos (by simp; exact hl), if_pos (by omega), if_pos (by omega), if_pos (by omega), ep, IntWalk.i64_in xs[i] (by omega), wsucc i (by omega)]
      have hb : xs[i] * (if i % 2 = 0 then 256 else 1) < 65536 ∧ 0 ≤ xs[i] * (if i % 2 = 0 then 256 else 1) := by split <;> omega
      rw [IntWalk.i64_in (xs[i] * _) (by omega), IntWalk.i64_in (tot xs i + _) (by omega), ← et]
      exact ih (i + 1) m (by omega) (by omega)
  exact key xs.length 0 1000 (by omega) (by omega)
theorem tot_app (xs ys : List Int) : ∀ i, i ≤ xs.length → tot (xs ++ ys) i = tot xs i
  | 0, _ => rfl
  | i + 1, h => by simp only [tot]; rw [tot_app xs ys i (by omega), List.getElem?_append_left (by omega)]
theorem sum_sealed (xs : List Int) (h : Oct xs) (hs : xs.length < 800) (he : xs.length % 2 = 0) (hp : 0 < tot xs xs.length) :
    ∃ hi lo : Int, f_octets_Sum.f 1000 xs = some (65535 - fl (tot xs xs.length), ()) ∧ IntKind.u8.wrap (Int.fdiv (65535 - fl (tot xs xs.length)) (2 ^ (min (8 : Int).toNat IntKind.i64.bits))) = hi ∧ IntKind.u8.wrap (65535 - fl (tot xs xs.length)) = lo ∧ Oct (xs ++ [hi, lo]) ∧ f_octets_Sum.f 1000 (xs ++ [hi, lo]) = some (0, ()) := by
  have hr := fl_range _ hp
  have h1 := tot_range xs h xs.length (Nat.le_refl _)
  have e1 : IntKind.u8.wrap (Int.fdiv (65535 - fl (tot xs xs.length)) (2 ^ (min (8 : Int).toNat IntKind.i64.bits))) = (65535 - fl (tot xs xs.length)) / 256 := by
    rw [show (2 : Int) ^ (min (8 : Int).toNat IntKind.i64.bits) = 256 by decide, fdiv_pos _ _ (by omega), u8_in _ (by omega) (by omega)]
  have e2 := u8_mod (65535 - fl (tot xs xs.length))
  have ho : Oct (xs ++ [(65535 - fl (tot xs xs.length)) / 256, (65535 - fl (tot xs xs.length)) % 256]) := by
    intro x hx
    rcases List.mem_append.1 hx with hx | hx
    · exact h x hx
    · rcases List.mem_cons.1 hx with rfl | hx
      · omega
      · rw [List.mem_singleton.1 hx]; omega
  refine ⟨_, _, sum_eq xs h (by omega), e1, e2, ho, ?_⟩
  have hl : (xs ++ [(65535 - fl (tot xs xs.length)) / 256, (65535 - fl (tot xs xs.length)) % 256]).length = xs.length + 2 := by simp
  rw [sum_eq _ ho (by rw [hl]; omega), hl]
  have ht : tot (xs ++ [(65535 - fl (tot xs xs.length)) / 256, (65535 - fl (tot xs xs.length)) % 256]) (xs.length + 2) = tot xs xs.length + (65535 - fl (tot xs xs.length)) := by
    simp only [tot]
    rw [tot_app _ _ _ (Nat.le_refl _), List.getElem?_append_right (Nat.le_refl _), List.getElem?_append_right (by omega), if_pos he, if_neg (by omega), Nat.sub_self, show xs.length + 1 - xs.length = 1 by omega]
    simp only [List.getElem?_cons_zero, List.getElem?_cons_succ, Option.getD_some]
    omega
  rw [ht]
  have : fl (tot xs xs.length + (65535 - fl (tot xs xs.length))) = 65535 := by
    have hm : (tot xs xs.length + (65535 - fl (tot xs xs.length))) % 65535 = 0 := by
      unfold fl
      split
      · omega
      · split <;> omega
    unfold fl
    rw [if_neg (by unfold fl at hr; omega), if_pos (by unfold fl at hm; exact hm)]
  rw [this]
  rfl
-- numbers in bytes
theorem sh8 : (2 : Int) ^ (min (8 : Int).toNat IntKind.u32.bits) = 256 := by decide
theorem or8 (x c : Int) (hx : 0 ≤ x) (hx2 : x < 16777216) (hc : 0 ≤ c) (hc2 : c < 256) :
    IntKind.u32.wrap (((BitVec.ofInt IntKind.u32.bits (IntKind.u32.wrap (x * (2 ^ (min (8 : Int).toNat (IntKind.u32.bits))))) ||| BitVec.ofInt IntKind.u32.bits (IntKind.u32.wrap c)).toNat : Int)) = x * 256 + c := by
  obtain ⟨a, rfl⟩ : ∃ a : Nat, x = (a : Int) := ⟨x.toNat, by omega⟩
  obtain ⟨b, rfl⟩ : ∃ b : Nat, c = (b : Int) := ⟨c.toNat, by omega⟩
  rw [sh8, u32_in ((a : Int) * 256) (by omega) (by omega), u32_in (b : Int) (by omega) (by omega)]
  have e1 : (BitVec.ofInt IntKind.u32.bits ((a : Int) * 256)).toNat = a * 2 ^ 8 := by
    show (BitVec.ofInt 32 ((a : Int) * 256)).toNat = _
    rw [BitVec.toNat_ofInt]; omega
  have e2 : (BitVec.ofInt IntKind.u32.bits (b : Int)).toNat = b := by
    show (BitVec.ofInt 32 (b : Int)).toNat = _
    rw [BitVec.toNat_ofInt]; omega
  rw [BitVec.toNat_or, e1, e2, ← Nat.shiftLeft_eq, ← Nat.shiftLeft_add_eq_or_of_lt (show b < 2 ^ 8 by omega), Nat.shiftLeft_eq, u32_in _ (by omega) (by omega)]
  omega
theorem put1 (n : Int) (h : 0 ≤ n) (h2 : n < 256) : f_octets_PutO.f 1000 n 1 = some ([n], (0, ())) := by
  have e : f_octets_PutO.f 1000 n 1 = if (decide (n < (0 : Int))) = true then f_octets_PutO.j1 1000 n 1 true else f_octets_PutO.j1 1000 n 1 ((Int.fdiv n 256) != (0 : Int)) := by kernel_rfl
  rw [e, if_neg (by rw [decide_eq_false (by omega)]; exact Bool.false_ne_true), fdiv_pos _ _ (by omega), show n / 256 = 0 by omega]
  have e2 : f_octets_PutO.j1 1000 n 1 false = some ([IntKind.u8.wrap (Int.fdiv n 1)], (0, ())) := by kernel_rfl
  show f_octets_PutO.j1 1000 n 1 false = _
  rw [e2, fdiv_pos _ _ (by omega), u8_in _ (by omega) (by omega), show n / 1 = n by omega]
theorem put2 (n : Int) (h : 0 ≤ n) (h2 : n < 65536) : f_octets_PutO.f 1000 n 2 = some ([n / 256, n % 256], (0, ())) := by
  have e : f_octets_PutO.f 1000 n 2 = if (decide (n < (0 : Int))) = true then f_octets_PutO.j1 1000 n 2 true else f_octets_PutO.j1 1000 n 2 ((Int.fdiv n 65536) != (0 : Int)) := by kernel_rfl
  rw [e, if_neg (by rw [decide_eq_false (by omega)]; exact Bool.false_ne_true), fdiv_pos _ _ (by omega), show n / 65536 = 0 by omega]
  have e2 : f_octets_PutO.j1 1000 n 2 false = some ([IntKind.u8.wrap (Int.fdiv n 256), IntKind.u8.wrap (Int.fdiv n 1)], (0, ())) := by kernel_rfl
  show f_octets_PutO.j1 1000 n 2 false = _
  rw [e2, fdiv_pos _ _ (by omega), fdiv_pos _ _ (by omega), u8_in (n / 256) (by omega) (by omega), u8_mod, show n / 1 = n by omega]
theorem put3 (n : Int) (h : 0 ≤ n) (h2 : n < 16777216) : f_octets_PutO.f 1000 n 3 = some ([n / 65536, n / 256 % 256, n % 256], (0, ())) := by
  have e : f_octets_PutO.f 1000 n 3 = if (decide (n < (0 : Int))) = true then f_octets_PutO.j1 1000 n 3 true else f_octets_PutO.j1 1000 n 3 ((Int.fdiv n 16777216) != (0 : Int)) := by kernel_rfl
  rw [e, if_neg (by rw [decide_eq_false (by omega)]; exact Bool.false_ne_true), fdiv_pos _ _ (by omega), show n / 16777216 = 0 by omega]
  have e2 : f_octets_PutO.j1 1000 n 3 false = some ([IntKind.u8.wrap (Int.fdiv n 65536), IntKind.u8.wrap (Int.fdiv n 256), IntKind.u8.wrap (Int.fdiv n 1)], (0, ())) := by kernel_rfl
  show f_octets_PutO.j1 1000 n 3 false = _
  rw [e2, fdiv_pos _ _ (by omega), fdiv_pos _ _ (by omega), fdiv_pos _ _ (by omega), u8_in (n / 65536) (by omega) (by omega), u8_mod, u8_mod, show n / 1 = n by omega]
theorem put4 (n : Int) (h : 0 ≤ n) (h2 : n < 4294967296) : f_octets_PutO.f 1000 n 4 = some ([n / 16777216, n / 65536 % 256, n / 256 % 256, n % 256], (0, ())) := by
  have e : f_octets_PutO.f 1000 n 4 = if (decide (n < (0 : Int))) = true then f_octets_PutO.j1 1000 n 4 true else f_octets_PutO.j1 1000 n 4 ((Int.fdiv n 4294967296) != (0 : Int)) := by kernel_rfl
  rw [e, if_neg (by rw [decide_eq_false (by omega)]; exact Bool.false_ne_true), fdiv_pos _ _ (by omega), show n / 4294967296 = 0 by omega]
  have e2 : f_octets_PutO.j1 1000 n 4 false = some ([IntKind.u8.wrap (Int.fdiv n 16777216), IntKind.u8.wrap (Int.fdiv n 65536), IntKind.u8.wrap (Int.fdiv n 256), IntKind.u8.wrap (Int.fdiv n 1)], (0, ())) := by kernel_rfl
  show f_octets_PutO.j1 1000 n 4 false = _
  rw [e2, fdiv_pos _ _ (by omega), fdiv_pos _ _ (by omega), fdiv_pos _ _ (by omega), fdiv_pos _ _ (by omega), u8_in (n / 16777216) (by omega) (by omega), u8_mod, u8_mod, u8_mod, show n / 1 = n by omega]
-- numbers out of bytes
def o8 (x c : Int) : Int := IntKind.u32.wrap (((BitVec.ofInt IntKind.u32.bits (IntKind.u32.wrap (x * (2 ^ (min (8 : Int).toNat (IntKind.u32.bits))))) ||| BitVec.ofInt IntKind.u32.bits (IntKind.u32.wrap c)).toNat : Int))
theorem o8_eq (x c : Int) (hx : 0 ≤ x) (hx2 : x < 16777216) (hc : 0 ≤ c) (hc2 : c < 256) : o8 x c = x * 256 + c := or8 x c hx hx2 hc hc2
theorem get1 (a : Int) (r : List Int) (ha : 0 ≤ a ∧ a < 256) : f_octets_Get.f 1000 (a :: r) 1 = some (a, (0, ())) := by
  have e : f_octets_Get.f 1000 (a :: r) 1 = if (decide (((a :: r).length : Int) < 1)) = true then some ((0 : Int), ((3 : Int), ())) else if 0 ≤ (0 : Int) ∧ (0 : Int) ≤ 1 ∧ 1 ≤ ((a :: r).length : Int) then some (IntKind.i64.wrap (o8 0 a), (0, ())) else none := by kernel_rfl
  rw [e, if_neg (by simp only [List.length_cons, decide_eq_true_eq]; omega), if_pos (by simp only [List.length_cons]; omega), o8_eq _ _ (by omega) (by omega) (by omega) (by omega), IntWalk.i64_in _ (by omega), show (0 : Int) * 256 + a = a by omega]
theorem get2 (a b : Int) (r : List Int) (ha : 0 ≤ a ∧ a < 256) (hb : 0 ≤ b ∧ b < 256) : f_octets_Get.f 1000 (a :: b :: r) 2 = some (a * 256 + b, (0, ())) := by
  have e : f_octets_Get.f 1000 (a :: b :: r) 2 = if (decide (((a :: b :: r).length : Int) < 2)) = true then some ((0 : Int), ((3 : Int), ())) else if 0 ≤ (0 : Int) ∧ (0 : Int) ≤ 2 ∧ 2 ≤ ((a :: b :: r).length : Int) then some (IntKind.i64.wrap (o8 (o8 0 a) b), (0, ())) else none := by kernel_rfl
  have e1 := o8_eq 0 a (by omega) (by omega) (by omega) (by omega)
  rw [e, if_neg (by simp only [List.length_cons, decide_eq_true_eq]; omega), if_pos (by simp only [List.length_cons]; omega), e1, o8_eq _ _ (by omega) (by omega) (by omega) (by omega), IntWalk.i64_in _ (by omega), show ((0 : Int) * 256 + a) * 256 + b = a * 256 + b by omega]
theorem get3 (a b c : Int) (r : List Int) (ha : 0 ≤ a ∧ a < 256) (hb : 0 ≤ b ∧ b < 256) (hc : 0 ≤ c ∧ c < 256) : f_octets_Get.f 1000 (a :: b :: c :: r) 3 = some ((a * 256 + b) * 256 + c, (0, ())) := by
  have e : f_octets_Get.f 1000 (a :: b :: c :: r) 3 = if (decide (((a :: b :: c :: r).length : Int) < 3)) = true then some ((0 : Int), ((3 : Int), ())) else if 0 ≤ (0 : Int) ∧ (0 : Int) ≤ 3 ∧ 3 ≤ ((a :: b :: c :: r).length : Int) then some (IntKind.i64.wrap (o8 (o8 (o8 0 a) b) c), (0, ())) else none := by kernel_rfl
  have e1 := o8_eq 0 a (by omega) (by omega) (by omega) (by omega)
  have e2 := o8_eq (0 * 256 + a) b (by omega) (by omega) (by omega) (by omega)
  rw [e, if_neg (by simp only [List.length_cons, decide_eq_true_eq]; omega), if_pos (by simp only [List.length_cons]; omega), e1, e2, o8_eq _ _ (by omega) (by omega) (by omega) (by omega), IntWalk.i64_in _ (by omega), show (((0 : Int) * 256 + a) * 256 + b) * 256 + c = (a * 256 + b) * 256 + c by omega]
theorem get4 (a b c d : Int) (r : List Int) (ha : 0 ≤ a ∧ a < 256) (hb : 0 ≤ b ∧ b < 256) (hc : 0 ≤ c ∧ c < 256) (hd : 0 ≤ d ∧ d < 256) : f_octets_Get.f 1000 (a :: b :: c :: d :: r) 4 = some (((a * 256 + b) * 256 + c) * 256 + d, (0, ())) := by
  have e : f_octets_Get.f 1000 (a :: b :: c :: d :: r) 4 = if (decide (((a :: b :: c :: d :: r).length : Int) < 4)) = true then some ((0 : Int), ((3 : Int), ())) else if 0 ≤ (0 : Int) ∧ (0 : Int) ≤ 4 ∧ 4 ≤ ((a :: b :: c :: d :: r).length : Int) then some (IntKind.i64.wrap (o8 (o8 (o8 (o8 0 a) b) c) d), (0, ())) else none := by kernel_rfl
  have e1 := o8_eq 0 a (by omega) (by omega) (by omega) (by omega)
  have e2 := o8_eq (0 * 256 + a) b (by omega) (by omega) (by omega) (by omega)
  have e3 := o8_eq ((0 * 256 + a) * 256 + b) c (by omega) (by omega) (by omega) (by omega)
  rw [e, if_neg (by simp only [List.length_cons, decide_eq_true_eq]; omega), if_pos (by simp only [List.length_cons]; omega), e1, e2, e3, o8_eq _ _ (by omega) (by omega) (by omega) (by omega), IntWalk.i64_in _ (by omega), show ((((0 : Int) * 256 + a) * 256 + b) * 256 + c) * 256 + d = ((a * 256 + b) * 256 + c) * 256 + d by omega]
def inb (x : Int × Int) (n : Int) : Bool := decide (n ≥ x.1) && decide (n ≤ x.2)
theorem inb_eq (k : Nat) (x : Int × Int) (n : Int) : f_msg_bounds_in.f k x n = some (inb x n, ()) := by
  unfold f_msg_bounds_in.f inb
  cases h : decide (n ≥ x.1)
  · rw [if_neg Bool.false_ne_true]; rfl
  · rw [if_pos rfl]; rfl
def kindOf (n : Int) : Ta655.T := att Ta655 glob0 n
def zr (r : Rl) : Bool := (r.1.1 == (0 : Int)) && ((r.1.2 == (0 : Int)) && ((r.2.1 == (0 : Int)) && ((r.2.2.1 == (0 : Int)) && ((r.2.2.2.1 == (0 : Int)) && ((r.2.2.2.2 == (0 : Int)) && true)))))
noncomputable def mmay (m : Mg) : Bool := decide (0 ≤ m.1) && (decide (m.1 < 6) && ((if (kindOf m.1).2.2 = true then rmay m.2.2.2.2 else zr m.2.2.2.2) && (inb (1, 1048576) m.2.1 && (inb (kindOf m.1).1 m.2.2.1 && inb (kindOf m.1).2.1 m.2.2.2.1))))
theorem mmay_eq (k : Nat) (m : Mg) : f_msg_May.f k m = some (mmay m, ()) := by
  unfold f_msg_May.f mmay
  have hj : f_msg_May.j1 k true m = some (false, ()) := by unfold f_msg_May.j1; rw [if_pos rfl]
  by_cases h1 : m.1 < (0 : Int)
  · rw [if_pos (decide_eq_true h1), hj, decide_eq_false (show ¬ (0 : Int) ≤ m.1 from Int.not_le.2 h1)]; rfl
  rw [if_neg (by rw [decide_eq_false h1]; exact Bool.false_ne_true), decide_eq_true (show (0 : Int) ≤ m.1 from Int.not_lt.1 h1)]
  by_cases h2 : m.1 < (6 : Int)
  · rw [decide_eq_false (show ¬ m.1 ≥ (6 : Int) from Int.not_le.2 h2), decide_eq_true h2]
    unfold f_msg_May.j1
    rw [if_neg Bool.false_ne_true, if_pos (Int.not_lt.1 h1), if_pos h2]
    simp only [Bool.true_and]
    have h3 : ∀ b, f_msg_May.j2 k b m (att Ta655 glob0 m.1) = some (b && (inb (1, 1048576) m.2.1 && (inb (kindOf m.1).1 m.2.2.1 && inb (kindOf m.1).2.1 m.2.2.2.1)), ()) := by
      intro b
      unfold f_msg_May.j2
      cases b
      · rw [if_neg Bool.false_ne_true]; rfl
      · rw [if_pos rfl, inb_eq, Option.bind_some]
        cases inb (1, 1048576) m.2.1
        · rw [if_neg Bool.false_ne_true]; rfl
        · rw [if_pos rfl, inb_eq, Option.bind_some]
          show (if inb (kindOf m.1).1 m.2.2.1 = true then _ else _) = _
          cases inb (kindOf m.1).1 m.2.2.1
          · rw [if_neg Bool.false_ne_true]; rfl
          · rw [if_pos rfl, inb_eq]; rfl
    show (if (kindOf m.1).2.2 = true then _ else _) = _
    by_cases h4 : (kindOf m.1).2.2 = true
    · rw [if_pos h4, if_pos h4, rmay_eq, Option.bind_some, h3]
    · rw [if_neg h4, if_neg h4, h3]; rfl
  · rw [decide_eq_true (show m.1 ≥ (6 : Int) from Int.not_lt.1 h2), hj, decide_eq_false h2]; rfl
theorem zr_eq {r : Rl} (h : zr r = true) : r = ((0, 0), (0, (0, (0, 0)))) := by
  unfold zr at h
  simp only [Bool.and_eq_true, beq_iff_eq, and_true] at h
  obtain ⟨h1, h2, h3, h4, h5, h6⟩ := h
  obtain ⟨⟨a, b⟩, c, d, e, f⟩ := r
  dsimp only at h1 h2 h3 h4 h5 h6
  rw [h1, h2, h3, h4, h5, h6]
structure MM (kd ep sq tg : Int) (r : Rl) : Prop where
  k0 : 0 ≤ kd
  k1 : kd < 6
  e0 : 1 ≤ ep
  e1 : ep ≤ 1048576
  s0 : 0 ≤ sq
  s1 : sq ≤ 1048576
  t0 : 0 ≤ tg
  t1 : tg ≤ 4095
  two : kd = 2 → rmay r = true
  not2 : kd ≠ 2 → r = ((0, 0), (0, (0, (0, 0))))
  kx : (kindOf kd).2.2 = (kd == 2)
  sx : kd ≥ 2 → 1 ≤ sq
  tx : kd ≥ 2 → kd ≤ 4 → 1 ≤ tg
theorem kinds6 (n : Int) (h : 0 ≤ n) (h2 : n < 6) : n = 0 ∨ n = 1 ∨ n = 2 ∨ n = 3 ∨ n = 4 ∨ n = 5 := by omega
theorem mmay_ok {m : Mg} (h : mmay m = true) : MM m.1 m.2.1 m.2.2.1 m.2.2.2.1 m.2.2.2.2 := by
  have key : ∀ (kd ep sq tg : Int) (r : Rl), mmay (kd, (ep, (sq, (tg, r)))) = true → MM kd ep sq tg r := by
    intro kd ep sq tg r h
    unfold mmay at h
    simp only [Bool.and_eq_true, decide_eq_true_eq] at h
    obtain ⟨h1, h2, h3, h4, h5, h6⟩ := h
    unfold inb at h4 h5 h6
    simp only [Bool.and_eq_true, decide_eq_true_eq] at h4 h5 h6
    rcases kinds6 kd h1 h2 with rfl | rfl | rfl | rfl | rfl | rfl
    · have h3 : zr r = true := h3
      replace h5 : sq ≥ (0 : Int) ∧ sq ≤ (0 : Int) := h5
      replace h6 : tg ≥ (0 : Int) ∧ tg ≤ (0 : Int) := h6
      exact ⟨h1, h2, h4.1, h4.2, h5.1, by omega, h6.1, by omega, fun h => by omega, fun _ => zr_eq h3, rfl, fun h => by omega, fun h => by omega⟩
    · have h3 : zr r = true := h3
      replace h5 : sq ≥ (0 : Int) ∧ sq ≤ (1048576 : Int) := h5
      replace h6 : tg ≥ (0 : Int) ∧ tg ≤ (4095 : Int) := h6
      exact ⟨h1, h2, h4.1, h4.2, h5.1, h5.2, h6.1, h6.2, fun h => by omega, fun _ => zr_eq h3, rfl, fun h => by omega, fun h => by omega⟩
    · have h3 : rmay r = true := h3
      replace h5 : sq ≥ (1 : Int) ∧ sq ≤ (1048576 : Int) := h5
      replace h6 : tg ≥ (1 : Int) ∧ tg ≤ (4095 : Int) := h6
      exact ⟨h1, h2, h4.1, h4.2, by omega, h5.2, by omega, h6.2, fun _ => h3, fun h => absurd rfl h, rfl, fun _ => h5.1, fun _ _ => h6.1⟩
    · have h3 : zr r = true := h3
      replace h5 : sq ≥ (1 : Int) ∧ sq ≤ (1048576 : Int) := h5
      replace h6 : tg ≥ (1 : Int) ∧ tg ≤ (4095 : Int) := h6
      exact ⟨h1, h2, h4.1, h4.2, by omega, h5.2, by omega, h6.2, fun h => by omega, fun _ => zr_eq h3, rfl, fun _ => h5.1, fun _ _ => h6.1⟩
    · have h3 : zr r = true := h3
      replace h5 : sq ≥ (1 : Int) ∧ sq ≤ (1048576 : Int) := h5
      replace h6 : tg ≥ (1 : Int) ∧ tg ≤ (4095 : Int) := h6
      exact ⟨h1, h2, h4.1, h4.2, by omega, h5.2, by omega, h6.2, fun h => by omega, fun _ => zr_eq h3, rfl, fun _ => h5.1, fun _ _ => h6.1⟩
    · have h3 : zr r = true := h3
      replace h5 : sq ≥ (1 : Int) ∧ sq ≤ (1048576 : Int) := h5
      replace h6 : tg ≥ (0 : Int) ∧ tg ≤ (0 : Int) := h6
      exact ⟨h1, h2, h4.1, h4.2, by omega, h5.2, h6.1, by omega, fun h => by omega, fun _ => zr_eq h3, rfl, fun _ => h5.1, fun _ h => by omega⟩
  exact key _ _ _ _ _ h
-- bytes
noncomputable def stepP {R : Type} (o : Option (List Int × Int × Unit)) (acc : List Int) (z : Int → Option R) (K : List Int → Option R) : Option R := o.bind fun y => if (y.2.1 != (0 : Int)) = true then z y.2.1 else if (acc.length + y.1.length) * 1 ≤ 140737488355328 then K (acc ++ y.1) else none
theorem stepP_ok {R : Type} {o : Option (List Int × Int × Unit)} {acc ys : List Int} {z : Int → Option R} {K : List Int → Option R} (h : o = some (ys, (0, ()))) (hl : acc.length + ys.length ≤ 1000) : stepP o acc z K = K (acc ++ ys) := by
  subst h
  unfold stepP
  rw [Option.bind_some, if_neg (show ¬ ((0 : Int) != 0) = true by decide)]
  exact if_pos (by dsimp only; omega)
theorem putall (a b c d : Int) (ha : 0 ≤ a ∧ a < 256) (hb : 0 ≤ b ∧ b < 16777216) (hc : 0 ≤ c ∧ c < 16777216) (hd : 0 ≤ d ∧ d < 65536) :
    f_octets_PutAllO.f 1000 [a, b, c, d] [1, 3, 3, 2] = some ([a, b / 65536, b / 256 % 256, b % 256, c / 65536, c / 256 % 256, c % 256, d / 256, d % 256], (0, ())) := by
  have e : f_octets_PutAllO.f 1000 [a, b, c, d] [1, 3, 3, 2] = stepP (f_octets_PutO.f 1000 a 1) [] (fun e => some ([], (e, ()))) fun s1 => stepP (f_octets_PutO.f 1000 b 3) s1 (fun e => some ([], (e, ()))) fun s2 => stepP (f_octets_PutO.f 1000 c 3) s2 (fun e => some ([], (e, ()))) fun s3 => stepP (f_octets_PutO.f 1000 d 2) s3 (fun e => some ([], (e, ()))) fun s4 => some (s4, (0, ())) := by kernel_rfl
  rw [e, stepP_ok (put1 a ha.1 ha.2) (by simp only [List.length_append, List.length_cons, List.length_nil]; omega), stepP_ok (put3 b hb.1 hb.2) (by simp only [List.length_append, List.length_cons, List.length_nil]; omega), stepP_ok (put3 c hc.1 hc.2) (by simp only [List.length_append, List.length_cons, List.length_nil]; omega), stepP_ok (put2 d hd.1 hd.2) (by simp only [List.length_append, List.length_cons, List.length_nil]; omega)]
  rfl
structure RM (a l i p k o : Int) : Prop where
  a0 : 0 ≤ a
  a1 : a ≤ 4294967295
  l0 : 0 ≤ l
  l1 : l ≤ 32
  i0 : -1 ≤ i
  i1 : i ≤ 7
  p0 : 0 ≤ p
  p1 : p ≤ 255
  k0 : 0 ≤ k
  k1 : k ≤ 1
  o0 : 0 ≤ o
  o1 : o ≤ 7
theorem rmay_ok {r : Rl} (h : rmay r = true) : RM r.1.1 r.1.2 r.2.1 r.2.2.1 r.2.2.2.1 r.2.2.2.2 := by
  have key : ∀ (a l i p k o : Int), rmay ((a, l), (i, (p, (k, o)))) = true → RM a l i p k o := by
    intro a l i p k o h
    unfold rmay port pmay at h
    simp only [Bool.and_eq_true, decide_eq_true_eq, ge_iff_le] at h
    obtain ⟨h1, ⟨g1, g2, g3, g4, _⟩, h3, h4, h5, h6⟩ := h
    split at h1
    · rename_i h7
      simp only [Bool.and_eq_true, beq_iff_eq, and_true] at h7
      obtain ⟨h7, h8⟩ := h7
      replace h7 : k = 0 := h7
      replace h8 : o = 0 := h8
      exact ⟨g3, g4, g1, g2, h3, h4, h5, h6, by omega, by omega, by omega, by omega⟩
    · simp only [Bool.and_eq_true, beq_iff_eq, decide_eq_true_eq, ge_iff_le] at h1
      obtain ⟨h7, h8, h9⟩ := h1
      replace h7 : k = 1 := h7
      exact ⟨g3, g4, g1, g2, h3, h4, h5, h6, by omega, by omega, h8, h9⟩
  exact key _ _ _ _ _ _ h
def rby (r : Rl) : List Int := [r.1.1 / 16777216, r.1.1 / 65536 % 256, r.1.1 / 256 % 256, r.1.1 % 256, r.1.2, r.2.1 + 1, r.2.2.1, r.2.2.2.1, r.2.2.2.2]
theorem rput (r : Rl) (h : rmay r = true) : f_rule_PutO.f 1000 r = some (rby r, (0, ())) := by
  have q := rmay_ok h
  unfold f_rule_PutO.f
  rw [rmay_eq, h, Option.bind_some, if_neg (by decide), put4 _ q.a0 (by have := q.a1; omega), Option.bind_some, if_pos (by simp only [List.length_append, List.length_cons, List.length_nil]; omega)]
  have := q.a0; have := q.a1; have := q.l0; have := q.l1; have := q.i0; have := q.i1; have := q.p0; have := q.p1; have := q.k0; have := q.k1; have := q.o0; have := q.o1
  rw [u8_in r.1.2 (by omega) (by omega), IntWalk.i64_in (r.2.1 + 1) (by omega), u8_in (r.2.1 + 1) (by omega) (by omega), u8_in r.2.2.1 (by omega) (by omega), u8_in r.2.2.2.1 (by omega) (by omega), u8_in r.2.2.2.2 (by omega) (by omega)]
  rfl
def hby (m : Mg) : List Int := [m.1, m.2.1 / 65536, m.2.1 / 256 % 256, m.2.1 % 256, m.2.2.1 / 65536, m.2.2.1 / 256 % 256, m.2.2.1 % 256, m.2.2.2.1 / 256, m.2.2.2.1 % 256]
def mby (m : Mg) : List Int := if m.1 = (2 : Int) then hby m ++ rby m.2.2.2.2 else hby m
theorem mput (m : Mg) : f_msg_PutO.f 1000 m = some (if mmay m = true then mby m else [], (if mmay m = true then 0 else 1, ())) := by
  unfold f_msg_PutO.f
  rw [mmay_eq, Option.bind_some]
  by_cases h : mmay m = true
  · have q := mmay_ok h
    rw [h, if_neg (by decide), if_pos rfl, if_pos rfl, putall m.1 m.2.1 m.2.2.1 m.2.2.2.1 ⟨q.k0, by have := q.k1; omega⟩ ⟨by have := q.e0; omega, by have := q.e1; omega⟩ ⟨q.s0, by have := q.s1; omega⟩ ⟨q.t0, by have := q.t1; omega⟩, Option.bind_some, if_neg (show ¬ ((0 : Int) != 0) = true by decide), if_pos q.k0, if_pos q.k1]
    unfold f_msg_PutO.j1 mby
    have hk : (att Ta655 glob0 m.1).2.2 = (m.1 == (2 : Int)) := q.kx
    rw [hk]
    by_cases h2 : m.1 = (2 : Int)
    · rw [beq_iff_eq.2 h2, if_neg (by decide), rput _ (q.two h2), Option.bind_some, if_pos (show _ by unfold rby; simp only [List.length_append, List.length_cons, List.length_nil]; omega), if_pos h2]
      rfl
    · rw [beq_eq_false_iff_ne.2 h2, if_pos (show (!false) = true from rfl), if_neg h2]
      rfl
  · rw [Bool.eq_false_iff.2 h, if_pos (show (!(false, ()).1) = true from rfl), if_neg Bool.false_ne_true, if_neg Bool.false_ne_true]
noncomputable def stepG {R : Type} (o : Option (Int × Int × Unit)) (z : Int → Option R) (K : Int → Option R) : Option R := o.bind fun y => if (y.2.1 != (0 : Int)) = true then z y.2.1 else K y.1
theorem stepG_ok {R : Type} {o : Option (Int × Int × Unit)} {n : Int} {z : Int → Option R} {K : Int → Option R} (h : o = some (n, (0, ()))) : stepG o z K = K n := by
  subst h
  unfold stepG
  rw [Option.bind_some, if_neg (show ¬ ((0 : Int) != 0) = true by decide)]
abbrev B8 (x : Int) : Prop := 0 ≤ x ∧ x < 256
abbrev mz : Mg := (0, (0, (0, (0, ((0, 0), (0, (0, (0, 0))))))))
theorem getall9 (b0 b1 b2 b3 b4 b5 b6 b7 b8 : Int) (h0 : B8 b0) (h1 : B8 b1) (h2 : B8 b2) (h3 : B8 b3) (h4 : B8 b4) (h5 : B8 b5) (h6 : B8 b6) (h7 : B8 b7) (h8 : B8 b8) :
    f_octets_GetAll.f 1000 [b0, b1, b2, b3, b4, b5, b6, b7, b8] [1, 3, 3, 2] = some ([b0, (b1 * 256 + b2) * 256 + b3, (b4 * 256 + b5) * 256 + b6, b7 * 256 + b8], (9, (0, ()))) := by
  have e : f_octets_GetAll.f 1000 [b0, b1, b2, b3, b4, b5, b6, b7, b8] [1, 3, 3, 2] = stepG (f_octets_Get.f 1000 [b0, b1, b2, b3, b4, b5, b6, b7, b8] 1) (fun e => some ([], (0, (e, ())))) fun n0 => stepG (f_octets_Get.f 1000 [b1, b2, b3, b4, b5, b6, b7, b8] 3) (fun e => some ([], (0, (e, ())))) fun n1 => stepG (f_octets_Get.f 1000 [b4, b5, b6, b7, b8] 3) (fun e => some ([], (0, (e, ())))) fun n2 => stepG (f_octets_Get.f 1000 [b7, b8] 2) (fun e => some ([], (0, (e, ())))) fun n3 => some ([n0, n1, n2, n3], (9, (0, ()))) := by kernel_rfl
  rw [e, stepG_ok (get1 b0 _ h0), stepG_ok (get3 b1 b2 b3 _ h1 h2 h3), stepG_ok (get3 b4 b5 b6 _ h4 h5 h6), stepG_ok (get2 b7 b8 _ h7 h8)]
theorem getall18 (b0 b1 b2 b3 b4 b5 b6 b7 b8 c0 c1 c2 c3 c4 c5 c6 c7 c8 : Int) (h0 : B8 b0) (h1 : B8 b1) (h2 : B8 b2) (h3 : B8 b3) (h4 : B8 b4) (h5 : B8 b5) (h6 : B8 b6) (h7 : B8 b7) (h8 : B8 b8) :
    f_octets_GetAll.f 1000 [b0, b1, b2, b3, b4, b5, b6, b7, b8, c0, c1, c2, c3, c4, c5, c6, c7, c8] [1, 3, 3, 2] = some ([b0, (b1 * 256 + b2) * 256 + b3, (b4 * 256 + b5) * 256 + b6, b7 * 256 + b8], (9, (0, ()))) := by
  have e : f_octets_GetAll.f 1000 [b0, b1, b2, b3, b4, b5, b6, b7, b8, c0, c1, c2, c3, c4, c5, c6, c7, c8] [1, 3, 3, 2] = stepG (f_octets_Get.f 1000 [b0, b1, b2, b3, b4, b5, b6, b7, b8, c0, c1, c2, c3, c4, c5, c6, c7, c8] 1) (fun e => some ([], (0, (e, ())))) fun n0 => stepG (f_octets_Get.f 1000 [b1, b2, b3, b4, b5, b6, b7, b8, c0, c1, c2, c3, c4, c5, c6, c7, c8] 3) (fun e => some ([], (0, (e, ())))) fun n1 => stepG (f_octets_Get.f 1000 [b4, b5, b6, b7, b8, c0, c1, c2, c3, c4, c5, c6, c7, c8] 3) (fun e => some ([], (0, (e, ())))) fun n2 => stepG (f_octets_Get.f 1000 [b7, b8, c0, c1, c2, c3, c4, c5, c6, c7, c8] 2) (fun e => some ([], (0, (e, ())))) fun n3 => some ([n0, n1, n2, n3], (9, (0, ()))) := by kernel_rfl
  rw [e, stepG_ok (get1 b0 _ h0), stepG_ok (get3 b1 b2 b3 _ h1 h2 h3), stepG_ok (get3 b4 b5 b6 _ h4 h5 h6), stepG_ok (get2 b7 b8 _ h7 h8)]
theorem rget' (a l i p k o : Int) (h : rmay ((a, l), (i, (p, (k, o)))) = true) : f_rule_Get.f 1000 (rby ((a, l), (i, (p, (k, o))))) = some (((a, l), (i, (p, (k, o)))), (0, ())) := by
  have q := rmay_ok h
  have ha0 : 0 ≤ a := q.a0
  have ha1 : a ≤ 4294967295 := q.a1
  have hl : B8 l := ⟨q.l0, by have : l ≤ 32 := q.l1; omega⟩
  have hi : B8 (i + 1) := ⟨by have : -1 ≤ i := q.i0; omega, by have : i ≤ 7 := q.i1; omega⟩
  have hp : B8 p := ⟨q.p0, by have : p ≤ 255 := q.p1; omega⟩
  have hk : B8 k := ⟨q.k0, by have : k ≤ 1 := q.k1; omega⟩
  have ho : B8 o := ⟨q.o0, by have : o ≤ 7 := q.o1; omega⟩
  have e : f_rule_Get.f 1000 (rby ((a, l), (i, (p, (k, o))))) = stepG (f_octets_Get.f 1000 (rby ((a, l), (i, (p, (k, o))))) 4) (fun e => some (((0, 0), (0, (0, (0, 0)))), (2, ()))) fun n => (f_rule_May.f 1000 ((n, IntKind.i64.wrap l), (IntKind.i64.wrap (IntKind.i64.wrap (i + 1) - 1), (IntKind.i64.wrap p, (IntKind.i64.wrap k, IntKind.i64.wrap o))))).bind fun y => f_rule_Get.j1 1000 (!y.1) ((0, 0), (0, (0, (0, 0)))) ((n, IntKind.i64.wrap l), (IntKind.i64.wrap (IntKind.i64.wrap (i + 1) - 1), (IntKind.i64.wrap p, (IntKind.i64.wrap k, IntKind.i64.wrap o)))) := by kernel_rfl
  have g : f_octets_Get.f 1000 (rby ((a, l), (i, (p, (k, o))))) 4 = some (a, (0, ())) := by
    have := get4 (a / 16777216) (a / 65536 % 256) (a / 256 % 256) (a % 256) [l, i + 1, p, k, o] (by omega) (by omega) (by omega) (by omega)
    rw [show ((a / 16777216 * 256 + a / 65536 % 256) * 256 + a / 256 % 256) * 256 + a % 256 = a by omega] at this
    exact this
  rw [e, stepG_ok g, IntWalk.i64_in l (by omega), IntWalk.i64_in (i + 1) (by omega), IntWalk.i64_in (i + 1 - 1) (by omega), IntWalk.i64_in p (by omega), IntWalk.i64_in k (by omega), IntWalk.i64_in o (by omega), show i + 1 - 1 = i by omega, rmay_eq, h]
  rfl
theorem rget (r : Rl) (h : rmay r = true) : f_rule_Get.f 1000 (rby r) = some (r, (0, ())) := rget' _ _ _ _ _ _ h
theorem mget' (kd ep sq tg : Int) (r : Rl) (h : mmay (kd, (ep, (sq, (tg, r)))) = true) : f_msg_Get.f 1000 (mby (kd, (ep, (sq, (tg, r))))) = some ((kd, (ep, (sq, (tg, r)))), (0, ())) := by
  have q := mmay_ok h
  have hk0 : 0 ≤ kd := q.k0
  have hk1 : kd < 6 := q.k1
  have he0 : 1 ≤ ep := q.e0
  have he1 : ep ≤ 1048576 := q.e1
  have hs0 : 0 ≤ sq := q.s0
  have hs1 : sq ≤ 1048576 := q.s1
  have ht0 : 0 ≤ tg := q.t0
  have ht1 : tg ≤ 4095 := q.t1
  have v1 : (ep / 65536 * 256 + ep / 256 % 256) * 256 + ep % 256 = ep := by omega
  have v2 : (sq / 65536 * 256 + sq / 256 % 256) * 256 + sq % 256 = sq := by omega
  have v3 : tg / 256 * 256 + tg % 256 = tg := by omega
  have hj : f_msg_Get.j2 1000 mz (kd, (ep, (sq, (tg, r)))) = some ((kd, (ep, (sq, (tg, r)))), (0, ())) := by
    unfold f_msg_Get.j2
    rw [mmay_eq, h]
    rfl
  by_cases h2 : kd = 2
  · have hr : rmay r = true := q.two h2
    have eb : mby (kd, (ep, (sq, (tg, r)))) = hby (kd, (ep, (sq, (tg, r)))) ++ rby r := if_pos h2
    have g := getall18 kd (ep / 65536) (ep / 256 % 256) (ep % 256) (sq / 65536) (sq / 256 % 256) (sq % 256) (tg / 256) (tg % 256) (r.1.1 / 16777216) (r.1.1 / 65536 % 256) (r.1.1 / 256 % 256) (r.1.1 % 256) r.1.2 (r.2.1 + 1) r.2.2.1 r.2.2.2.1 r.2.2.2.2 (by omega) (by omega) (by omega) (by omega) (by omega) (by omega) (by omega) (by omega) (by omega)
    rw [v1, v2, v3] at g
    have e : f_msg_Get.f 1000 (hby (kd, (ep, (sq, (tg, r)))) ++ rby r) = (f_octets_GetAll.f 1000 (hby (kd, (ep, (sq, (tg, r)))) ++ rby r) [1, 3, 3, 2]).bind fun y1 => if (y1.2.2.1 != (0 : Int)) = true then some (mz, (y1.2.2.1, ())) else if (0 : Int) < (y1.1.length : Int) then if (1 : Int) < (y1.1.length : Int) then if (2 : Int) < (y1.1.length : Int) then if (3 : Int) < (y1.1.length : Int) then if ((att (.int .i64) y1.1 0) == (2 : Int)) = true then f_msg_Get.j1 1000 (hby (kd, (ep, (sq, (tg, r)))) ++ rby r) y1.2.1 18 mz ((att (.int .i64) y1.1 0), ((att (.int .i64) y1.1 1), ((att (.int .i64) y1.1 2), ((att (.int .i64) y1.1 3), ((0, 0), (0, (0, (0, 0)))))))) else f_msg_Get.j1 1000 (hby (kd, (ep, (sq, (tg, r)))) ++ rby r) y1.2.1 9 mz ((att (.int .i64) y1.1 0), ((att (.int .i64) y1.1 1), ((att (.int .i64) y1.1 2), ((att (.int .i64) y1.1 3), ((0, 0), (0, (0, (0, 0)))))))) else none else none else none else none := by kernel_rfl
    have g' : f_octets_GetAll.f 1000 (hby (kd, (ep, (sq, (tg, r)))) ++ rby r) [1, 3, 3, 2] = some ([kd, ep, sq, tg], (9, (0, ()))) := g
    rw [eb, e, g', Option.bind_some, if_neg (show ¬ ((0 : Int) != 0) = true by decide)]
    have e3 : (if (0 : Int) < (([kd, ep, sq, tg] : List Int).length : Int) then if (1 : Int) < (([kd, ep, sq, tg] : List Int).length : Int) then if (2 : Int) < (([kd, ep, sq, tg] : List Int).length : Int) then if (3 : Int) < (([kd, ep, sq, tg] : List Int).length : Int) then if (kd == (2 : Int)) = true then f_msg_Get.j1 1000 (hby (kd, (ep, (sq, (tg, r)))) ++ rby r) 9 18 mz (kd, (ep, (sq, (tg, ((0, 0), (0, (0, (0, 0)))))))) else f_msg_Get.j1 1000 (hby (kd, (ep, (sq, (tg, r)))) ++ rby r) 9 9 mz (kd, (ep, (sq, (tg, ((0, 0), (0, (0, (0, 0)))))))) else none else none else none else none) = f_msg_Get.j1 1000 (hby (kd, (ep, (sq, (tg, r)))) ++ rby r) 9 18 mz (kd, (ep, (sq, (tg, ((0, 0), (0, (0, (0, 0)))))))) := by
      rw [if_pos (by show (0 : Int) < ((4 : Nat) : Int); decide), if_pos (by show (1 : Int) < ((4 : Nat) : Int); decide), if_pos (by show (2 : Int) < ((4 : Nat) : Int); decide), if_pos (by show (3 : Int) < ((4 : Nat) : Int); decide), if_pos (beq_iff_eq.2 h2)]
    refine Eq.trans e3 ?_
    have e4 : f_msg_Get.j1 1000 (hby (kd, (ep, (sq, (tg, r)))) ++ rby r) 9 18 mz (kd, (ep, (sq, (tg, ((0, 0), (0, (0, (0, 0)))))))) = (f_rule_Get.f 1000 (rby r)).bind fun y12 => if (y12.2.1 != (0 : Int)) = true then some (mz, (2, ())) else f_msg_Get.j2 1000 mz (kd, (ep, (sq, (tg, y12.1)))) := by kernel_rfl
    rw [e4, rget r hr, Option.bind_some, if_neg (show ¬ ((0 : Int) != 0) = true by decide)]
    exact hj
  · have hr : r = ((0, 0), (0, (0, (0, 0)))) := q.not2 h2
    have eb : mby (kd, (ep, (sq, (tg, r)))) = hby (kd, (ep, (sq, (tg, r)))) := if_neg h2
    have g := getall9 kd (ep / 65536) (ep / 256 % 256) (ep % 256) (sq / 65536) (sq / 256 % 256) (sq % 256) (tg / 256) (tg % 256) (by omega) (by omega) (by omega) (by omega) (by omega) (by omega) (by omega) (by omega) (by omega)
    rw [v1, v2, v3] at g
    have g' : f_octets_GetAll.f 1000 (hby (kd, (ep, (sq, (tg, r))))) [1, 3, 3, 2] = some ([kd, ep, sq, tg], (9, (0, ()))) := g
    have e : f_msg_Get.f 1000 (hby (kd, (ep, (sq, (tg, r))))) = (f_octets_GetAll.f 1000 (hby (kd, (ep, (sq, (tg, r))))) [1, 3, 3, 2]).bind fun y1 => if (y1.2.2.1 != (0 : Int)) = true then some (mz, (y1.2.2.1, ())) else if (0 : Int) < (y1.1.length : Int) then if (1 : Int) < (y1.1.length : Int) then if (2 : Int) < (y1.1.length : Int) then if (3 : Int) < (y1.1.length : Int) then if ((att (.int .i64) y1.1 0) == (2 : Int)) = true then f_msg_Get.j1 1000 (hby (kd, (ep, (sq, (tg, r))))) y1.2.1 18 mz ((att (.int .i64) y1.1 0), ((att (.int .i64) y1.1 1), ((att (.int .i64) y1.1 2), ((att (.int .i64) y1.1 3), ((0, 0), (0, (0, (0, 0)))))))) else f_msg_Get.j1 1000 (hby (kd, (ep, (sq, (tg, r))))) y1.2.1 9 mz ((att (.int .i64) y1.1 0), ((att (.int .i64) y1.1 1), ((att (.int .i64) y1.1 2), ((att (.int .i64) y1.1 3), ((0, 0), (0, (0, (0, 0)))))))) else none else none else none else none := by kernel_rfl
    rw [eb, e, g', Option.bind_some, if_neg (show ¬ ((0 : Int) != 0) = true by decide)]
    have e3 : (if (0 : Int) < (([kd, ep, sq, tg] : List Int).length : Int) then if (1 : Int) < (([kd, ep, sq, tg] : List Int).length : Int) then if (2 : Int) < (([kd, ep, sq, tg] : List Int).length : Int) then if (3 : Int) < (([kd, ep, sq, tg] : List Int).length : Int) then if (kd == (2 : Int)) = true then f_msg_Get.j1 1000 (hby (kd, (ep, (sq, (tg, r))))) 9 18 mz (kd, (ep, (sq, (tg, ((0, 0), (0, (0, (0, 0)))))))) else f_msg_Get.j1 1000 (hby (kd, (ep, (sq, (tg, r))))) 9 9 mz (kd, (ep, (sq, (tg, ((0, 0), (0, (0, (0, 0)))))))) else none else none else none else none) = f_msg_Get.j1 1000 (hby (kd, (ep, (sq, (tg, r))))) 9 9 mz (kd, (ep, (sq, (tg, ((0, 0), (0, (0, (0, 0)))))))) := by
      rw [if_pos (by show (0 : Int) < ((4 : Nat) : Int); decide), if_pos (by show (1 : Int) < ((4 : Nat) : Int); decide), if_pos (by show (2 : Int) < ((4 : Nat) : Int); decide), if_pos (by show (3 : Int) < ((4 : Nat) : Int); decide), if_neg (by rw [beq_eq_false_iff_ne.2 h2]; exact Bool.false_ne_true)]
    refine Eq.trans e3 ?_
    have e4 : f_msg_Get.j1 1000 (hby (kd, (ep, (sq, (tg, r))))) 9 9 mz (kd, (ep, (sq, (tg, ((0, 0), (0, (0, (0, 0)))))))) = f_msg_Get.j2 1000 mz (kd, (ep, (sq, (tg, ((0, 0), (0, (0, (0, 0)))))))) := by kernel_rfl
    rw [e4, ← hr]
    exact hj
theorem mget (m : Mg) (h : mmay m = true) : f_msg_Get.f 1000 (mby m) = some (m, (0, ())) := mget' _ _ _ _ _ h
theorem oct_cons {x : Int} {xs : List Int} (h : B8 x) (k : Oct xs) : Oct (x :: xs) := fun y hy => (List.mem_cons.1 hy).elim (fun e => e ▸ h) (k y)
theorem oct_nil : Oct [] := fun y hy => by cases hy
theorem hby_oct (kd ep sq tg : Int) (r : Rl) (h : mmay (kd, (ep, (sq, (tg, r)))) = true) {xs : List Int} (hx : Oct xs) : Oct (hby (kd, (ep, (sq, (tg, r)))) ++ xs) := by
  have q := mmay_ok h
  have hk0 : 0 ≤ kd := q.k0
  have hk1 : kd < 6 := q.k1
  have he0 : 1 ≤ ep := q.e0
  have he1 : ep ≤ 1048576 := q.e1
  have hs0 : 0 ≤ sq := q.s0
  have hs1 : sq ≤ 1048576 := q.s1
  have ht0 : 0 ≤ tg := q.t0
  have ht1 : tg ≤ 4095 := q.t1
  refine oct_cons (x := kd) ⟨by omega, by omega⟩ (oct_cons (x := ep / 65536) ⟨by omega, by omega⟩ (oct_cons (x := ep / 256 % 256) ⟨by omega, by omega⟩ (oct_cons (x := ep % 256) ⟨by omega, by omega⟩ (oct_cons (x := sq / 65536) ⟨by omega, by omega⟩ (oct_cons (x := sq / 256 % 256) ⟨by omega, by omega⟩ (oct_cons (x := sq % 256) ⟨by omega, by omega⟩ (oct_cons (x := tg / 256) ⟨by omega, by omega⟩ (oct_cons (x := tg % 256) ⟨by omega, by omega⟩ hx))))))))
theorem rby_oct (a l i p k o : Int) (h : rmay ((a, l), (i, (p, (k, o)))) = true) : Oct (rby ((a, l), (i, (p, (k, o))))) := by
  have q := rmay_ok h
  have ha0 : 0 ≤ a := q.a0
  have ha1 : a ≤ 4294967295 := q.a1
  have l0 : 0 ≤ l := q.l0
  have l1 : l ≤ 32 := q.l1
  have i0 : -1 ≤ i := q.i0
  have i1 : i ≤ 7 := q.i1
  have p0 : 0 ≤ p := q.p0
  have p1 : p ≤ 255 := q.p1
  have k0 : 0 ≤ k := q.k0
  have k1 : k ≤ 1 := q.k1
  have o0 : 0 ≤ o := q.o0
  have o1 : o ≤ 7 := q.o1
  refine oct_cons (x := a / 16777216) ⟨by omega, by omega⟩ (oct_cons (x := a / 65536 % 256) ⟨by omega, by omega⟩ (oct_cons (x := a / 256 % 256) ⟨by omega, by omega⟩ (oct_cons (x := a % 256) ⟨by omega, by omega⟩ (oct_cons (x := l) ⟨by omega, by omega⟩ (oct_cons (x := i + 1) ⟨by omega, by omega⟩ (oct_cons (x := p) ⟨by omega, by omega⟩ (oct_cons (x := k) ⟨by omega, by omega⟩ (oct_cons (x := o) ⟨by omega, by omega⟩ oct_nil))))))))
def pre (m : Mg) : List Int := if m.1 = (2 : Int) then [197, 18] ++ (hby m ++ rby m.2.2.2.2) else [197, 9] ++ (hby m ++ [0])
theorem pre_len (m : Mg) : (pre m).length = if m.1 = (2 : Int) then 20 else 12 := by unfold pre; split <;> rfl
theorem pre_oct (m : Mg) (h : mmay m = true) : Oct (pre m) := by
  obtain ⟨kd, ep, sq, tg, ⟨a, l⟩, i, p, k, o⟩ := m
  unfold pre
  split
  · rename_i h2
    exact oct_cons (x := 197) ⟨by decide, by decide⟩ (oct_cons (x := 18) ⟨by decide, by decide⟩ (hby_oct _ _ _ _ _ h (rby_oct _ _ _ _ _ _ ((mmay_ok h).two h2))))
  · exact oct_cons (x := 197) ⟨by decide, by decide⟩ (oct_cons (x := 9) ⟨by decide, by decide⟩ (hby_oct _ _ _ _ _ h (oct_cons (x := 0) ⟨by decide, by decide⟩ oct_nil)))
theorem tot_mono (xs : List Int) (h : Oct xs) : ∀ d i, i + d ≤ xs.length → tot xs i ≤ tot xs (i + d)
  | 0, i, _ => Int.le_refl _
  | d + 1, i, hi => by
    have h1 := tot_mono xs h d i (by omega)
    have hl : i + d < xs.length := by omega
    have h2 := h xs[i + d] (List.getElem_mem hl)
    have e : tot xs (i + d + 1) = tot xs (i + d) + xs[i + d] * (if (i + d) % 2 = 0 then 256 else 1) := by simp only [tot, List.getElem?_eq_getElem hl, Option.getD_some]
    have : 0 ≤ xs[i + d] * (if (i + d) % 2 = 0 then 256 else 1) := by split <;> omega
    show tot xs i ≤ tot xs (i + d + 1)
    omega
theorem pre_pos (m : Mg) (h : mmay m = true) : 0 < tot (pre m) (pre m).length := by
  have h1 := tot_mono (pre m) (pre_oct m h) ((pre m).length - 1) 1 (by rw [pre_len]; split <;> omega)
  rw [show 1 + ((pre m).length - 1) = (pre m).length by rw [pre_len]; split <;> omega] at h1
  have h2 : tot (pre m) 1 = 197 * 256 := by
    have : (pre m)[0]? = some 197 := by unfold pre; split <;> rfl
    show tot (pre m) 0 + ((pre m)[0]?).getD 0 * (if 0 % 2 = 0 then 256 else 1) = _
    rw [this]; rfl
  omega
theorem seal_pre (m : Mg) (h : mmay m = true) : f_frame_Seal.f 1000 m = f_frame_Seal.j1 1000 (pre m) := by
  unfold f_frame_Seal.f
  rw [mput, if_pos h, if_pos h, Option.bind_some]
  unfold pre mby
  by_cases h2 : m.1 = (2 : Int)
  · rw [if_pos h2, if_pos h2]; kernel_rfl
  · rw [if_neg h2, if_neg h2]; kernel_rfl
theorem seal_no (m : Mg) (h : ¬ mmay m = true) : f_frame_Seal.f 1000 m = some ([], (1, ())) := by
  unfold f_frame_Seal.f
  rw [mput, if_neg h, if_neg h, Option.bind_some, if_pos (show ((1 : Int) != 0) = true by decide)]
theorem sealed (m : Mg) (h : mmay m = true) : ∃ hi lo : Int, f_frame_Seal.f 1000 m = some (pre m ++ [hi, lo], (0, ())) ∧ f_octets_Sum.f 1000 (pre m ++ [hi, lo]) = some (0, ()) := by
  have hl := pre_len m
  obtain ⟨hi, lo, h1, h2, h3, h4, h5⟩ := sum_sealed (pre m) (pre_oct m h) (by rw [hl]; split <;> omega) (by rw [hl]; split <;> rfl) (pre_pos m h)
  refine ⟨hi, lo, ?_, h5⟩
  rw [seal_pre m h]
  unfold f_frame_Seal.j1
  rw [h1, Option.bind_some, if_pos (by rw [hl]; split <;> omega), h2, h3]
theorem open6 (b : List Int) (n : Int) (hs : f_octets_Sum.f 1000 b = some (0, ())) : i_frame_Open_6_2b5.f 1000 b mz n = some (0, ()) := by
  unfold i_frame_Open_6_2b5.f
  rw [hs]
  rfl
theorem open_sealed (m : Mg) (h : mmay m = true) (hi lo : Int) (hs : f_octets_Sum.f 1000 (pre m ++ [hi, lo]) = some (0, ())) : f_frame_Open.f 1000 (pre m ++ [hi, lo]) = some (m, (0, ())) := by
  have g := mget m h
  unfold mby at g
  unfold pre at hs ⊢
  by_cases h2 : m.1 = (2 : Int)
  · rw [if_pos h2] at hs g ⊢
    have e : f_frame_Open.f 1000 ([197, 18] ++ (hby m ++ rby m.2.2.2.2) ++ [hi, lo]) = (i_frame_Open_6_2b5.f 1000 ([197, 18] ++ (hby m ++ rby m.2.2.2.2) ++ [hi, lo]) mz 18).bind fun y13 => if (y13.1 != (0 : Int)) = true then some (mz, (y13.1, ())) else (f_msg_Get.f 1000 (hby m ++ rby m.2.2.2.2)).bind fun y19 => some (y19.1, (y19.2.1, ())) := by kernel_rfl
    rw [e, open6 _ _ hs, Option.bind_some, if_neg (show ¬ ((0 : Int) != 0) = true by decide), g]
    rfl
  · rw [if_neg h2] at hs g ⊢
    have e : f_frame_Open.f 1000 ([197, 9] ++ (hby m ++ [0]) ++ [hi, lo]) = (i_frame_Open_6_2b5.f 1000 ([197, 9] ++ (hby m ++ [0]) ++ [hi, lo]) mz 9).bind fun y13 => if (y13.1 != (0 : Int)) = true then some (mz, (y13.1, ())) else (f_msg_Get.f 1000 (hby m)).bind fun y19 => some (y19.1, (y19.2.1, ())) := by kernel_rfl
    rw [e, open6 _ _ hs, Option.bind_some, if_neg (show ¬ ((0 : Int) != 0) = true by decide), g]
    rfl
theorem seal_open (m : Mg) (h : mmay m = true) : ∃ b, f_frame_Seal.f 1000 m = some (b, (0, ())) ∧ 0 < b.length ∧ b.length < 30 ∧ f_frame_Open.f 1000 b = some (m, (0, ())) := by
  obtain ⟨hi, lo, h1, h2⟩ := sealed m h
  have hl : (pre m ++ [hi, lo]).length = (pre m).length + 2 := by simp
  have hp := pre_len m
  exact ⟨_, h1, by rw [hl]; omega, by rw [hl, hp]; split <;> omega, open_sealed m h hi lo h2⟩
theorem awake17 : f_law17_awake.f 1000 = some (true, ()) := by decide +kernel
abbrev Sw := Tf20b.T
noncomputable def ownS (s : Sw) : Sw := (s.1, (s.2.1, (s.2.2.1, (s.2.2.2.1, (s.2.2.2.2.1, (drop s.2.2.2.2.2.1 (-1), s.2.2.2.2.2.2))))))
theorem ownS_eq (k : Nat) (s : Sw) (hk : 1000 ≤ k) (hs : Sm s.2.2.2.2.2.1) : f_agent_own.f k s = some (ownS s, ()) := by
  unfold f_agent_own.f
  rw [drop_eq k _ _ hk hs]
  rfl
noncomputable def sealB (m : Mg) : List Int := ((f_frame_Seal.f 1000 m).getD ([], (0, ()))).1
theorem sealB_ok (m : Mg) (h : mmay m = true) : f_frame_Seal.f 1000 m = some (sealB m, (0, ())) ∧ 0 < (sealB m).length ∧ f_frame_Open.f 1000 (sealB m) = some (m, (0, ())) := by
  obtain ⟨b, h1, h2, _, h4⟩ := seal_open m h
  have : sealB m = b := by unfold sealB; rw [h1]; rfl
  rw [this]
  exact ⟨h1, h2, h4⟩
def helloM (e : Int) : Mg := (0, (e, (0, (0, ((0, 0), (0, (0, (0, 0))))))))
def ackM (e q b : Int) : Mg := (1, (e, (q, (b, ((0, 0), (0, (0, (0, 0))))))))
theorem hello_may (e : Int) (h1 : 1 ≤ e) (h2 : e ≤ 1048576) : mmay (helloM e) = true := by
  show ((decide ((0 : Int) ≤ 0) && (decide ((0 : Int) < 6) && (true && ((decide (e ≥ 1) && decide (e ≤ 1048576)) && (true && true))))) : Bool) = true
  rw [decide_eq_true (show e ≥ 1 from h1), decide_eq_true h2]
  rfl
theorem ack_may (e q b : Int) (h1 : 1 ≤ e) (h2 : e ≤ 1048576) (h3 : 0 ≤ q) (h4 : q ≤ 1048576) (h5 : 0 ≤ b) (h6 : b ≤ 4095) : mmay (ackM e q b) = true := by
  show ((decide ((0 : Int) ≤ 1) && (decide ((1 : Int) < 6) && (true && ((decide (e ≥ 1) && decide (e ≤ 1048576)) && ((decide (q ≥ 0) && decide (q ≤ 1048576)) && (decide (b ≥ 0) && decide (b ≤ 4095))))))) : Bool) = true
  rw [decide_eq_true (show e ≥ 1 from h1), decide_eq_true h2, decide_eq_true (show q ≥ 0 from h3), decide_eq_true h4, decide_eq_true (show b ≥ 0 from h5), decide_eq_true h6]
  rfl
theorem frames_eq (b : List Int) (h : 0 < b.length) : f_agent_frames.f 1000 b = some ([b], ()) := by
  unfold f_agent_frames.f
  rw [if_pos h]
theorem hail_eq (s : Sw) (h1 : (1 : Int) ≤ s.1) (h2 : s.1 ≤ (1048576 : Int)) : f_agent_Hail.f 1000 s = some (sealB (helloM s.1), ()) := by
  unfold f_agent_Hail.f
  show (f_frame_Seal.f 1000 (helloM s.1)).bind _ = _
  rw [(sealB_ok _ (hello_may s.1 h1 h2)).1]
  rfl
theorem wpred (n : Int) (h0 : 0 ≤ n) (h1 : n ≤ 1048576) : IntKind.i64.wrap (n - 1) = n - 1 := IntWalk.i64_in _ (by omega)
theorem below2 (n : Int) (h0 : 0 ≤ n) (h1 : n < 6) (h2 : ¬ n = 2) (h3 : ¬ n = 3) (h4 : ¬ n = 4) (h5 : ¬ n = 5) : n < 2 := by omega
def takeE (e n : Int) (m : Mg) : Int := if m.2.1 ≠ e then 8 else if m.2.2.1 ≤ n then 6 else if m.2.2.1 - 1 > n then 3 else 0
theorem take_ok (e n : Int) (m : Mg) (h : mmay m = true) : f_sess_Take.f 1000 e n m = some (takeE e n m, ()) := by
  have q := mmay_ok h
  have s0 : (0 : Int) ≤ m.2.2.1 := q.s0
  have s1 : m.2.2.1 ≤ (1048576 : Int) := q.s1
  unfold f_sess_Take.f takeE
  by_cases h1 : m.2.1 = e
  · rw [if_neg (show ¬ m.2.1 ≠ e from fun h => h h1), if_neg (show ¬ (m.2.1 != e) = true by rw [h1]; simp)]
    by_cases h2 : m.2.2.1 ≤ n
    · rw [if_pos (decide_eq_true h2), if_pos h2]
    · rw [if_neg (show ¬ decide (m.2.2.1 ≤ n) = true by rw [decide_eq_false h2]; exact Bool.false_ne_true), if_neg h2, wpred _ q.s0 q.s1]
      by_cases h3 : m.2.2.1 - 1 > n
      · rw [if_pos (decide_eq_true h3), if_pos h3]
      · rw [if_neg (show ¬ decide (m.2.2.1 - 1 > n) = true by rw [decide_eq_false h3]; exact Bool.false_ne_true), if_neg h3]
  · rw [if_pos (show m.2.1 ≠ e from h1), if_pos (by simpa using h1)]
noncomputable def does (s : Sw) (m : Mg) (room : Int) : Sw :=
  if m.1 = (2 : Int) then (s.1, (m.2.2.1, (s.2.2.1, (s.2.2.2.1, ((if (put s.2.2.2.2.2.1 m.2.2.2.1 m.2.2.2.2 room).2 = (7 : Int) then m.2.2.2.1 else s.2.2.2.2.1), ((put s.2.2.2.2.2.1 m.2.2.2.1 m.2.2.2.2 room).1, s.2.2.2.2.2.2))))))
  else if m.1 = (3 : Int) then (s.1, (m.2.2.1, (s.2.2.1, (m.2.2.2.1, s.2.2.2.2))))
  else if m.1 = (4 : Int) then (s.1, (m.2.2.1, (s.2.2.1, (s.2.2.2.1, ((if s.2.2.2.2.1 = m.2.2.2.1 then 0 else s.2.2.2.2.1), (drop s.2.2.2.2.2.1 m.2.2.2.1, s.2.2.2.2.2.2))))))
  else (s.1, (m.2.2.1, (true, s.2.2.2)))
noncomputable def ackS (s : Sw) : Mg := ackM s.1 s.2.1 s.2.2.2.2.1
noncomputable def hnd (s : Sw) (m : Mg) (room : Int) : Sw × List (List Int) :=
  if m.1 < (2 : Int) then ((s.1, (s.2.1, (s.2.2.1, (s.2.2.2.1, (s.2.2.2.2.1, ((ownS s).2.2.2.2.2.1, IntKind.i64.wrap (s.2.2.2.2.2.2 + 1))))))), [])
  else if takeE s.1 s.2.1 m = 8 then (ownS s, [sealB (helloM s.1)])
  else if takeE s.1 s.2.1 m = 0 then (does (ownS s) m room, [sealB (ackS (does (ownS s) m room))])
  else (ownS s, [sealB (ackS (ownS s))])
structure SwOk (s : Sw) : Prop where
  sm : Sm s.2.2.2.2.2.1
  e0 : (1 : Int) ≤ s.1
  e1 : s.1 ≤ (1048576 : Int)
  n0 : (0 : Int) ≤ s.2.1
  n1 : s.2.1 ≤ (1048576 : Int)
  b0 : (0 : Int) ≤ s.2.2.2.2.1
  b1 : s.2.2.2.2.1 ≤ (4095 : Int)
theorem ackS_may {s : Sw} (h1 : (1 : Int) ≤ s.1) (h2 : s.1 ≤ (1048576 : Int)) (h3 : (0 : Int) ≤ s.2.1) (h4 : s.2.1 ≤ (1048576 : Int)) (h5 : (0 : Int) ≤ s.2.2.2.2.1) (h6 : s.2.2.2.2.1 ≤ (4095 : Int)) : mmay (ackS s) = true := ack_may _ _ _ h1 h2 h3 h4 h5 h6
theorem ack2 (p1 p2 : Int) (p3 : Bool) (p4 p5 p6 : Int) (s : Sw) (room : Int) (h : mmay (ackS s) = true) : f_agent_Handle.j2 1000 p1 p2 p3 p4 p5 p6 (s, room) = some (s, ([sealB (ackS s)], ())) := by
  unfold f_agent_Handle.j2
  show (f_frame_Seal.f 1000 (ackS s)).bind _ = _
  rw [(sealB_ok _ h).1, Option.bind_some, frames_eq _ (sealB_ok _ h).2.1]
  rfl
theorem does_eq (m : Mg) (n : Int) (s : Sw) (room p2 p3 p5 p6 p7 : Int) (p4 : Bool) (p9 : Mg) (h : m.1 = n) (hs : Sm s.2.2.2.2.2.1) :
    (n = 2 → i_agent_worker_add_e47.f 1000 m p2 p3 p4 p5 p6 p7 (s, room) p9 = some ((((does s m room).1, (s.2.1, (does s m room).2.2)), room), ())) ∧
    (n = 3 → i_agent_worker_flip_e47.f 1000 m p2 p3 p4 p5 p6 p7 (s, room) p9 = some ((((does s m room).1, (s.2.1, (does s m room).2.2)), room), ())) ∧
    (n = 4 → i_agent_worker_collect_e47.f 1000 m p2 p3 p4 p5 p6 p7 (s, room) p9 = some ((((does s m room).1, (s.2.1, (does s m room).2.2)), room), ())) ∧
    (n = 5 → i_agent_worker_open_e47.f 1000 m p2 p3 p4 p5 p6 p7 (s, room) p9 = some ((((does s m room).1, (s.2.1, (does s m room).2.2)), room), ())) := by
  refine ⟨fun e => ?_, fun e => ?_, fun e => ?_, fun e => ?_⟩ <;> subst e <;> unfold does
  · rw [if_pos h]
    unfold i_agent_worker_add_e47.f
    dsimp only
    rw [put_eq 1000 _ _ _ _ (Nat.le_refl _) hs, Option.bind_some]
    dsimp only
    by_cases h7 : (put s.2.2.2.2.2.1 m.2.2.2.1 m.2.2.2.2 room).2 = (7 : Int)
    · rw [if_pos (beq_iff_eq.2 h7), if_pos h7]
    · rw [if_neg (by rw [beq_eq_false_iff_ne.2 h7]; exact Bool.false_ne_true), if_neg h7]
  · rw [if_neg (by rw [h]; decide), if_pos h]
    rfl
  · rw [if_neg (by rw [h]; decide), if_neg (by rw [h]; decide), if_pos h]
    unfold i_agent_worker_collect_e47.f
    dsimp only
    rw [drop_eq 1000 _ _ (Nat.le_refl _) hs, Option.bind_some]
    dsimp only
    by_cases h7 : s.2.2.2.2.1 = m.2.2.2.1
    · rw [if_pos (beq_iff_eq.2 h7), if_pos h7]
    · rw [if_neg (by rw [beq_eq_false_iff_ne.2 h7]; exact Bool.false_ne_true), if_neg h7]
  · rw [if_neg (by rw [h]; decide), if_neg (by rw [h]; decide), if_neg (by rw [h]; decide)]
    rfl
theorem does_ok {s : Sw} {m : Mg} {room : Int} (hs : SwOk s) (h : mmay m = true) : mmay (ackS (does s m room)) = true ∧ (does s m room).2.1 = m.2.2.1 := by
  have q := mmay_ok h
  have key : ∀ x : Sw, x.1 = s.1 → x.2.1 = m.2.2.1 → (x.2.2.2.2.1 = s.2.2.2.2.1 ∨ x.2.2.2.2.1 = m.2.2.2.1 ∨ x.2.2.2.2.1 = (0 : Int)) → mmay (ackS x) = true ∧ x.2.1 = m.2.2.1 := by
    intro x h1 h2 h3
    refine ⟨ackS_may (by rw [h1]; exact hs.e0) (by rw [h1]; exact hs.e1) (by rw [h2]; exact q.s0) (by rw [h2]; exact q.s1) ?_ ?_, h2⟩
    · rcases h3 with h3 | h3 | h3 <;> rw [h3]
      · exact hs.b0
      · exact q.t0
      · decide
    · rcases h3 with h3 | h3 | h3 <;> rw [h3]
      · exact hs.b1
      · exact q.t1
      · decide
  unfold does
  split
  · refine key _ rfl rfl ?_
    dsimp only
    split
    · exact .inr (.inl rfl)
    · exact .inl rfl
  · split
    · exact key _ rfl rfl (.inl rfl)
    · split
      · refine key _ rfl rfl ?_
        dsimp only
        split
        · exact .inr (.inr rfl)
        · exact .inl rfl
      · exact key _ rfl rfl (.inl rfl)
theorem hn2 (s : Sw) (m : Mg) (room p3 p4 p6 p7 p8 : Int) (p5 : Bool) (hs : SwOk s) (ho : SwOk (ownS s)) (h : mmay m = true) (hk : m.1 = (2 : Int)) : f_agent_Handle.j1 1000 false s p3 p4 p5 p6 p7 p8 (ownS s, room) m = some ((hnd s m room).1, ((hnd s m room).2, ())) := by
  unfold f_agent_Handle.j1 hnd
  rw [if_neg Bool.false_ne_true, if_neg (by rw [hk]; decide)]
  dsimp only
  rw [take_ok _ _ _ h, Option.bind_some]
  show (if (takeE s.1 s.2.1 m == 8) = true then _ else _) = _
  by_cases h8 : takeE s.1 s.2.1 m = 8
  · rw [if_pos (beq_iff_eq.2 h8), if_pos h8, hail_eq s hs.e0 hs.e1, Option.bind_some]
    dsimp only
    rw [frames_eq _ (sealB_ok _ (hello_may _ hs.e0 hs.e1)).2.1]
    rfl
  rw [if_neg (by rw [beq_eq_false_iff_ne.2 h8]; exact Bool.false_ne_true), if_neg h8]
  show (if (takeE s.1 s.2.1 m == 0) = true then _ else _) = _
  by_cases h0 : takeE s.1 s.2.1 m = 0
  · rw [if_pos (beq_iff_eq.2 h0), if_pos h0, (does_eq m 2 (ownS s) room p3 p4 p6 p7 p8 p5 m hk ho.sm).1 rfl, Option.bind_some]
    have hd := does_ok (room := room) ho h
    show f_agent_Handle.j2 1000 p3 p4 p5 p6 p7 p8 (((does (ownS s) m room).1, (m.2.2.1, (does (ownS s) m room).2.2)), room) = _
    rw [← hd.2]
    exact ack2 _ _ _ _ _ _ _ _ hd.1
  · rw [if_neg (by rw [beq_eq_false_iff_ne.2 h0]; exact Bool.false_ne_true), if_neg h0]
    exact ack2 _ _ _ _ _ _ _ _ (ackS_may ho.e0 ho.e1 ho.n0 ho.n1 ho.b0 ho.b1)
theorem hail_handle (s : Sw) (m : Mg) (b : List Int) (room : Int) (sm : Sm s.2.2.2.2.2.1) (e0 : (1 : Int) ≤ s.1) (e1 : s.1 ≤ (1048576 : Int)) (h : mmay m = true) (hb : f_frame_Open.f 1000 b = some (m, (0, ()))) (hk : 2 ≤ m.1) (hne : m.2.1 ≠ s.1) : f_agent_Handle.f 1000 s b room = some (ownS s, ([sealB (helloM s.1)], ())) := by
  have q := mmay_ok h
  have ht : takeE s.1 s.2.1 m = 8 := by unfold takeE; rw [if_pos hne]
  unfold f_agent_Handle.f i_agent_work_fc0.f
  rw [ownS_eq 1000 s (Nat.le_refl _) sm, Option.bind_some, hb, Option.bind_some]
  dsimp only
  simp only [Option.bind_some]
  rw [if_neg (show ¬ ((0 : Int) != 0) = true by decide), if_neg (show ¬ ((0 : Int) != 0) = true by decide), if_neg (show ¬ ((0 : Int) != 0) = true by decide), if_neg (show ¬ ((0 : Int) != 0) = true by decide), if_neg (show ¬ ((0 : Int) != 0) = true by decide)]
  by_cases h2 : m.1 = (2 : Int)
  · rw [if_pos h2]
    unfold f_agent_Handle.j1
    rw [if_neg Bool.false_ne_true]
    dsimp only
    rw [take_ok _ _ _ h, Option.bind_some]
    show (if (takeE s.1 s.2.1 m == 8) = true then _ else _) = _
    rw [if_pos (beq_iff_eq.2 ht), hail_eq s e0 e1, Option.bind_some]
    dsimp only
    rw [frames_eq _ (sealB_ok _ (hello_may _ e0 e1)).2.1]
    rfl
  by_cases h3 : m.1 = (3 : Int)
  · rw [if_neg h2, if_pos h3]
    unfold f_agent_Handle.j3
    rw [if_neg Bool.false_ne_true]
    dsimp only
    rw [take_ok _ _ _ h, Option.bind_some]
    show (if (takeE s.1 s.2.1 m == 8) = true then _ else _) = _
    rw [if_pos (beq_iff_eq.2 ht), hail_eq s e0 e1, Option.bind_some]
    dsimp only
    rw [frames_eq _ (sealB_ok _ (hello_may _ e0 e1)).2.1]
    rfl
  by_cases h4 : m.1 = (4 : Int)
  · rw [if_neg h2, if_neg h3, if_pos h4]
    unfold f_agent_Handle.j5
    rw [if_neg Bool.false_ne_true]
    dsimp only
    rw [take_ok _ _ _ h, Option.bind_some]
    show (if (takeE s.1 s.2.1 m == 8) = true then _ else _) = _
    rw [if_pos (beq_iff_eq.2 ht), hail_eq s e0 e1, Option.bind_some]
    dsimp only
    rw [frames_eq _ (sealB_ok _ (hello_may _ e0 e1)).2.1]
    rfl
  by_cases h5 : m.1 = (5 : Int)
  · rw [if_neg h2, if_neg h3, if_neg h4, if_pos h5]
    unfold f_agent_Handle.j7
    rw [if_neg Bool.false_ne_true]
    dsimp only
    rw [take_ok _ _ _ h, Option.bind_some]
    show (if (takeE s.1 s.2.1 m == 8) = true then _ else _) = _
    rw [if_pos (beq_iff_eq.2 ht), hail_eq s e0 e1, Option.bind_some]
    dsimp only
    rw [frames_eq _ (sealB_ok _ (hello_may _ e0 e1)).2.1]
    rfl
  have hl : m.1 < (2 : Int) := below2 _ q.k0 q.k1 h2 h3 h4 h5
  exact absurd hl (Int.not_lt.2 hk)
theorem strEq_refl (xs : List Int) : strEq xs xs = true := by
  unfold strEq
  exact beq_self_eq_true _
theorem kinds2 (n : Int) (h0 : 0 ≤ n) (h1 : n ≠ 0) (h2 : n ≠ 1) : 2 ≤ n := by omega
theorem P_AgentHails (x0 : Sw) (x1 : Mg) (_ : Wf Tf20b x0) (_ : Wf T4414 x1) : ∃ k, f_law17_AgentHails.f k x0 x1 = some (true, ()) := by
  refine ⟨1000, ?_⟩
  unfold f_law17_AgentHails.f
  rw [awake17, Option.bind_some, few_eq 1000 _ (by decide), Option.bind_some]
  have hj : ∀ b, f_law17_AgentHails.j1 1000 true b true x0 = some (true, ()) := fun b => rfl
  by_cases hm : ¬ mmay x1 = true
  · rw [seal_no _ hm, Option.bind_some, if_neg (show ¬ (!(true, ()).1) = true by decide)]
    dsimp only
    rw [hj, if_pos (show ((1 : Int) != 0) = true by decide)]
    split <;> rfl
  replace hm := Decidable.not_not.1 hm
  obtain ⟨bs, s1, s2, s3, s4⟩ := seal_open _ hm
  rw [s1, Option.bind_some, if_neg (show ¬ (!(true, ()).1) = true by decide)]
  dsimp only
  rw [hj]
  cases hf : (decide (x0.2.2.2.2.2.1.length ≤ 20) && x0.2.2.2.2.2.1.all fun v => decide (v.2.length ≤ 60)) with
  | false => rfl
  | true =>
    rw [if_neg (show ¬ (!true) = true by decide), if_neg (show ¬ ((0 : Int) != 0) = true by decide)]
    by_cases g0 : x0.1 < (1 : Int)
    · rw [if_pos (decide_eq_true g0)]
    rw [if_neg (by rw [decide_eq_false g0]; exact Bool.false_ne_true)]
    by_cases g1 : x0.1 > (1000 : Int)
    · rw [if_pos (decide_eq_true g1)]
    rw [if_neg (by rw [decide_eq_false g1]; exact Bool.false_ne_true)]
    by_cases g2 : x0.2.1 > (1099511627776 : Int)
    · rw [if_pos (decide_eq_true g2)]
    rw [if_neg (by rw [decide_eq_false g2]; exact Bool.false_ne_true)]
    by_cases g3 : x1.1 = (0 : Int)
    · rw [if_pos (beq_iff_eq.2 g3)]
    rw [if_neg (by rw [beq_iff_eq]; exact g3)]
    by_cases g4 : x1.1 = (1 : Int)
    · rw [if_pos (beq_iff_eq.2 g4)]
    rw [if_neg (by rw [beq_iff_eq]; exact g4)]
    by_cases g5 : x1.2.1 = x0.1
    · rw [beq_iff_eq.2 g5, hj]
    rw [beq_eq_false_iff_ne.2 g5]
    obtain ⟨f1, f2⟩ := few_of hf
    have sm : Sm x0.2.2.2.2.2.1 := ⟨by omega, fun v hv => by have := f2 v hv; omega⟩
    have e0 : (1 : Int) ≤ x0.1 := Int.not_lt.1 g0
    have e1 : x0.1 ≤ (1048576 : Int) := Int.le_trans (Int.not_lt.1 g1) (by decide)
    have hh := sealB_ok _ (hello_may x0.1 e0 e1)
    unfold f_law17_AgentHails.j1
    rw [if_neg Bool.false_ne_true, hail_handle x0 x1 bs 40 sm e0 e1 hm s4 (kinds2 _ (mmay_ok hm).k0 g3 g4) g5, Option.bind_some]
    dsimp only
    rw [if_neg (by exact Bool.false_ne_true), if_pos (by exact of_decide_eq_true rfl), hail_eq x0 e0 e1, Option.bind_some, show att (.slice (.int .u8)) [sealB (helloM x0.1)] 0 = sealB (helloM x0.1) from rfl, strEq_refl]
    unfold f_law17_AgentHails.j2
    rw [if_neg (by exact Bool.false_ne_true), if_pos (by exact of_decide_eq_true rfl), show att (.slice (.int .u8)) [sealB (helloM x0.1)] 0 = sealB (helloM x0.1) from rfl, hh.2.2, Option.bind_some, if_pos (by rfl)]
    have bb : ∀ x : Int, (x == x) = true := fun x => beq_iff_eq.2 rfl
    unfold helloM
    simp
end Go.Proofs.YthfdkmbijjkmaaaDoor.V
