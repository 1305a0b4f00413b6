/- The table's functions, as plain Lean. -/
import Derived.Test.YtkobhleoebgbhaaVF3
import Derived.IntWalk
namespace Go.Proofs.Ytkobhleoebgbhaa.V
open Go Go.RowKit
set_option linter.unusedVariables false
set_option linter.unusedSimpArgs false
abbrev Rl := T1383.T
abbrev Vr := T814c.T
theorem wsucc (i : Nat) (h : i < 1000000) : IntKind.i64.wrap ((i : Int) + 1) = ((i + 1 : Nat) : Int) := by rw [IntWalk.i64_in _ (by omega)]; omega
theorem att_n {e : Ty} (xs : List e.T) (i : Nat) (h : i < xs.length) : att e xs (i : Int) = xs[i] := by
  unfold att
  rw [Int.toNat_natCast, List.getElem?_eq_getElem h]
  rfl
theorem loop_at {R : Type} (B : Nat → Nat → Option R) (j : Nat) (r : Option R) (step : ∀ m i, i < j → B (m + 1) i = B m (i + 1)) (fin : ∀ m, B (m + 1) j = r) : ∀ d i m, i + d = j → d < m → B m i = r
  | 0, i, m + 1, h, _ => by rw [show i = j by omega]; exact fin m
  | d + 1, i, m + 1, h, hm => by rw [step m i (by omega)]; exact loop_at B j r step fin d (i + 1) m (by omega) (by omega)
theorem loop {R : Type} (B : Nat → Nat → Option R) (j : Nat) (r : Option R) (step : ∀ m i, i < j → B (m + 1) i = B m (i + 1)) (fin : ∀ m, B (m + 1) j = r) (m : Nat) (hm : j < m) : B m 0 = r := loop_at B j r step fin j 0 m (by omega) hm
theorem fi_not {α : Type} {p : α → Bool} {xs : List α} {i : Nat} (hi : i < xs.findIdx p) (hl : i < xs.length) : p xs[i] = false := by simpa using List.not_of_lt_findIdx hi
def hasTag (tag : Int) (v : Vr) : Bool := v.1 == tag
def tagAt (t : List Vr) (tag : Int) : Nat := t.findIdx (hasTag tag)
theorem tagAt_le (t : List Vr) (tag : Int) : tagAt t tag ≤ t.length := List.findIdx_le_length
theorem index_ver (k : Nat) (t : List Vr) (tag : Int) (hk : t.length < k) (hs : t.length < 1000000) : i_slices_IndexFunc_Ver_aa5.f k t tag = some (if tagAt t tag < t.length then (tagAt t tag : Int) else -1, (tag, ())) := by
  have hle := tagAt_le t tag
  refine loop (fun m i => i_slices_IndexFunc_Ver_aa5.l1 k m t (t.length : Int) (i : Int) tag) (tagAt t tag) _ (fun m i hi => ?_) (fun m => ?_) k (by omega)
  · have hl : i < t.length := by omega
    have hn : (t[i].1 == tag) = false := fi_not (p := hasTag tag) hi hl
    simp only [i_slices_IndexFunc_Ver_aa5.l1, i_slices_IndexFunc_Ver_aa5.b1, i_table_at_1_8ee.f, att_n t i hl]
    rw [if_pos (by simp; exact hl), if_pos (by omega), if_pos (by omega)]
    simp only [Option.bind_some, hn]
    rw [wsucc i (by omega)]
    simp
  · by_cases hl : tagAt t tag < t.length
    · have hn : (t[tagAt t tag].1 == tag) = true := List.findIdx_getElem (p := hasTag tag) (w := hl)
      simp only [i_slices_IndexFunc_Ver_aa5.l1, i_slices_IndexFunc_Ver_aa5.b1, i_table_at_1_8ee.f, att_n t _ hl]
      rw [if_pos (by simp; exact hl), if_pos (by omega), if_pos (by omega)]
      simp only [Option.bind_some, hn, if_pos hl, if_true]
    · have : tagAt t tag = t.length := by omega
      simp only [i_slices_IndexFunc_Ver_aa5.l1, i_slices_IndexFunc_Ver_aa5.b1, if_neg hl]
      rw [if_neg (by simp; omega)]
theorem at_eq (k : Nat) (t : List Vr) (tag : Int) (hk : t.length < k) (hs : t.length < 1000000) : f_table_at.f k t tag = some ((tagAt t tag : Int), ()) := by
  have hle := tagAt_le t tag
  unfold f_table_at.f i_table_first_Ver_aa5.f
  rw [index_ver k t tag hk hs]
  simp only [Option.bind_some]
  by_cases hl : tagAt t tag < t.length
  · rw [if_pos hl, if_pos (by simp)]; rfl
  · rw [if_neg hl, if_neg (by simp), show tagAt t tag = t.length by omega]; rfl
theorem few_eq (k : Nat) (t : List Vr) (hk : 20 < k) : f_law09_Few.f k t = some (decide (t.length ≤ 20) && t.all fun v => decide (v.2.length ≤ 60), ()) := by
  unfold f_law09_Few.f
  by_cases h : t.length ≤ 20
  · rw [if_neg (by simp; omega)]
    have hle : t.findIdx (fun v => decide (60 < v.2.length)) ≤ t.length := List.findIdx_le_length
    refine loop (fun m i => f_law09_Few.l1 k m t (i : Int)) (t.findIdx fun v => decide (60 < v.2.length)) _ (fun m i hi => ?_) (fun m => ?_) k (by omega)
    · have hl : i < t.length := by omega
      have hn := fi_not (p := fun v : Vr => decide (60 < v.2.length)) hi hl
      simp only [decide_eq_false_iff_not] at hn
      simp only [f_law09_Few.l1, f_law09_Few.b1, att_n t i hl]
      rw [if_pos (by simp; exact hl), if_pos (by omega), if_pos (by omega), if_neg (by simp; omega), wsucc i (by omega)]
    · by_cases hl : t.findIdx (fun v => decide (60 < v.2.length)) < t.length
      · have hn := List.findIdx_getElem (p := fun v : Vr => decide (60 < v.2.length)) (w := hl)
        simp only [f_law09_Few.l1, f_law09_Few.b1, att_n t _ hl]
        have hn2 : 60 < t[t.findIdx fun v => decide (60 < v.2.length)].2.length := by simpa using hn
        rw [if_pos (by (first | omega | (dsimp only [Ty.T]; omega) | (simp only [decide_eq_true_eq, decide_eq_false_iff_not, Bool.not_eq_true, Ty.T]; omega) | (simp only [decide_eq_true_eq, decide_eq_false_iff_not, Ty.T]; omega) | (simp only [beq_iff_eq, bne_iff_ne, ne_eq, decide_eq_true_eq, Ty.T]; omega))), if_pos (by omega), if_pos (by omega), if_pos (by (first | omega | (dsimp only [Ty.T]; omega) | (simp only [decide_eq_true_eq, decide_eq_false_iff_not, Bool.not_eq_true, Ty.T]; omega) | (simp only [decide_eq_true_eq, decide_eq_false_iff_not, Ty.T]; omega) | (simp only [beq_iff_eq, bne_iff_ne, ne_eq, decide_eq_true_eq, Ty.T]; omega)))]
        have : (t.all fun v => decide (v.2.length ≤ 60)) = false := by
          rw [List.all_eq_false]
          exact ⟨_, List.getElem_mem hl, by simpa using hn⟩
        rw [this]; simp
      · simp only [f_law09_Few.l1, f_law09_Few.b1]
        rw [if_neg (by (first | omega | (dsimp only [Ty.T]; omega) | (simp only [decide_eq_true_eq, decide_eq_false_iff_not, Bool.not_eq_true, Ty.T]; omega) | (simp only [decide_eq_true_eq, decide_eq_false_iff_not, Ty.T]; omega) | (simp only [beq_iff_eq, bne_iff_ne, ne_eq, decide_eq_true_eq, Ty.T]; omega)))]
        have : (t.all fun v => decide (v.2.length ≤ 60)) = true := by
          rw [List.all_eq_true]
          intro x hx
          have h2 := List.findIdx_eq_length.1 (show t.findIdx (fun v => decide (60 < v.2.length)) = t.length by omega) x hx
          have h3 : decide (60 < x.2.length) = false := h2
          rw [decide_eq_false_iff_not] at h3
          rw [decide_eq_true_eq]
          exact Nat.le_of_not_lt h3
        rw [this]; simp [h]
  · rw [if_pos (by simp; omega)]; simp [h]
theorem awake09 : f_law09_awake.f 100 = some (true, ()) := by decide +kernel
def sizeOf' (t : List Vr) : Nat := (t.map fun v => v.2.length).sum
theorem size_take (t : List Vr) (i : Nat) (h : i < t.length) : sizeOf' (t.take (i + 1)) = sizeOf' (t.take i) + t[i].2.length := by
  unfold sizeOf'
  rw [List.take_succ_eq_append_getElem h, List.map_append, List.sum_append]
  simp
theorem size_take_le (t : List Vr) (i : Nat) : sizeOf' (t.take i) ≤ sizeOf' t := by
  unfold sizeOf'
  conv => rhs; rw [← List.take_append_drop i t, List.map_append, List.sum_append]
  omega
theorem size_eq (k : Nat) (t : List Vr) (hk : t.length < k) (hs : t.length < 1000000) (hz : sizeOf' t < 1000000) : f_table_Size.f k t = some ((sizeOf' t : Int), ()) := by
  unfold f_table_Size.f
  refine loop (fun m i => f_table_Size.l1 k m (sizeOf' (t.take i) : Int) t (t.length : Int) (i : Int)) t.length _ (fun m i hl => ?_) (fun m => ?_) k (by omega)
  · have h1 := size_take t i hl
    have h2 := size_take_le t (i + 1)
    simp only [f_table_Size.l1, f_table_Size.b1, att_n t i hl]
    rw [if_pos (by (first | omega | (dsimp only [Ty.T]; omega) | (simp only [decide_eq_true_eq, decide_eq_false_iff_not, Bool.not_eq_true, Ty.T]; omega) | (simp only [decide_eq_true_eq, decide_eq_false_iff_not, Ty.T]; omega) | (simp only [beq_iff_eq, bne_iff_ne, ne_eq, decide_eq_true_eq, Ty.T]; omega))), if_pos (by omega), if_pos (by omega), wsucc i (by omega), IntWalk.i64_in _ (by omega), h1]
    push_cast; rfl
  · simp only [f_table_Size.l1, f_table_Size.b1]
    rw [if_neg (by (first | omega | (dsimp only [Ty.T]; omega) | (simp only [decide_eq_true_eq, decide_eq_false_iff_not, Bool.not_eq_true, Ty.T]; omega) | (simp only [decide_eq_true_eq, decide_eq_false_iff_not, Ty.T]; omega) | (simp only [beq_iff_eq, bne_iff_ne, ne_eq, decide_eq_true_eq, Ty.T]; omega))), List.take_length]
theorem rsize_eq (k : Nat) (t : List Vr) (hk : t.length < k) (hs : t.length < 1000000) (hz : sizeOf' t < 1000000) : f_ref09_Size.f k t = some ((sizeOf' t : Int), ()) := by
  unfold f_ref09_Size.f
  refine loop (fun m i => f_ref09_Size.l1 k m t (sizeOf' (t.take i) : Int) (i : Int)) t.length _ (fun m i hl => ?_) (fun m => ?_) k (by omega)
  · have h1 := size_take t i hl
    have h2 := size_take_le t (i + 1)
    simp only [f_ref09_Size.l1, f_ref09_Size.b1, att_n t i hl]
    rw [if_pos (by (first | omega | (dsimp only [Ty.T]; omega) | (simp only [decide_eq_true_eq, decide_eq_false_iff_not, Bool.not_eq_true, Ty.T]; omega) | (simp only [decide_eq_true_eq, decide_eq_false_iff_not, Ty.T]; omega) | (simp only [beq_iff_eq, bne_iff_ne, ne_eq, decide_eq_true_eq, Ty.T]; omega))), if_pos (by omega), if_pos (by omega), wsucc i (by omega), IntWalk.i64_in _ (by omega), h1]
    push_cast; rfl
  · simp only [f_ref09_Size.l1, f_ref09_Size.b1]
    rw [if_neg (by (first | omega | (dsimp only [Ty.T]; omega) | (simp only [decide_eq_true_eq, decide_eq_false_iff_not, Bool.not_eq_true, Ty.T]; omega) | (simp only [decide_eq_true_eq, decide_eq_false_iff_not, Ty.T]; omega) | (simp only [beq_iff_eq, bne_iff_ne, ne_eq, decide_eq_true_eq, Ty.T]; omega))), List.take_length]
theorem clone_eq (k : Nat) (xs : List Rl) (h : xs.length < 1000000) : f_slices_Clone_Rule.f k xs = some (xs, ()) := by
  unfold f_slices_Clone_Rule.f
  rw [if_pos (by omega), if_pos (Or.inl rfl)]; rfl
def Sm (t : List Vr) : Prop := t.length < 1000 ∧ ∀ v ∈ t, v.2.length < 1000
theorem own_eq (k : Nat) (t : List Vr) (tag : Int) (r : Rl) (hk : t.length < k) (hs : Sm t) : i_table_own_6f4.f k t tag r = some (tag, (r, (t, ()))) := by
  obtain ⟨h1, h2⟩ := hs
  unfold i_table_own_6f4.f
  refine loop (fun m i => i_table_own_6f4.l1 k m t (t.length : Int) (i : Int) tag r (t.take i)) t.length _ (fun m i hl => ?_) (fun m => ?_) k (by omega)
  · have hm := h2 t[i] (List.getElem_mem hl)
    simp only [i_table_own_6f4.l1, i_table_own_6f4.b1, att_n t i hl]
    rw [if_pos (by (first | omega | (dsimp only [Ty.T]; omega) | (simp only [decide_eq_true_eq, decide_eq_false_iff_not, Bool.not_eq_true, Ty.T]; omega) | (simp only [decide_eq_true_eq, decide_eq_false_iff_not, Ty.T]; omega) | (simp only [beq_iff_eq, bne_iff_ne, ne_eq, decide_eq_true_eq, Ty.T]; omega))), if_pos (by omega), if_pos (by omega), clone_eq k _ (by omega), Option.bind_some, if_pos (by rw [List.length_take]; omega), wsucc i (by omega), List.take_succ_eq_append_getElem hl]
  · simp only [i_table_own_6f4.l1, i_table_own_6f4.b1]
    rw [if_neg (by (first | omega | (dsimp only [Ty.T]; omega) | (simp only [decide_eq_true_eq, decide_eq_false_iff_not, Bool.not_eq_true, Ty.T]; omega) | (simp only [decide_eq_true_eq, decide_eq_false_iff_not, Ty.T]; omega) | (simp only [beq_iff_eq, bne_iff_ne, ne_eq, decide_eq_true_eq, Ty.T]; omega))), List.take_length]
theorem own2_eq (k : Nat) (t : List Vr) (hk : t.length < k) (hs : Sm t) : i_table_own_301.f k t = some (t, ()) := by
  obtain ⟨h1, h2⟩ := hs
  unfold i_table_own_301.f
  refine loop (fun m i => i_table_own_301.l1 k m t (t.length : Int) (i : Int) (t.take i)) t.length _ (fun m i hl => ?_) (fun m => ?_) k (by omega)
  · have hm := h2 t[i] (List.getElem_mem hl)
    simp only [i_table_own_301.l1, i_table_own_301.b1, att_n t i hl]
    rw [if_pos (by (first | omega | (dsimp only [Ty.T]; omega) | (simp only [decide_eq_true_eq, decide_eq_false_iff_not, Bool.not_eq_true, Ty.T]; omega) | (simp only [decide_eq_true_eq, decide_eq_false_iff_not, Ty.T]; omega) | (simp only [beq_iff_eq, bne_iff_ne, ne_eq, decide_eq_true_eq, Ty.T]; omega))), if_pos (by omega), if_pos (by omega), clone_eq k _ (by omega), Option.bind_some, if_pos (by rw [List.length_take]; omega), wsucc i (by omega), List.take_succ_eq_append_getElem hl]
  · simp only [i_table_own_301.l1, i_table_own_301.b1]
    rw [if_neg (by (first | omega | (dsimp only [Ty.T]; omega) | (simp only [decide_eq_true_eq, decide_eq_false_iff_not, Bool.not_eq_true, Ty.T]; omega) | (simp only [decide_eq_true_eq, decide_eq_false_iff_not, Ty.T]; omega) | (simp only [beq_iff_eq, bne_iff_ne, ne_eq, decide_eq_true_eq, Ty.T]; omega))), List.take_length]
theorem fit_of {t : List Vr} (hs : Sm t) : lnkFit 32 48 t = true := by
  unfold lnkFit
  have := hs.1
  rw [Bool.and_eq_true, Nat.ble_eq, List.all_eq_true]
  exact ⟨by omega, fun v hv => by have := hs.2 v hv; rw [Nat.ble_eq]; omega⟩
/-- The mask's answer. -/
def bnd (n : Int) : Int := if 32 < (if 0 > n then 0 else n) then 32 else if 0 > n then 0 else n
theorem bnd_range (n : Int) : 0 ≤ bnd n ∧ bnd n ≤ 32 := by unfold bnd; split <;> split <;> omega
noncomputable def mask (n : Int) : Int := IntKind.i64.wrap (IntKind.u32.wrap (IntKind.u64.wrap (4294967295 * (2 ^ (min (IntKind.i64.wrap (32 - bnd n)).toNat IntKind.u64.bits)))))
theorem mask_eq (k : Nat) (n : Int) : f_bits_Mask.f k n = some (mask n, ()) := by
  have h := bnd_range n
  unfold f_bits_Mask.f f_bits_bound.f
  simp only [Option.bind_some]
  change (if 0 ≤ IntKind.i64.wrap (32 - bnd n) then _ else _) = _
  rw [if_pos (by rw [IntWalk.i64_in _ (by omega)]; omega)]
  rfl
noncomputable def pmay (p : T713d.T) : Bool := decide (p.2 ≥ 0) && (decide (p.2 ≤ 32) && (decide (p.1 ≥ 0) && (decide (p.1 ≤ 4294967295) && IntKind.i64.wrap (((BitVec.ofInt IntKind.i64.bits p.1 &&& ~~~ BitVec.ofInt IntKind.i64.bits (mask p.2)).toNat : Int)) == (0 : Int))))
theorem pmay_eq (k : Nat) (p : T713d.T) : f_bits_May.f k p = some (pmay p, ()) := by
  unfold f_bits_May.f pmay
  simp only [mask_eq, Option.bind_some]
  by_cases h1 : decide (p.2 ≥ 0) = true <;> by_cases h2 : decide (p.2 ≤ 32) = true <;> by_cases h3 : decide (p.1 ≥ 0) = true <;> by_cases h4 : decide (p.1 ≤ 4294967295) = true <;> simp only [h1, h2, h3, h4, if_true, if_false, Bool.true_and, Bool.false_and, Bool.false_eq_true]
def port (r : Rl) : Bool := if ((r.2.2.2.1 == (0 : Int)) && ((r.2.2.2.2 == (0 : Int)) && true)) = true then true else (r.2.2.2.1 == (1 : Int)) && (decide (r.2.2.2.2 ≥ 0) && decide (r.2.2.2.2 ≤ 7))
noncomputable def rmay (r : Rl) : Bool := port r && (pmay r.1 && (decide (r.2.1 ≥ -1) && (decide (r.2.1 ≤ 7) && (decide (r.2.2.1 ≥ 0) && decide (r.2.2.1 ≤ 255)))))
theorem rmay_eq (k : Nat) (r : Rl) : f_rule_May.f k r = some (rmay r, ()) := by
  have hj : ∀ b, f_rule_May.j1 k b r = some (b && (pmay r.1 && (decide (r.2.1 ≥ -1) && (decide (r.2.1 ≤ 7) && (decide (r.2.2.1 ≥ 0) && decide (r.2.2.1 ≤ 255))))), ()) := by
    intro b
    unfold f_rule_May.j1
    simp only [pmay_eq, Option.bind_some]
    cases b <;> cases pmay r.1 <;> by_cases h2 : decide (r.2.1 ≥ -1) = true <;> by_cases h3 : decide (r.2.1 ≤ 7) = true <;> by_cases h4 : decide (r.2.2.1 ≥ 0) = true <;> simp only [h2, h3, h4, if_true, if_false, Bool.true_and, Bool.false_and, Bool.false_eq_true]
  unfold f_rule_May.f rmay port
  simp only [hj]
  by_cases h1 : ((r.2.2.2.1 == (0 : Int)) && ((r.2.2.2.2 == (0 : Int)) && true)) = true
  · rw [if_pos h1, if_pos h1]
  · rw [if_neg h1, if_neg h1]
    by_cases h2 : (r.2.2.2.1 == (1 : Int)) = true <;> by_cases h3 : decide (r.2.2.2.2 ≥ 0) = true <;> simp only [h2, h3, if_true, if_false, Bool.true_and, Bool.false_and, Bool.false_eq_true]
def alike (r : Rl) (x : Rl) : Bool := x.1.1 == r.1.1 && (x.1.2 == r.1.2 && (x.2.1 == r.2.1 && x.2.2.1 == r.2.2.1))
theorem alike_eq (k : Nat) (x r : Rl) : f_rule_Alike.f k x r = some (alike r x, ()) := by
  unfold f_rule_Alike.f alike
  simp
end Go.Proofs.Ytkobhleoebgbhaa.V
