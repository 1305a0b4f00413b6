/- Same, Look as plain Lean; how Put and Drop change what Of says. -/
import Derived.Test.YtkobhleoebgbhaaPureTabB
namespace Go.Proofs.Ytkobhleoebgbhaa.V
open Go Go.RowKit
set_option linter.unusedVariables false
set_option linter.unusedSimpArgs false
theorem loop_or {R : Type} (B : Nat → Nat → Option R) (n : Nat) (Q : Nat → Prop) (r a : Option R) (step : ∀ m i, i < n → (Q i ∧ B (m + 1) i = B m (i + 1)) ∨ B (m + 1) i = a) (fin : (∀ i, i < n → Q i) → ∀ m, B (m + 1) n = r) : ∀ m, n < m → ((∀ i, i < n → Q i) ∧ B m 0 = r) ∨ B m 0 = a := by
  have key : ∀ d i m, i + d = n → d < m → (∀ j, j < i → Q j) → ((∀ i, i < n → Q i) ∧ B m i = r) ∨ B m i = a := by
    intro d
    induction d with
    | zero => intro i m h hm hq; obtain rfl : i = n := by omega
              obtain ⟨m, rfl⟩ : ∃ m', m = m' + 1 := ⟨m - 1, by omega⟩
              exact .inl ⟨hq, fin hq m⟩
    | succ d ih =>
      intro i m h hm hq
      obtain ⟨m, rfl⟩ : ∃ m', m = m' + 1 := ⟨m - 1, by omega⟩
      rcases step m i (by omega) with ⟨h1, h2⟩ | h2
      · rw [h2]
        exact ih (i + 1) m (by omega) (by omega) (fun j hj => by rcases Nat.lt_or_eq_of_le (Nat.le_of_lt_succ hj) with h | rfl; exact hq j h; exact h1)
      · exact .inr h2
  intro m hm
  exact key n 0 m (by omega) hm (fun j hj => absurd hj (Nat.not_lt_zero j))
def eqr (x y : Rl) : Bool := ((x.1.1 == y.1.1) && ((x.1.2 == y.1.2) && ((x.2.1 == y.2.1) && ((x.2.2.1 == y.2.2.1) && ((x.2.2.2.1 == y.2.2.2.1) && ((x.2.2.2.2 == y.2.2.2.2) && true))))))
theorem eqr_iff (x y : Rl) : eqr x y = true ↔ x = y := by
  obtain ⟨⟨a, b⟩, c, d, e, f⟩ := x
  obtain ⟨⟨a', b'⟩, c', d', e', f'⟩ := y
  unfold eqr
  constructor
  · intro h
    simp only [Bool.and_eq_true, Bool.and_true] at h
    obtain ⟨h1, h2, h3, h4, h5, h6⟩ := h
    rw [eq_of_beq h1, eq_of_beq h2, eq_of_beq h3, eq_of_beq h4, eq_of_beq h5, eq_of_beq h6]
  · intro h
    obtain ⟨⟨rfl, rfl⟩, rfl, rfl, rfl, rfl⟩ : (a = a' ∧ b = b') ∧ c = c' ∧ d = d' ∧ e = e' ∧ f = f' := by
      injection h with h1 h2; injection h1 with h3 h4; injection h2 with h5 h6; injection h6 with h7 h8; injection h8 with h9 h10
      exact ⟨⟨h3, h4⟩, h5, h7, h9, h10⟩
    simp
open Classical in
theorem same08 (k : Nat) (a b : List Rl) (hk : a.length < k) (hs : a.length < 1000000) : f_ref08_Same.f k a b = some (decide (a = b), ()) := by
  unfold f_ref08_Same.f
  by_cases hl : a.length = b.length
  · rw [if_neg (by simp [hl])]
    have hle : (a.zip b).findIdx (fun p => !eqr p.1 p.2) ≤ (a.zip b).length := List.findIdx_le_length
    have hzl : (a.zip b).length = a.length := by rw [List.length_zip]; omega
    have hz : ∀ i (h : i < a.length), (a.zip b)[i]'(by omega) = (a[i], b[i]'(by omega)) := fun i h => List.getElem_zip
    generalize hj : (a.zip b).findIdx (fun p => !eqr p.1 p.2) = j at hle
    refine loop (fun m i => f_ref08_Same.l1 k m a b (i : Int)) j _ (fun m i hi => ?_) (fun m => ?_) k (by omega)
    · have h1 : i < a.length := by omega
      have h2 : i < b.length := by omega
      have hn := fi_not (p := fun p : Rl × Rl => !eqr p.1 p.2) (xs := a.zip b) (i := i) (by omega) (by omega)
      rw [hz i h1] at hn
      simp only [f_ref08_Same.l1, f_ref08_Same.b1]
      rw [if_pos (by (first | omega | (dsimp only [Ty.T]; omega) | (simp only [decide_eq_true_eq, decide_eq_false_iff_not, Bool.not_eq_true, Ty.T]; omega) | (simp only [decide_eq_true_eq, decide_eq_false_iff_not, Ty.T]; omega) | (simp only [beq_iff_eq, bne_iff_ne, ne_eq, decide_eq_true_eq, Ty.T]; omega))), if_pos (by omega), if_pos (by omega), if_pos (by omega), att_n a i h1, att_n b i h2, wsucc i (by omega)]
      rw [if_neg]
      change ¬ (!eqr a[i] b[i]) = true
      simp only at hn
      rw [hn]; exact Bool.false_ne_true
    · by_cases h1 : j < a.length
      · have h2 : j < b.length := by omega
        subst hj
        have hn := List.findIdx_getElem (xs := a.zip b) (p := fun p : Rl × Rl => !eqr p.1 p.2) (w := by omega)
        rw [hz _ h1] at hn
        simp only [f_ref08_Same.l1, f_ref08_Same.b1]
        rw [if_pos (by (first | omega | (dsimp only [Ty.T]; omega) | (simp only [decide_eq_true_eq, decide_eq_false_iff_not, Bool.not_eq_true, Ty.T]; omega) | (simp only [decide_eq_true_eq, decide_eq_false_iff_not, Ty.T]; omega) | (simp only [beq_iff_eq, bne_iff_ne, ne_eq, decide_eq_true_eq, Ty.T]; omega))), if_pos (by omega), if_pos (by omega), if_pos (by omega), att_n a _ h1, att_n b _ h2]
        refine (if_pos hn).trans ?_
        rw [decide_eq_false]
        intro hab
        subst hab
        simp only [Bool.not_eq_true'] at hn
        rw [(eqr_iff _ _).2 rfl] at hn
        exact Bool.false_ne_true hn.symm
      · simp only [f_ref08_Same.l1, f_ref08_Same.b1]
        rw [if_neg (by (first | omega | (dsimp only [Ty.T]; omega) | (simp only [decide_eq_true_eq, decide_eq_false_iff_not, Bool.not_eq_true, Ty.T]; omega) | (simp only [decide_eq_true_eq, decide_eq_false_iff_not, Ty.T]; omega) | (simp only [beq_iff_eq, bne_iff_ne, ne_eq, decide_eq_true_eq, Ty.T]; omega))), decide_eq_true]
        refine List.ext_getElem hl fun i g1 g2 => ?_
        have hn := fi_not (p := fun p : Rl × Rl => !eqr p.1 p.2) (xs := a.zip b) (i := i) (by omega) (by omega)
        rw [hz i g1] at hn
        simp only [Bool.not_eq_false'] at hn
        exact (eqr_iff _ _).1 hn
  · rw [if_pos (by simpa using fun h => hl (by omega)), decide_eq_false fun h => hl (by rw [h])]
open Classical in
theorem same09 (k : Nat) (a b : List Vr) (hk : 1000 ≤ k) (ha : Sm a) (hb : b.length = a.length → Sm b) : f_ref09_Same.f k a b = some (decide (a = b), ()) := by
  have hs := ha.1
  unfold f_ref09_Same.f
  by_cases hl : a.length = b.length
  · rw [if_neg (by simp [hl])]
    have hb := hb hl.symm
    have hle : (a.zip b).findIdx (fun p => decide (p.1 ≠ p.2)) ≤ (a.zip b).length := List.findIdx_le_length
    have hzl : (a.zip b).length = a.length := by rw [List.length_zip]; omega
    have hz : ∀ i (h : i < a.length), (a.zip b)[i]'(by omega) = (a[i], b[i]'(by omega)) := fun i h => List.getElem_zip
    generalize hj : (a.zip b).findIdx (fun p => decide (p.1 ≠ p.2)) = j at hle
    refine loop (fun m i => f_ref09_Same.l1 k m a b (i : Int)) j _ (fun m i hi => ?_) (fun m => ?_) k (by omega)
    · have h1 : i < a.length := by omega
      have h2 : i < b.length := by omega
      have hv := ha.2 _ (List.getElem_mem h1)
      have hn := fi_not (p := fun p : Vr × Vr => decide (p.1 ≠ p.2)) (xs := a.zip b) (i := i) (by omega) (by omega)
      rw [hz i h1] at hn
      have he : a[i] = b[i] := by simpa using hn
      simp only [f_ref09_Same.l1, f_ref09_Same.b1, f_ref09_Same.j2]
      rw [if_pos (by (first | omega | (dsimp only [Ty.T]; omega) | (simp only [decide_eq_true_eq, decide_eq_false_iff_not, Bool.not_eq_true, Ty.T]; omega) | (simp only [decide_eq_true_eq, decide_eq_false_iff_not, Ty.T]; omega) | (simp only [beq_iff_eq, bne_iff_ne, ne_eq, decide_eq_true_eq, Ty.T]; omega))), if_pos (by omega), if_pos (by omega), if_pos (by omega), att_n a i h1, att_n b i h2, wsucc i (by omega), same08 k _ _ (by omega) (by omega)]
      rw [he]
      simp
    · by_cases h1 : j < a.length
      · have h2 : j < b.length := by omega
        subst hj
        have hv := ha.2 _ (List.getElem_mem h1)
        have hn := List.findIdx_getElem (xs := a.zip b) (p := fun p : Vr × Vr => decide (p.1 ≠ p.2)) (w := by omega)
        rw [hz _ h1] at hn
        simp only [decide_eq_true_eq] at hn
        simp only [f_ref09_Same.l1, f_ref09_Same.b1, f_ref09_Same.j2]
        have hab : decide (a = b) = false := decide_eq_false fun h => hn (List.getElem_of_eq h _)
        generalize (a.zip b).findIdx (fun p => decide (p.1 ≠ p.2)) = j at h1 h2 hv hn hle ⊢
        rw [if_pos (by (first | omega | (dsimp only [Ty.T]; omega) | (simp only [decide_eq_true_eq, decide_eq_false_iff_not, Bool.not_eq_true, Ty.T]; omega) | (simp only [decide_eq_true_eq, decide_eq_false_iff_not, Ty.T]; omega) | (simp only [beq_iff_eq, bne_iff_ne, ne_eq, decide_eq_true_eq, Ty.T]; omega))), if_pos (by omega), if_pos (by omega), if_pos (by omega), att_n a _ h1, att_n b _ h2, same08 k _ _ (by omega) (by omega), hab]
        simp only [Option.bind_some]
        by_cases hq : a[j].2 = b[j].2
        · have hq1 : a[j].1 ≠ b[j].1 := fun h => hn (Prod.ext h hq)
          rw [decide_eq_true hq, if_neg (by simp), if_pos (bne_iff_ne.2 hq1)]
        · rw [decide_eq_false hq]; simp
      · simp only [f_ref09_Same.l1, f_ref09_Same.b1]
        rw [if_neg (by (first | omega | (dsimp only [Ty.T]; omega) | (simp only [decide_eq_true_eq, decide_eq_false_iff_not, Bool.not_eq_true, Ty.T]; omega) | (simp only [decide_eq_true_eq, decide_eq_false_iff_not, Ty.T]; omega) | (simp only [beq_iff_eq, bne_iff_ne, ne_eq, decide_eq_true_eq, Ty.T]; omega))), decide_eq_true]
        refine List.ext_getElem hl fun i g1 g2 => ?_
        have hn := fi_not (p := fun p : Vr × Vr => decide (p.1 ≠ p.2)) (xs := a.zip b) (i := i) (by omega) (by omega)
        rw [hz i g1] at hn
        simpa using hn
  · rw [if_pos (by simpa using fun h => hl (by omega)), decide_eq_false fun h => hl (by rw [h])]
/-- What a list of versions says of a tag. -/
def says : Option Vr → List Rl × Bool
  | some v => (v.2, true)
  | none => ([], false)
theorem of_find (t : List Vr) (tag : Int) : of t tag = says (t.find? (hasTag tag)) := by
  unfold of tagAt
  induction t with
  | nil => simp [says]
  | cons v t ih =>
    rw [List.find?_cons]
    cases hv : hasTag tag v with
    | true =>
      have h0 : (v :: t).findIdx (hasTag tag) = 0 := by rw [List.findIdx_cons, hv]; rfl
      rw [dif_pos (by rw [h0]; simp)]
      simp only [h0, List.getElem_cons_zero, says]
    | false =>
      have h0 : (v :: t).findIdx (hasTag tag) = t.findIdx (hasTag tag) + 1 := by rw [List.findIdx_cons, hv]; rfl
      rw [← ih]
      by_cases hl : t.findIdx (hasTag tag) < t.length
      · rw [dif_pos (by rw [h0]; simpa using hl), dif_pos hl]
        simp only [h0, List.getElem_cons_succ]
      · rw [dif_neg (by rw [h0]; simpa using hl), dif_neg hl]
theorem split_at (t : List Vr) (i : Nat) (h : i < t.length) : t = t.take i ++ t[i] :: t.drop (i + 1) := by rw [List.getElem_cons_drop, List.take_append_drop]
theorem set_at (t : List Vr) (i : Nat) (h : i < t.length) (x : Vr) : t.set i x = t.take i ++ x :: t.drop (i + 1) := List.set_eq_take_append_cons_drop.trans (if_pos h)
theorem hasTag_ne {a b : Int} (h : a ≠ b) : (a == b) = false := by simpa using h
theorem find_set (t : List Vr) (i : Nat) (h : i < t.length) (ys : List Rl) (tag : Int) (hn : t[i].1 ≠ tag) : (t.set i (t[i].1, ys)).find? (hasTag tag) = t.find? (hasTag tag) := by
  rw [set_at t i h]
  conv => rhs; rw [split_at t i h]
  rw [List.find?_append, List.find?_append, List.find?_cons, List.find?_cons]
  have h1 : hasTag tag (t[i].1, ys) = false := hasTag_ne hn
  have h2 : hasTag tag t[i] = false := hasTag_ne hn
  rw [h1, h2]
theorem tagAt_tag (t : List Vr) (tag : Int) (h : tagAt t tag < t.length) : t[tagAt t tag].1 = tag := by
  have := List.findIdx_getElem (xs := t) (p := hasTag tag) (w := h)
  exact eq_of_beq this
theorem of_put (t : List Vr) (tag tag' : Int) (r : Rl) (n : Int) (hn : tag' ≠ tag) : of (put t tag r n).1 tag' = of t tag' := by
  have hg : ∀ h : tagAt t tag < t.length, of (grown t _ h r) tag' = of t tag' := by
    intro h
    have ht := tagAt_tag t tag h
    unfold grown
    rw [of_find, of_find]
    split <;> rw [find_set t _ h _ _ (by rw [ht]; exact hn.symm)]
  unfold put
  split
  · rfl
  · split
    · rename_i h
      split
      · exact hg h
      · split
        · rfl
        · exact hg h
    · split
      · rfl
      · rw [of_find, of_find]
        unfold added
        conv => rhs; rw [← List.take_append_drop (aboveAt t tag) t]
        have h1 : hasTag tag' (tag, [r]) = false := hasTag_ne hn.symm
        rw [List.append_assoc, List.singleton_append, List.find?_append, List.find?_append, List.find?_cons, h1]
theorem of_drop (t : List Vr) (tag tag' : Int) (hn : tag' ≠ tag) : of (drop t tag) tag' = of t tag' := by
  unfold drop
  rw [of_find, of_find]
  by_cases h : tagAt t tag < t.length
  · have ht := tagAt_tag t tag h
    rw [List.eraseIdx_eq_take_drop_succ]
    conv => rhs; rw [split_at t _ h]
    have h2 : hasTag tag' t[tagAt t tag] = false := hasTag_ne (by rw [ht]; exact hn.symm)
    rw [List.find?_append, List.find?_append, List.find?_cons, h2]
  · rw [List.eraseIdx_of_length_le (by omega)]
/-- The table stays small. -/
theorem grown_len (t : List Vr) (i : Nat) (h : i < t.length) (r : Rl) : (grown t i h r).length = t.length := by unfold grown; split <;> rw [List.length_set]
theorem put_mem (t : List Vr) (tag : Int) (r : Rl) (n : Int) (B : Nat) (hb : ∀ v ∈ t, v.2.length ≤ B) : (put t tag r n).1.length ≤ t.length + 1 ∧ ∀ v ∈ (put t tag r n).1, v.2.length ≤ B + 1 := by
  have hg : ∀ i (h : i < t.length), (grown t i h r).length ≤ t.length + 1 ∧ ∀ v ∈ grown t i h r, v.2.length ≤ B + 1 := by
    intro i h
    refine ⟨by rw [grown_len]; omega, fun v hv => ?_⟩
    have h1 := hb _ (List.getElem_mem h)
    unfold grown at hv
    split at hv
    · rcases List.mem_or_eq_of_mem_set hv with hv | rfl
      · have := hb v hv; omega
      · simp only [List.length_set]; omega
    · rcases List.mem_or_eq_of_mem_set hv with hv | rfl
      · have := hb v hv; omega
      · simp only [List.length_append, List.length_singleton]; omega
  have ht : t.length ≤ t.length + 1 ∧ ∀ v ∈ t, v.2.length ≤ B + 1 := ⟨by omega, fun v hv => by have := hb v hv; omega⟩
  unfold put
  split
  · exact ht
  · split
    · rename_i h
      split
      · exact hg _ h
      · split
        · exact ht
        · exact hg _ h
    · split
      · exact ht
      · unfold added
        refine ⟨by simp only [List.length_append, List.length_take, List.length_drop, List.length_singleton]; omega, fun v hv => ?_⟩
        simp only [List.mem_append, List.mem_singleton] at hv
        rcases hv with (hv | rfl) | hv
        · have := hb v (List.mem_of_mem_take hv); omega
        · simp
        · have := hb v (List.mem_of_mem_drop hv); omega
theorem drop_mem (t : List Vr) (tag : Int) (B : Nat) (hb : ∀ v ∈ t, v.2.length ≤ B) : (drop t tag).length ≤ t.length ∧ ∀ v ∈ drop t tag, v.2.length ≤ B := by
  unfold drop
  exact ⟨List.length_eraseIdx_le .., fun v hv => hb v (List.mem_of_mem_eraseIdx hv)⟩
theorem few_of {t : List Vr} (h : (decide (t.length ≤ 20) && t.all fun v => decide (v.2.length ≤ 60)) = true) : t.length ≤ 20 ∧ ∀ v ∈ t, v.2.length ≤ 60 := by
  rw [Bool.and_eq_true, decide_eq_true_eq, List.all_eq_true] at h
  exact ⟨h.1, fun v hv => by simpa using h.2 v hv⟩
theorem Sm.mk' {t : List Vr} {A B : Nat} (h1 : t.length ≤ A) (h2 : ∀ v ∈ t, v.2.length ≤ B) (hA : A < 1000) (hB : B < 1000) : Sm t := ⟨by omega, fun v hv => by have := h2 v hv; omega⟩
theorem awake_k : f_law09_awake.f 1000 = some (true, ()) := by decide +kernel
end Go.Proofs.Ytkobhleoebgbhaa.V
