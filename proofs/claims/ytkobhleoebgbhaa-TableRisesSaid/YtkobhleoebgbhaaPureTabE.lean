/- Twice the same is once; tags that are all other. -/
import Derived.Test.YtkobhleoebgbhaaPureTabD
namespace Go.Proofs.Ytkobhleoebgbhaa.V
open Go Go.RowKit
set_option linter.unusedVariables false
set_option linter.unusedSimpArgs false
theorem alike_self (r : Rl) : alike r r = true := by simp [alike]
theorem fi_eq {α : Type} {p : α → Bool} {xs : List α} {i : Nat} (hi : i < xs.length) (h1 : p xs[i] = true) (h2 : ∀ j (hj : j < i), p (xs[j]'(by omega)) = false) : xs.findIdx p = i := by
  rw [List.findIdx_eq hi]
  exact ⟨h1, fun j hj => h2 j hj⟩
theorem alikeAt_new (rs : List Rl) (r : Rl) (h : ¬ alikeAt rs r < rs.length) : alikeAt (rs ++ [r]) r = rs.length := by
  have he : alikeAt rs r = rs.length := by have := alikeAt_le rs r; omega
  refine fi_eq (by simp) (by simp [alike_self]) fun j hj => ?_
  rw [List.getElem_append_left hj]
  exact fi_not (p := alike r) (by unfold alikeAt at he; omega) hj
theorem alikeAt_set (rs : List Rl) (r : Rl) (h : alikeAt rs r < rs.length) : alikeAt (rs.set (alikeAt rs r) r) r = alikeAt rs r := by
  refine fi_eq (by rw [List.length_set]; exact h) (by simp [alike_self]) fun j hj => ?_
  rw [List.getElem_set_ne (by omega)]
  exact fi_not (p := alike r) hj (by omega)
theorem tagAt_set (t : List Vr) (tag : Int) (h : tagAt t tag < t.length) (ys : List Rl) : tagAt (t.set (tagAt t tag) (t[tagAt t tag].1, ys)) tag = tagAt t tag := by
  have ht := tagAt_tag t tag h
  refine fi_eq (by rw [List.length_set]; exact h) (by simp [hasTag, ht]) fun j hj => ?_
  rw [List.getElem_set_ne (by omega)]
  exact fi_not (p := hasTag tag) hj (by omega)
theorem tagAt_added (t : List Vr) (tag : Int) (r : Rl) (h : ¬ tagAt t tag < t.length) : tagAt (added t tag r) tag = aboveAt t tag ∧ (added t tag r).length = t.length + 1 := by
  have hle := aboveAt_le t tag
  have hall : ∀ j (hj : j < t.length), hasTag tag t[j] = false := fun j hj => fi_not (p := hasTag tag) (by unfold tagAt at h; omega) hj
  have hlen : (added t tag r).length = t.length + 1 := by unfold added; simp only [List.length_append, List.length_take, List.length_drop, List.length_singleton]; omega
  refine ⟨fi_eq (by omega) ?_ fun j hj => ?_, hlen⟩
  · unfold added
    rw [List.getElem_append_left (by simp; omega), List.getElem_append_right (by rw [List.length_take]; omega)]
    simp [hasTag]
  · unfold added
    rw [List.getElem_append_left (by simp; omega), List.getElem_append_left (by simp; omega), List.getElem_take]
    exact hall j (by omega)
theorem put_twice (t : List Vr) (tag : Int) (r : Rl) (n : Int) : put (put t tag r n).1 tag r n = put t tag r n := by
  by_cases ho : okIn tag r = false
  · have : put t tag r n = (t, 1) := by unfold put; rw [if_pos ho]
    rw [this, this]
  · by_cases h : tagAt t tag < t.length
    · have hkey : ∀ ys, alikeAt ys r < ys.length → ys.set (alikeAt ys r) r = ys → put (t.set (tagAt t tag) (t[tagAt t tag].1, ys)) tag r n = (t.set (tagAt t tag) (t[tagAt t tag].1, ys), 0) := by
        intro ys h1 h2
        have e1 := tagAt_set t tag h ys
        have e2 : tagAt (t.set (tagAt t tag) (t[tagAt t tag].1, ys)) tag < (t.set (tagAt t tag) (t[tagAt t tag].1, ys)).length := by rw [e1, List.length_set]; exact h
        have e3 : (t.set (tagAt t tag) (t[tagAt t tag].1, ys))[tagAt (t.set (tagAt t tag) (t[tagAt t tag].1, ys)) tag] = (t[tagAt t tag].1, ys) := by simp only [e1, List.getElem_set_self]
        unfold put
        rw [if_neg ho, dif_pos e2]
        have e4 : alikeAt (t.set (tagAt t tag) (t[tagAt t tag].1, ys))[tagAt (t.set (tagAt t tag) (t[tagAt t tag].1, ys)) tag].2 r < (t.set (tagAt t tag) (t[tagAt t tag].1, ys))[tagAt (t.set (tagAt t tag) (t[tagAt t tag].1, ys)) tag].2.length := by rw [e3]; exact h1
        rw [if_pos e4]
        unfold grown
        rw [if_pos e4]
        simp only [e1, List.getElem_set_self, h2, List.set_set]
      have hset : alikeAt t[tagAt t tag].2 r < t[tagAt t tag].2.length → put (grown t _ h r) tag r n = (grown t _ h r, 0) := by
        intro ha
        unfold grown
        rw [if_pos ha]
        refine hkey _ (by rw [alikeAt_set _ _ ha, List.length_set]; exact ha) ?_
        rw [alikeAt_set _ _ ha, List.set_set]
      have happ : ¬ alikeAt t[tagAt t tag].2 r < t[tagAt t tag].2.length → put (grown t _ h r) tag r n = (grown t _ h r, 0) := by
        intro ha
        unfold grown
        rw [if_neg ha]
        have e := alikeAt_new _ _ ha
        refine hkey _ (by rw [e]; simp) ?_
        rw [e, List.set_append_right _ _ (Nat.le_refl _)]
        simp
      by_cases ha : alikeAt t[tagAt t tag].2 r < t[tagAt t tag].2.length
      · have : put t tag r n = (grown t _ h r, 0) := by unfold put; rw [if_neg ho, dif_pos h, if_pos ha]
        rw [this]; exact hset ha
      · by_cases hz : (sizeOf' t : Int) ≥ n
        · have : put t tag r n = (t, 7) := by unfold put; rw [if_neg ho, dif_pos h, if_neg ha, if_pos hz]
          rw [this, this]
        · have : put t tag r n = (grown t _ h r, 0) := by unfold put; rw [if_neg ho, dif_pos h, if_neg ha, if_neg hz]
          rw [this]; exact happ ha
    · by_cases hz : (sizeOf' t : Int) ≥ n
      · have : put t tag r n = (t, 7) := by unfold put; rw [if_neg ho, dif_neg h, if_pos hz]
        rw [this, this]
      · have : put t tag r n = (added t tag r, 0) := by unfold put; rw [if_neg ho, dif_neg h, if_neg hz]
        rw [this]
        obtain ⟨e1, e2⟩ := tagAt_added t tag r h
        have hle := aboveAt_le t tag
        have e3 : tagAt (added t tag r) tag < (added t tag r).length := by omega
        have e4 : (added t tag r)[tagAt (added t tag r) tag] = (tag, [r]) := by
          simp only [e1]
          unfold added
          rw [List.getElem_append_left (by simp; omega), List.getElem_append_right (by rw [List.length_take]; omega)]
          simp
        have e5 : alikeAt [r] r = 0 := fi_eq (by simp) (by simp [alike_self]) fun j hj => absurd hj (Nat.not_lt_zero j)
        have e6 : alikeAt (added t tag r)[tagAt (added t tag r) tag].2 r < (added t tag r)[tagAt (added t tag r) tag].2.length := by rw [e4]; simp only [e5]; simp
        unfold put
        rw [if_neg ho, dif_pos e3, if_pos e6]
        unfold grown
        rw [if_pos e6]
        simp only [e4, e5, List.set_cons_zero]
        rw [← e4, List.set_getElem_self]
def Distinct (t : List Vr) : Prop := ∀ i j, j < i → ∀ hi : i < t.length, ∀ hj : j < t.length, t[i].1 ≠ t[j].1
theorem drop_gone (t : List Vr) (tag : Int) (hd : Distinct t) : ∀ v ∈ drop t tag, v.1 ≠ tag := by
  intro v hv he
  unfold drop at hv
  by_cases h : tagAt t tag < t.length
  · have ht := tagAt_tag t tag h
    obtain ⟨j, hj, hne, rfl⟩ := List.mem_eraseIdx_iff_getElem.1 hv
    rcases Nat.lt_or_gt_of_ne hne with hlt | hgt
    · exact hd _ _ hlt h hj (by rw [ht, he])
    · exact hd _ _ hgt hj h (by rw [ht, he])
  · rw [List.eraseIdx_of_length_le (by omega)] at hv
    obtain ⟨j, hj, rfl⟩ := List.getElem_of_mem hv
    have := fi_not (p := hasTag tag) (xs := t) (i := j) (by unfold tagAt at h; omega) hj
    unfold hasTag at this
    rw [he] at this
    simp at this
theorem tagAt_none (t : List Vr) (tag : Int) (h : ∀ v ∈ t, v.1 ≠ tag) : tagAt t tag = t.length := List.findIdx_eq_length.2 fun v hv => hasTag_ne (h v hv)
theorem drop_twice (t : List Vr) (tag : Int) (hd : Distinct t) : drop (drop t tag) tag = drop t tag := by
  have h := tagAt_none _ tag (drop_gone t tag hd)
  show (drop t tag).eraseIdx (tagAt (drop t tag) tag) = _
  rw [h, List.eraseIdx_of_length_le (Nat.le_refl _)]
end Go.Proofs.Ytkobhleoebgbhaa.V
