/- Put, Drop and Of as plain Lean. -/
import Derived.Test.YtkobhleoebgbhaaPureTabA
namespace Go.Proofs.Ytkobhleoebgbhaa.V
open Go Go.RowKit
set_option linter.unusedVariables false
set_option linter.unusedSimpArgs false
theorem size_le {t : List Vr} (h : ∀ v ∈ t, v.2.length < 1000) : sizeOf' t ≤ t.length * 999 := by
  induction t with
  | nil => simp [sizeOf']
  | cons v t ih =>
    have h1 := h v List.mem_cons_self
    have h2 := ih fun x hx => h x (List.mem_cons_of_mem _ hx)
    simp only [sizeOf', List.map_cons, List.sum_cons, List.length_cons] at h2 ⊢
    omega
theorem Sm.size {t : List Vr} (h : Sm t) : sizeOf' t < 1000000 := by
  have := size_le h.2
  have := h.1
  omega
def alikeAt (rs : List Rl) (r : Rl) : Nat := rs.findIdx (alike r)
theorem alikeAt_le (rs : List Rl) (r : Rl) : alikeAt rs r ≤ rs.length := List.findIdx_le_length
theorem index_rule (k : Nat) (p1 : List (Int × List T1383.T)) (p2 : Nat) (p3 : Int) (r : Rl) (rs : List Rl) (hk : rs.length < k) (hs : rs.length < 1000000) :
    i_slices_IndexFunc_Rule_a98.f k p1 p2 p3 r rs = some (if alikeAt rs r < rs.length then (alikeAt rs r : Int) else -1, (p1, (p2, (p3, (r, (rs, ())))))) := by
  have hle := alikeAt_le rs r
  refine loop (fun m i => i_slices_IndexFunc_Rule_a98.l1 k m (rs.length : Int) (i : Int) p1 p2 p3 r rs) (alikeAt rs r) _ (fun m i hi => ?_) (fun m => ?_) k (by omega)
  · have hl : i < rs.length := by omega
    have hn : alike r rs[i] = false := fi_not (p := alike r) hi hl
    simp only [i_slices_IndexFunc_Rule_a98.l1, i_slices_IndexFunc_Rule_a98.b1, i_table_Put_1_534.f, att_n rs i hl, alike_eq, Option.bind_some, hn]
    rw [if_pos (by (first | omega | (dsimp only [Ty.T]; omega) | (simp only [decide_eq_true_eq, decide_eq_false_iff_not, Bool.not_eq_true, Ty.T]; omega) | (simp only [decide_eq_true_eq, decide_eq_false_iff_not, Ty.T]; omega) | (simp only [beq_iff_eq, bne_iff_ne, ne_eq, decide_eq_true_eq, Ty.T]; omega))), if_pos (by (first | omega | (dsimp only [Ty.T]; omega) | (simp only [decide_eq_true_eq, decide_eq_false_iff_not, Bool.not_eq_true, Ty.T]; omega) | (simp only [decide_eq_true_eq, decide_eq_false_iff_not, Ty.T]; omega) | (simp only [beq_iff_eq, bne_iff_ne, ne_eq, decide_eq_true_eq, Ty.T]; omega))), if_pos (by (first | omega | (dsimp only [Ty.T]; omega) | (simp only [decide_eq_true_eq, decide_eq_false_iff_not, Bool.not_eq_true, Ty.T]; omega) | (simp only [decide_eq_true_eq, decide_eq_false_iff_not, Ty.T]; omega) | (simp only [beq_iff_eq, bne_iff_ne, ne_eq, decide_eq_true_eq, Ty.T]; omega))), wsucc i (by omega)]
    simp
  · by_cases hl : alikeAt rs r < rs.length
    · have hn : alike r rs[alikeAt rs r] = true := List.findIdx_getElem (p := alike r) (w := hl)
      simp only [i_slices_IndexFunc_Rule_a98.l1, i_slices_IndexFunc_Rule_a98.b1, i_table_Put_1_534.f, att_n rs _ hl, alike_eq, Option.bind_some, hn]
      rw [if_pos (by (first | omega | (dsimp only [Ty.T]; omega) | (simp only [decide_eq_true_eq, decide_eq_false_iff_not, Bool.not_eq_true, Ty.T]; omega) | (simp only [decide_eq_true_eq, decide_eq_false_iff_not, Ty.T]; omega) | (simp only [beq_iff_eq, bne_iff_ne, ne_eq, decide_eq_true_eq, Ty.T]; omega))), if_pos (by (first | omega | (dsimp only [Ty.T]; omega) | (simp only [decide_eq_true_eq, decide_eq_false_iff_not, Bool.not_eq_true, Ty.T]; omega) | (simp only [decide_eq_true_eq, decide_eq_false_iff_not, Ty.T]; omega) | (simp only [beq_iff_eq, bne_iff_ne, ne_eq, decide_eq_true_eq, Ty.T]; omega))), if_pos (by (first | omega | (dsimp only [Ty.T]; omega) | (simp only [decide_eq_true_eq, decide_eq_false_iff_not, Bool.not_eq_true, Ty.T]; omega) | (simp only [decide_eq_true_eq, decide_eq_false_iff_not, Ty.T]; omega) | (simp only [beq_iff_eq, bne_iff_ne, ne_eq, decide_eq_true_eq, Ty.T]; omega))), if_pos hl]
      simp
    · simp only [i_slices_IndexFunc_Rule_a98.l1, i_slices_IndexFunc_Rule_a98.b1, if_neg hl]
      rw [if_neg (by (first | omega | (dsimp only [Ty.T]; omega) | (simp only [decide_eq_true_eq, decide_eq_false_iff_not, Bool.not_eq_true, Ty.T]; omega) | (simp only [decide_eq_true_eq, decide_eq_false_iff_not, Ty.T]; omega) | (simp only [beq_iff_eq, bne_iff_ne, ne_eq, decide_eq_true_eq, Ty.T]; omega)))]
theorem first_rule (k : Nat) (p1 : List (Int × List T1383.T)) (p2 : Nat) (p3 : Int) (r : Rl) (rs : List Rl) (hk : rs.length < k) (hs : rs.length < 1000000) :
    i_table_first_Rule_a98.f k p1 p2 p3 r rs = some ((alikeAt rs r : Int), (p1, (p2, (p3, (r, (rs, ())))))) := by
  have hle := alikeAt_le rs r
  unfold i_table_first_Rule_a98.f
  rw [index_rule k p1 p2 p3 r rs hk hs]
  simp only [Option.bind_some]
  by_cases hl : alikeAt rs r < rs.length
  · rw [if_pos hl, if_pos (by (first | omega | (dsimp only [Ty.T]; omega) | (simp only [decide_eq_true_eq, decide_eq_false_iff_not, Bool.not_eq_true, Ty.T]; omega) | (simp only [decide_eq_true_eq, decide_eq_false_iff_not, Ty.T]; omega) | (simp only [beq_iff_eq, bne_iff_ne, ne_eq, decide_eq_true_eq, Ty.T]; omega)))]
  · rw [if_neg hl, if_neg (by (first | omega | (dsimp only [Ty.T]; omega) | (simp only [decide_eq_true_eq, decide_eq_false_iff_not, Bool.not_eq_true, Ty.T]; omega) | (simp only [decide_eq_true_eq, decide_eq_false_iff_not, Ty.T]; omega) | (simp only [beq_iff_eq, bne_iff_ne, ne_eq, decide_eq_true_eq, Ty.T]; omega))), show alikeAt rs r = rs.length by omega]
theorem index_rule2 (k : Nat) (p2 : List Vr) (p3 : Int) (r : Rl) (rs : List Rl) (hk : rs.length < k) (hs : rs.length < 1000000) :
    i_slices_IndexFunc_Rule_5a0.f k rs p2 p3 r = some (if alikeAt rs r < rs.length then (alikeAt rs r : Int) else -1, (p2, (p3, (r, ())))) := by
  have hle := alikeAt_le rs r
  refine loop (fun m i => i_slices_IndexFunc_Rule_5a0.l1 k m rs (rs.length : Int) (i : Int) p2 p3 r) (alikeAt rs r) _ (fun m i hi => ?_) (fun m => ?_) k (by omega)
  · have hl : i < rs.length := by omega
    have hn : alike r rs[i] = false := fi_not (p := alike r) hi hl
    simp only [i_slices_IndexFunc_Rule_5a0.l1, i_slices_IndexFunc_Rule_5a0.b1, i_table_Put_1_b0a.f, att_n rs i hl, alike_eq, Option.bind_some, hn]
    rw [if_pos (by (first | omega | (dsimp only [Ty.T]; omega) | (simp only [decide_eq_true_eq, decide_eq_false_iff_not, Bool.not_eq_true, Ty.T]; omega) | (simp only [decide_eq_true_eq, decide_eq_false_iff_not, Ty.T]; omega) | (simp only [beq_iff_eq, bne_iff_ne, ne_eq, decide_eq_true_eq, Ty.T]; omega))), if_pos (by (first | omega | (dsimp only [Ty.T]; omega) | (simp only [decide_eq_true_eq, decide_eq_false_iff_not, Bool.not_eq_true, Ty.T]; omega) | (simp only [decide_eq_true_eq, decide_eq_false_iff_not, Ty.T]; omega) | (simp only [beq_iff_eq, bne_iff_ne, ne_eq, decide_eq_true_eq, Ty.T]; omega))), if_pos (by (first | omega | (dsimp only [Ty.T]; omega) | (simp only [decide_eq_true_eq, decide_eq_false_iff_not, Bool.not_eq_true, Ty.T]; omega) | (simp only [decide_eq_true_eq, decide_eq_false_iff_not, Ty.T]; omega) | (simp only [beq_iff_eq, bne_iff_ne, ne_eq, decide_eq_true_eq, Ty.T]; omega))), wsucc i (by omega)]
    simp
  · by_cases hl : alikeAt rs r < rs.length
    · have hn : alike r rs[alikeAt rs r] = true := List.findIdx_getElem (p := alike r) (w := hl)
      simp only [i_slices_IndexFunc_Rule_5a0.l1, i_slices_IndexFunc_Rule_5a0.b1, i_table_Put_1_b0a.f, att_n rs _ hl, alike_eq, Option.bind_some, hn]
      rw [if_pos (by (first | omega | (dsimp only [Ty.T]; omega) | (simp only [decide_eq_true_eq, decide_eq_false_iff_not, Bool.not_eq_true, Ty.T]; omega) | (simp only [decide_eq_true_eq, decide_eq_false_iff_not, Ty.T]; omega) | (simp only [beq_iff_eq, bne_iff_ne, ne_eq, decide_eq_true_eq, Ty.T]; omega))), if_pos (by (first | omega | (dsimp only [Ty.T]; omega) | (simp only [decide_eq_true_eq, decide_eq_false_iff_not, Bool.not_eq_true, Ty.T]; omega) | (simp only [decide_eq_true_eq, decide_eq_false_iff_not, Ty.T]; omega) | (simp only [beq_iff_eq, bne_iff_ne, ne_eq, decide_eq_true_eq, Ty.T]; omega))), if_pos (by (first | omega | (dsimp only [Ty.T]; omega) | (simp only [decide_eq_true_eq, decide_eq_false_iff_not, Bool.not_eq_true, Ty.T]; omega) | (simp only [decide_eq_true_eq, decide_eq_false_iff_not, Ty.T]; omega) | (simp only [beq_iff_eq, bne_iff_ne, ne_eq, decide_eq_true_eq, Ty.T]; omega))), if_pos hl]
      simp
    · simp only [i_slices_IndexFunc_Rule_5a0.l1, i_slices_IndexFunc_Rule_5a0.b1, if_neg hl]
      rw [if_neg (by (first | omega | (dsimp only [Ty.T]; omega) | (simp only [decide_eq_true_eq, decide_eq_false_iff_not, Bool.not_eq_true, Ty.T]; omega) | (simp only [decide_eq_true_eq, decide_eq_false_iff_not, Ty.T]; omega) | (simp only [beq_iff_eq, bne_iff_ne, ne_eq, decide_eq_true_eq, Ty.T]; omega)))]
def above (tag : Int) (v : Vr) : Bool := decide (v.1 > tag)
def aboveAt (t : List Vr) (tag : Int) : Nat := t.findIdx (above tag)
theorem aboveAt_le (t : List Vr) (tag : Int) : aboveAt t tag ≤ t.length := List.findIdx_le_length
theorem index_above (k : Nat) (t : List Vr) (tag : Int) (r : Rl) (hk : t.length < k) (hs : t.length < 1000000) :
    i_slices_IndexFunc_Ver_bfb.f k t tag r = some (if aboveAt t tag < t.length then (aboveAt t tag : Int) else -1, (t, (tag, (r, ())))) := by
  have hle := aboveAt_le t tag
  refine loop (fun m i => i_slices_IndexFunc_Ver_bfb.l1 k m (t.length : Int) (i : Int) t tag r) (aboveAt t tag) _ (fun m i hi => ?_) (fun m => ?_) k (by omega)
  · have hl : i < t.length := by omega
    have hn : decide (t[i].1 > tag) = false := fi_not (p := above tag) hi hl
    simp only [i_slices_IndexFunc_Ver_bfb.l1, i_slices_IndexFunc_Ver_bfb.b1, i_table_Put_2_51e.f, att_n t i hl, Option.bind_some, hn]
    rw [if_pos (by (first | omega | (dsimp only [Ty.T]; omega) | (simp only [decide_eq_true_eq, decide_eq_false_iff_not, Bool.not_eq_true, Ty.T]; omega) | (simp only [decide_eq_true_eq, decide_eq_false_iff_not, Ty.T]; omega) | (simp only [beq_iff_eq, bne_iff_ne, ne_eq, decide_eq_true_eq, Ty.T]; omega))), if_pos (by (first | omega | (dsimp only [Ty.T]; omega) | (simp only [decide_eq_true_eq, decide_eq_false_iff_not, Bool.not_eq_true, Ty.T]; omega) | (simp only [decide_eq_true_eq, decide_eq_false_iff_not, Ty.T]; omega) | (simp only [beq_iff_eq, bne_iff_ne, ne_eq, decide_eq_true_eq, Ty.T]; omega))), if_pos (by (first | omega | (dsimp only [Ty.T]; omega) | (simp only [decide_eq_true_eq, decide_eq_false_iff_not, Bool.not_eq_true, Ty.T]; omega) | (simp only [decide_eq_true_eq, decide_eq_false_iff_not, Ty.T]; omega) | (simp only [beq_iff_eq, bne_iff_ne, ne_eq, decide_eq_true_eq, Ty.T]; omega))), wsucc i (by omega)]
    simp
  · by_cases hl : aboveAt t tag < t.length
    · have hn : decide (t[aboveAt t tag].1 > tag) = true := List.findIdx_getElem (p := above tag) (w := hl)
      simp only [i_slices_IndexFunc_Ver_bfb.l1, i_slices_IndexFunc_Ver_bfb.b1, i_table_Put_2_51e.f, att_n t _ hl, Option.bind_some, hn]
      rw [if_pos (by (first | omega | (dsimp only [Ty.T]; omega) | (simp only [decide_eq_true_eq, decide_eq_false_iff_not, Bool.not_eq_true, Ty.T]; omega) | (simp only [decide_eq_true_eq, decide_eq_false_iff_not, Ty.T]; omega) | (simp only [beq_iff_eq, bne_iff_ne, ne_eq, decide_eq_true_eq, Ty.T]; omega))), if_pos (by (first | omega | (dsimp only [Ty.T]; omega) | (simp only [decide_eq_true_eq, decide_eq_false_iff_not, Bool.not_eq_true, Ty.T]; omega) | (simp only [decide_eq_true_eq, decide_eq_false_iff_not, Ty.T]; omega) | (simp only [beq_iff_eq, bne_iff_ne, ne_eq, decide_eq_true_eq, Ty.T]; omega))), if_pos (by (first | omega | (dsimp only [Ty.T]; omega) | (simp only [decide_eq_true_eq, decide_eq_false_iff_not, Bool.not_eq_true, Ty.T]; omega) | (simp only [decide_eq_true_eq, decide_eq_false_iff_not, Ty.T]; omega) | (simp only [beq_iff_eq, bne_iff_ne, ne_eq, decide_eq_true_eq, Ty.T]; omega))), if_pos hl]
      simp
    · simp only [i_slices_IndexFunc_Ver_bfb.l1, i_slices_IndexFunc_Ver_bfb.b1, if_neg hl]
      rw [if_neg (by (first | omega | (dsimp only [Ty.T]; omega) | (simp only [decide_eq_true_eq, decide_eq_false_iff_not, Bool.not_eq_true, Ty.T]; omega) | (simp only [decide_eq_true_eq, decide_eq_false_iff_not, Ty.T]; omega) | (simp only [beq_iff_eq, bne_iff_ne, ne_eq, decide_eq_true_eq, Ty.T]; omega)))]
theorem first_above (k : Nat) (t : List Vr) (tag : Int) (r : Rl) (hk : t.length < k) (hs : t.length < 1000000) :
    i_table_first_Ver_bfb.f k t tag r = some ((aboveAt t tag : Int), (t, (tag, (r, ())))) := by
  have hle := aboveAt_le t tag
  unfold i_table_first_Ver_bfb.f
  rw [index_above k t tag r hk hs]
  simp only [Option.bind_some]
  by_cases hl : aboveAt t tag < t.length
  · rw [if_pos hl, if_pos (by (first | omega | (dsimp only [Ty.T]; omega) | (simp only [decide_eq_true_eq, decide_eq_false_iff_not, Bool.not_eq_true, Ty.T]; omega) | (simp only [decide_eq_true_eq, decide_eq_false_iff_not, Ty.T]; omega) | (simp only [beq_iff_eq, bne_iff_ne, ne_eq, decide_eq_true_eq, Ty.T]; omega)))]
  · rw [if_neg hl, if_neg (by (first | omega | (dsimp only [Ty.T]; omega) | (simp only [decide_eq_true_eq, decide_eq_false_iff_not, Bool.not_eq_true, Ty.T]; omega) | (simp only [decide_eq_true_eq, decide_eq_false_iff_not, Ty.T]; omega) | (simp only [beq_iff_eq, bne_iff_ne, ne_eq, decide_eq_true_eq, Ty.T]; omega))), show aboveAt t tag = t.length by omega]
theorem lnkd_at (t : List (Int × List Rl)) (i : Nat) (ys : List Rl) (h : i < t.length) : lnkd t i ys = t.set i (t[i].1, ys) := by
  unfold lnkd
  rw [List.getElem?_eq_getElem h]
theorem lnkd_self (t : List (Int × List Rl)) (i : Nat) (h : i < t.length) : lnkd t i t[i].2 = t := by
  rw [lnkd_at t i _ h]
  exact List.set_getElem_self h
noncomputable def okIn (tag : Int) (r : Rl) : Bool := rmay r && (decide (1 ≤ tag) && decide (tag ≤ 4095))
def grown (t : List Vr) (i : Nat) (h : i < t.length) (r : Rl) : List Vr := if alikeAt t[i].2 r < t[i].2.length then t.set i (t[i].1, t[i].2.set (alikeAt t[i].2 r) r) else t.set i (t[i].1, t[i].2 ++ [r])
def added (t : List Vr) (tag : Int) (r : Rl) : List Vr := t.take (aboveAt t tag) ++ [(tag, [r])] ++ t.drop (aboveAt t tag)
noncomputable def put (t : List Vr) (tag : Int) (r : Rl) (n : Int) : List Vr × Int :=
  if okIn tag r = false then (t, 1)
  else if h : tagAt t tag < t.length then
    if alikeAt t[tagAt t tag].2 r < t[tagAt t tag].2.length then (grown t _ h r, 0)
    else if (sizeOf' t : Int) ≥ n then (t, 7) else (grown t _ h r, 0)
  else if (sizeOf' t : Int) ≥ n then (t, 7) else (added t tag r, 0)
theorem put_eq (k : Nat) (t : List Vr) (tag : Int) (r : Rl) (n : Int) (hk : 1000 ≤ k) (hs : Sm t) : f_table_Put.f k t tag r n = some ((put t tag r n).1, ((put t tag r n).2, ())) := by
  have h1 := hs.1
  have hsz := hs.size
  have hat := at_eq k t tag (by omega) (by omega)
  have hle := tagAt_le t tag
  unfold f_table_Put.f
  rw [hat]
  simp only [Option.bind_some]
  by_cases hl : tagAt t tag < t.length
  · have hv := hs.2 _ (List.getElem_mem hl)
    rw [if_pos ⟨by (first | omega | (dsimp only [Ty.T]; omega) | (simp only [decide_eq_true_eq, decide_eq_false_iff_not, Bool.not_eq_true, Ty.T]; omega) | (simp only [decide_eq_true_eq, decide_eq_false_iff_not, Ty.T]; omega) | (simp only [beq_iff_eq, bne_iff_ne, ne_eq, decide_eq_true_eq, Ty.T]; omega)), by rw [Int.toNat_natCast]; exact hl⟩, if_pos ⟨by rw [Int.toNat_natCast]; exact hl, fit_of hs⟩, rmay_eq, Int.toNat_natCast]
    simp only [Option.bind_some, att_n t _ hl]
    have hj : ∀ b, f_table_Put.j1 k n b t (tagAt t tag) tag r t[tagAt t tag].2 = some ((if b = true then (t, (1 : Int)) else if alikeAt t[tagAt t tag].2 r < t[tagAt t tag].2.length then (grown t _ hl r, 0) else if (sizeOf' t : Int) ≥ n then (t, 7) else (grown t _ hl r, 0)).1, ((if b = true then (t, (1 : Int)) else if alikeAt t[tagAt t tag].2 r < t[tagAt t tag].2.length then (grown t _ hl r, 0) else if (sizeOf' t : Int) ≥ n then (t, 7) else (grown t _ hl r, 0)).2, ())) := by
      intro b
      unfold f_table_Put.j1
      have hself := lnkd_self t (tagAt t tag) hl
      cases b with
      | true => simp only [if_true]; rw [hself]
      | false =>
        simp only [Bool.false_eq_true, if_false]
        have hale := alikeAt_le t[tagAt t tag].2 r
        rw [hself, hat, Option.bind_some, if_pos (by (first | omega | (dsimp only [Ty.T]; omega) | (simp only [decide_eq_true_eq, decide_eq_false_iff_not, Bool.not_eq_true, Ty.T]; omega) | (simp only [decide_eq_true_eq, decide_eq_false_iff_not, Ty.T]; omega) | (simp only [beq_iff_eq, bne_iff_ne, ne_eq, decide_eq_true_eq, Ty.T]; omega))), if_pos (by (first | omega | (dsimp only [Ty.T]; omega) | (simp only [decide_eq_true_eq, decide_eq_false_iff_not, Bool.not_eq_true, Ty.T]; omega) | (simp only [decide_eq_true_eq, decide_eq_false_iff_not, Ty.T]; omega) | (simp only [beq_iff_eq, bne_iff_ne, ne_eq, decide_eq_true_eq, Ty.T]; omega))), if_pos (by (first | omega | (dsimp only [Ty.T]; omega) | (simp only [decide_eq_true_eq, decide_eq_false_iff_not, Bool.not_eq_true, Ty.T]; omega) | (simp only [decide_eq_true_eq, decide_eq_false_iff_not, Ty.T]; omega) | (simp only [beq_iff_eq, bne_iff_ne, ne_eq, decide_eq_true_eq, Ty.T]; omega))), if_pos rfl, first_rule k _ _ _ _ _ (by omega) (by omega), Option.bind_some, if_pos rfl]
        by_cases ha : alikeAt t[tagAt t tag].2 r < t[tagAt t tag].2.length
        · rw [if_pos (by (first | omega | (dsimp only [Ty.T]; omega) | (simp only [decide_eq_true_eq, decide_eq_false_iff_not, Bool.not_eq_true, Ty.T]; omega) | (simp only [decide_eq_true_eq, decide_eq_false_iff_not, Ty.T]; omega) | (simp only [beq_iff_eq, bne_iff_ne, ne_eq, decide_eq_true_eq, Ty.T]; omega))), if_pos (by (first | omega | (dsimp only [Ty.T]; omega) | (simp only [decide_eq_true_eq, decide_eq_false_iff_not, Bool.not_eq_true, Ty.T]; omega) | (simp only [decide_eq_true_eq, decide_eq_false_iff_not, Ty.T]; omega) | (simp only [beq_iff_eq, bne_iff_ne, ne_eq, decide_eq_true_eq, Ty.T]; omega))), if_pos (by (first | omega | (dsimp only [Ty.T]; omega) | (simp only [decide_eq_true_eq, decide_eq_false_iff_not, Bool.not_eq_true, Ty.T]; omega) | (simp only [decide_eq_true_eq, decide_eq_false_iff_not, Ty.T]; omega) | (simp only [beq_iff_eq, bne_iff_ne, ne_eq, decide_eq_true_eq, Ty.T]; omega))), if_pos ha]
          simp only [Int.toNat_natCast]
          rw [lnkd_at t _ _ hl]
          unfold grown
          rw [if_pos ha]
        · rw [if_neg (by (first | omega | (dsimp only [Ty.T]; omega) | (simp only [decide_eq_true_eq, decide_eq_false_iff_not, Bool.not_eq_true, Ty.T]; omega) | (simp only [decide_eq_true_eq, decide_eq_false_iff_not, Ty.T]; omega) | (simp only [beq_iff_eq, bne_iff_ne, ne_eq, decide_eq_true_eq, Ty.T]; omega))), if_neg ha]
          unfold f_table_Put.j2
          rw [hself, size_eq k t (by omega) (by omega) hsz, Option.bind_some]
          by_cases hz : (sizeOf' t : Int) ≥ n
          · rw [if_pos (by (first | omega | (dsimp only [Ty.T]; omega) | (simp only [decide_eq_true_eq, decide_eq_false_iff_not, Bool.not_eq_true, Ty.T]; omega) | (simp only [decide_eq_true_eq, decide_eq_false_iff_not, Ty.T]; omega) | (simp only [beq_iff_eq, bne_iff_ne, ne_eq, decide_eq_true_eq, Ty.T]; omega))), if_pos hz]
          · rw [if_neg (by (first | omega | (dsimp only [Ty.T]; omega) | (simp only [decide_eq_true_eq, decide_eq_false_iff_not, Bool.not_eq_true, Ty.T]; omega) | (simp only [decide_eq_true_eq, decide_eq_false_iff_not, Ty.T]; omega) | (simp only [beq_iff_eq, bne_iff_ne, ne_eq, decide_eq_true_eq, Ty.T]; omega))), if_neg hz, if_pos (by (first | omega | (dsimp only [Ty.T]; omega) | (simp only [decide_eq_true_eq, decide_eq_false_iff_not, Bool.not_eq_true, Ty.T]; omega) | (simp only [decide_eq_true_eq, decide_eq_false_iff_not, Ty.T]; omega) | (simp only [beq_iff_eq, bne_iff_ne, ne_eq, decide_eq_true_eq, Ty.T]; omega))), if_pos (by (first | omega | (dsimp only [Ty.T]; omega) | (simp only [decide_eq_true_eq, decide_eq_false_iff_not, Bool.not_eq_true, Ty.T]; omega) | (simp only [decide_eq_true_eq, decide_eq_false_iff_not, Ty.T]; omega) | (simp only [beq_iff_eq, bne_iff_ne, ne_eq, decide_eq_true_eq, Ty.T]; omega))), if_pos (by (first | omega | (dsimp only [Ty.T]; omega) | (simp only [decide_eq_true_eq, decide_eq_false_iff_not, Bool.not_eq_true, Ty.T]; omega) | (simp only [decide_eq_true_eq, decide_eq_false_iff_not, Ty.T]; omega) | (simp only [beq_iff_eq, bne_iff_ne, ne_eq, decide_eq_true_eq, Ty.T]; omega))), att_n t _ hl, if_pos (by (first | omega | (dsimp only [Ty.T]; omega) | (simp only [decide_eq_true_eq, decide_eq_false_iff_not, Bool.not_eq_true, Ty.T]; omega) | (simp only [decide_eq_true_eq, decide_eq_false_iff_not, Ty.T]; omega) | (simp only [beq_iff_eq, bne_iff_ne, ne_eq, decide_eq_true_eq, Ty.T]; omega)))]
            simp only [Int.toNat_natCast, Int.toNat_zero, List.drop_zero, List.take_length]
            rw [if_pos (by (first | omega | (dsimp only [Ty.T]; omega) | (simp only [decide_eq_true_eq, decide_eq_false_iff_not, Bool.not_eq_true, Ty.T]; omega) | (simp only [decide_eq_true_eq, decide_eq_false_iff_not, Ty.T]; omega) | (simp only [beq_iff_eq, bne_iff_ne, ne_eq, decide_eq_true_eq, Ty.T]; omega)))]
            unfold grown
            rw [if_neg ha]
    unfold put
    by_cases ho : okIn tag r = false
    · rw [if_pos ho]
      unfold okIn at ho
      cases hr : rmay r
      · rw [if_pos (by rfl), hj]; rfl
      · rw [hr, Bool.true_and, Bool.and_eq_false_iff] at ho
        rw [if_neg (by simp)]
        by_cases h3 : tag < 1
        · rw [if_pos (by (first | omega | (dsimp only [Ty.T]; omega) | (simp only [decide_eq_true_eq, decide_eq_false_iff_not, Bool.not_eq_true, Ty.T]; omega) | (simp only [decide_eq_true_eq, decide_eq_false_iff_not, Ty.T]; omega) | (simp only [beq_iff_eq, bne_iff_ne, ne_eq, decide_eq_true_eq, Ty.T]; omega))), hj]; rfl
        · rw [if_neg (by (first | omega | (dsimp only [Ty.T]; omega) | (simp only [decide_eq_true_eq, decide_eq_false_iff_not, Bool.not_eq_true, Ty.T]; omega) | (simp only [decide_eq_true_eq, decide_eq_false_iff_not, Ty.T]; omega) | (simp only [beq_iff_eq, bne_iff_ne, ne_eq, decide_eq_true_eq, Ty.T]; omega))), decide_eq_true (p := tag > (4095 : Int)) (by rcases ho with h | h <;> rw [decide_eq_false_iff_not] at h <;> omega), hj]; rfl
    · rw [if_neg ho, dif_pos hl]
      have ho2 : okIn tag r = true := by simpa using ho
      unfold okIn at ho2
      rw [Bool.and_eq_true, Bool.and_eq_true, decide_eq_true_eq, decide_eq_true_eq] at ho2
      rw [if_neg (by rw [ho2.1]; simp), if_neg (by (first | omega | (dsimp only [Ty.T]; omega) | (simp only [decide_eq_true_eq, decide_eq_false_iff_not, Bool.not_eq_true, Ty.T]; omega) | (simp only [decide_eq_true_eq, decide_eq_false_iff_not, Ty.T]; omega) | (simp only [beq_iff_eq, bne_iff_ne, ne_eq, decide_eq_true_eq, Ty.T]; omega))), decide_eq_false (p := tag > (4095 : Int)) (by omega), hj]
      rfl
  · have hll : tagAt t tag = t.length := by omega
    rw [if_neg (by (first | omega | (dsimp only [Ty.T]; omega) | (simp only [decide_eq_true_eq, decide_eq_false_iff_not, Bool.not_eq_true, Ty.T]; omega) | (simp only [decide_eq_true_eq, decide_eq_false_iff_not, Ty.T]; omega) | (simp only [beq_iff_eq, bne_iff_ne, ne_eq, decide_eq_true_eq, Ty.T]; omega))), own_eq k t tag r (by omega) hs, Option.bind_some, rmay_eq]
    simp only [Option.bind_some]
    have hj : ∀ b, f_table_Put.j3 k n b t tag r = some ((if b = true then (t, (1 : Int)) else if (sizeOf' t : Int) ≥ n then (t, 7) else (added t tag r, 0)).1, ((if b = true then (t, (1 : Int)) else if (sizeOf' t : Int) ≥ n then (t, 7) else (added t tag r, 0)).2, ())) := by
      intro b
      unfold f_table_Put.j3
      cases b with
      | true => simp only [if_true]
      | false =>
        simp only [Bool.false_eq_true, if_false]
        have hale := aboveAt_le t tag
        rw [hat, Option.bind_some, if_neg (by (first | omega | (dsimp only [Ty.T]; omega) | (simp only [decide_eq_true_eq, decide_eq_false_iff_not, Bool.not_eq_true, Ty.T]; omega) | (simp only [decide_eq_true_eq, decide_eq_false_iff_not, Ty.T]; omega) | (simp only [beq_iff_eq, bne_iff_ne, ne_eq, decide_eq_true_eq, Ty.T]; omega)))]
        unfold f_table_Put.j4
        rw [size_eq k t (by omega) (by omega) hsz, Option.bind_some]
        by_cases hz : (sizeOf' t : Int) ≥ n
        · rw [if_pos (by (first | omega | (dsimp only [Ty.T]; omega) | (simp only [decide_eq_true_eq, decide_eq_false_iff_not, Bool.not_eq_true, Ty.T]; omega) | (simp only [decide_eq_true_eq, decide_eq_false_iff_not, Ty.T]; omega) | (simp only [beq_iff_eq, bne_iff_ne, ne_eq, decide_eq_true_eq, Ty.T]; omega))), if_pos hz]
        · rw [if_neg (by (first | omega | (dsimp only [Ty.T]; omega) | (simp only [decide_eq_true_eq, decide_eq_false_iff_not, Bool.not_eq_true, Ty.T]; omega) | (simp only [decide_eq_true_eq, decide_eq_false_iff_not, Ty.T]; omega) | (simp only [beq_iff_eq, bne_iff_ne, ne_eq, decide_eq_true_eq, Ty.T]; omega))), if_neg hz, if_neg (by (first | omega | (dsimp only [Ty.T]; omega) | (simp only [decide_eq_true_eq, decide_eq_false_iff_not, Bool.not_eq_true, Ty.T]; omega) | (simp only [decide_eq_true_eq, decide_eq_false_iff_not, Ty.T]; omega) | (simp only [beq_iff_eq, bne_iff_ne, ne_eq, decide_eq_true_eq, Ty.T]; omega))), first_above k t tag r (by omega) (by omega), Option.bind_some, if_pos ⟨by (first | omega | (dsimp only [Ty.T]; omega) | (simp only [decide_eq_true_eq, decide_eq_false_iff_not, Bool.not_eq_true, Ty.T]; omega) | (simp only [decide_eq_true_eq, decide_eq_false_iff_not, Ty.T]; omega) | (simp only [beq_iff_eq, bne_iff_ne, ne_eq, decide_eq_true_eq, Ty.T]; omega)), by (first | omega | (dsimp only [Ty.T]; omega) | (simp only [decide_eq_true_eq, decide_eq_false_iff_not, Bool.not_eq_true, Ty.T]; omega) | (simp only [decide_eq_true_eq, decide_eq_false_iff_not, Ty.T]; omega) | (simp only [beq_iff_eq, bne_iff_ne, ne_eq, decide_eq_true_eq, Ty.T]; omega)), rfl, by (first | omega | (dsimp only [Ty.T]; omega) | (simp only [decide_eq_true_eq, decide_eq_false_iff_not, Bool.not_eq_true, Ty.T]; omega) | (simp only [decide_eq_true_eq, decide_eq_false_iff_not, Ty.T]; omega) | (simp only [beq_iff_eq, bne_iff_ne, ne_eq, decide_eq_true_eq, Ty.T]; omega)), by decide⟩]
          simp only [Int.toNat_natCast]
          rfl
    unfold put
    by_cases ho : okIn tag r = false
    · rw [if_pos ho]
      unfold okIn at ho
      cases hr : rmay r
      · rw [if_pos (by rfl), hj]; rfl
      · rw [hr, Bool.true_and, Bool.and_eq_false_iff] at ho
        rw [if_neg (by simp)]
        by_cases h3 : tag < 1
        · rw [if_pos (by (first | omega | (dsimp only [Ty.T]; omega) | (simp only [decide_eq_true_eq, decide_eq_false_iff_not, Bool.not_eq_true, Ty.T]; omega) | (simp only [decide_eq_true_eq, decide_eq_false_iff_not, Ty.T]; omega) | (simp only [beq_iff_eq, bne_iff_ne, ne_eq, decide_eq_true_eq, Ty.T]; omega))), hj]; rfl
        · rw [if_neg (by (first | omega | (dsimp only [Ty.T]; omega) | (simp only [decide_eq_true_eq, decide_eq_false_iff_not, Bool.not_eq_true, Ty.T]; omega) | (simp only [decide_eq_true_eq, decide_eq_false_iff_not, Ty.T]; omega) | (simp only [beq_iff_eq, bne_iff_ne, ne_eq, decide_eq_true_eq, Ty.T]; omega))), decide_eq_true (p := tag > (4095 : Int)) (by rcases ho with h | h <;> rw [decide_eq_false_iff_not] at h <;> omega), hj]; rfl
    · rw [if_neg ho, dif_neg hl]
      have ho2 : okIn tag r = true := by simpa using ho
      unfold okIn at ho2
      rw [Bool.and_eq_true, Bool.and_eq_true, decide_eq_true_eq, decide_eq_true_eq] at ho2
      rw [if_neg (by rw [ho2.1]; simp), if_neg (by (first | omega | (dsimp only [Ty.T]; omega) | (simp only [decide_eq_true_eq, decide_eq_false_iff_not, Bool.not_eq_true, Ty.T]; omega) | (simp only [decide_eq_true_eq, decide_eq_false_iff_not, Ty.T]; omega) | (simp only [beq_iff_eq, bne_iff_ne, ne_eq, decide_eq_true_eq, Ty.T]; omega))), decide_eq_false (p := tag > (4095 : Int)) (by omega), hj]
      rfl
noncomputable def drop (t : List Vr) (tag : Int) : List Vr := t.eraseIdx (tagAt t tag)
theorem drop_eq (k : Nat) (t : List Vr) (tag : Int) (hk : 1000 ≤ k) (hs : Sm t) : f_table_Drop.f k t tag = some (drop t tag, ()) := by
  have h1 := hs.1
  have hle := tagAt_le t tag
  unfold f_table_Drop.f f_table_Drop.j1 drop
  rw [own2_eq k t (by omega) hs, Option.bind_some, at_eq k t tag (by omega) (by omega), Option.bind_some]
  by_cases hl : tagAt t tag < t.length
  · rw [if_pos (by (first | omega | (dsimp only [Ty.T]; omega) | (simp only [decide_eq_true_eq, decide_eq_false_iff_not, Bool.not_eq_true, Ty.T]; omega) | (simp only [decide_eq_true_eq, decide_eq_false_iff_not, Ty.T]; omega) | (simp only [beq_iff_eq, bne_iff_ne, ne_eq, decide_eq_true_eq, Ty.T]; omega))), if_pos ⟨by (first | omega | (dsimp only [Ty.T]; omega) | (simp only [decide_eq_true_eq, decide_eq_false_iff_not, Bool.not_eq_true, Ty.T]; omega) | (simp only [decide_eq_true_eq, decide_eq_false_iff_not, Ty.T]; omega) | (simp only [beq_iff_eq, bne_iff_ne, ne_eq, decide_eq_true_eq, Ty.T]; omega)), by (first | omega | (dsimp only [Ty.T]; omega) | (simp only [decide_eq_true_eq, decide_eq_false_iff_not, Bool.not_eq_true, Ty.T]; omega) | (simp only [decide_eq_true_eq, decide_eq_false_iff_not, Ty.T]; omega) | (simp only [beq_iff_eq, bne_iff_ne, ne_eq, decide_eq_true_eq, Ty.T]; omega)), by dsimp only; rw [wsucc _ (by omega)]; (first | omega | (dsimp only [Ty.T]; omega) | (simp only [decide_eq_true_eq, decide_eq_false_iff_not, Bool.not_eq_true, Ty.T]; omega) | (simp only [decide_eq_true_eq, decide_eq_false_iff_not, Ty.T]; omega) | (simp only [beq_iff_eq, bne_iff_ne, ne_eq, decide_eq_true_eq, Ty.T]; omega))⟩]
    simp only [Int.toNat_natCast]
    rw [List.eraseIdx_eq_take_drop_succ]
  · rw [if_neg (by (first | omega | (dsimp only [Ty.T]; omega) | (simp only [decide_eq_true_eq, decide_eq_false_iff_not, Bool.not_eq_true, Ty.T]; omega) | (simp only [decide_eq_true_eq, decide_eq_false_iff_not, Ty.T]; omega) | (simp only [beq_iff_eq, bne_iff_ne, ne_eq, decide_eq_true_eq, Ty.T]; omega))), List.eraseIdx_of_length_le (by omega)]
noncomputable def of (t : List Vr) (tag : Int) : List Rl × Bool := if h : tagAt t tag < t.length then (t[tagAt t tag].2, true) else ([], false)
theorem of_eq (k : Nat) (t : List Vr) (tag : Int) (hk : 1000 ≤ k) (hs : Sm t) : f_table_Of.f k t tag = some ((of t tag).1, ((of t tag).2, ())) := by
  have h1 := hs.1
  have hle := tagAt_le t tag
  unfold f_table_Of.f of
  rw [at_eq k t tag (by omega) (by omega), Option.bind_some]
  by_cases hl : tagAt t tag < t.length
  · have hv := hs.2 _ (List.getElem_mem hl)
    rw [if_pos (by (first | omega | (dsimp only [Ty.T]; omega) | (simp only [decide_eq_true_eq, decide_eq_false_iff_not, Bool.not_eq_true, Ty.T]; omega) | (simp only [decide_eq_true_eq, decide_eq_false_iff_not, Ty.T]; omega) | (simp only [beq_iff_eq, bne_iff_ne, ne_eq, decide_eq_true_eq, Ty.T]; omega))), if_pos (by (first | omega | (dsimp only [Ty.T]; omega) | (simp only [decide_eq_true_eq, decide_eq_false_iff_not, Bool.not_eq_true, Ty.T]; omega) | (simp only [decide_eq_true_eq, decide_eq_false_iff_not, Ty.T]; omega) | (simp only [beq_iff_eq, bne_iff_ne, ne_eq, decide_eq_true_eq, Ty.T]; omega))), if_pos (by (first | omega | (dsimp only [Ty.T]; omega) | (simp only [decide_eq_true_eq, decide_eq_false_iff_not, Bool.not_eq_true, Ty.T]; omega) | (simp only [decide_eq_true_eq, decide_eq_false_iff_not, Ty.T]; omega) | (simp only [beq_iff_eq, bne_iff_ne, ne_eq, decide_eq_true_eq, Ty.T]; omega))), att_n t _ hl, clone_eq k _ (by omega), dif_pos hl]; rfl
  · rw [if_neg (by (first | omega | (dsimp only [Ty.T]; omega) | (simp only [decide_eq_true_eq, decide_eq_false_iff_not, Bool.not_eq_true, Ty.T]; omega) | (simp only [decide_eq_true_eq, decide_eq_false_iff_not, Ty.T]; omega) | (simp only [beq_iff_eq, bne_iff_ne, ne_eq, decide_eq_true_eq, Ty.T]; omega))), dif_neg hl]
end Go.Proofs.Ytkobhleoebgbhaa.V
