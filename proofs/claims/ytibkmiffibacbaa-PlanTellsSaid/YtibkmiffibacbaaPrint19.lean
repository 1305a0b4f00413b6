/- A text that a program of this session printed out of the translation: checked by Lean alone. -/
import Derived.Test.YtibkmiffibacbaaPrint0
namespace Go.Proofs.Ytibkmiffibacbaa.Print
open Go.RowKit Go.Proofs.YtibkmiffibacbaaW.PrintWords Go.Proofs.YtibkmiffibacbaaW.PrintLast Go.Proofs.YtibkmiffibacbaaW.PrintMore
attribute [local go_sem] max2_int min2_int max_two min_two max_three min_three max_four min_four   -- for this text's walks alone
set_option linter.unusedVariables false
set_option linter.unusedSimpArgs false

/-! ### wayfinderref15_Done: function 22 -/
def wayfinderref15_Done.l0 : Nat → Int → List (S34) → Int → Int → Int → List (S34) → Option (Int × Int × (List (S34)))
  | 0, _, _, _, _, _, _ => none
  | k + 1, x2, x7, x8, x265000, x265001, x265002 => if x8 < (x265002.length : Int) then (if 0 ≤ x8 then (if ((rd_T34 x265002 x8).f2) > x2 then (if x7.length < 1759218604441 then (wayfinderref15_Done.l0 k x2 (x7 ++ [(⟨(rd_T34 x265002 x8).f0, (rd_T34 x265002 x8).f1, (rd_T34 x265002 x8).f2, (rd_T34 x265002 x8).f3, (⟨(⟨(rd_T34 x265002 x8).f4.f0.f0, (rd_T34 x265002 x8).f4.f0.f1⟩ : S28), (rd_T34 x265002 x8).f4.f1, (rd_T34 x265002 x8).f4.f2, (⟨(rd_T34 x265002 x8).f4.f3.f0, (rd_T34 x265002 x8).f4.f3.f1⟩ : S30)⟩ : S32)⟩ : S34)]) (wrap64 (x8 + 1)) x265000 x265001 x265002) else (none)) else (wayfinderref15_Done.l0 k x2 x7 (wrap64 (x8 + 1)) x265000 x265001 x265002)) else (none)) else (some (x265000, x265001, x7))
def wayfinderref15_Done.f (k : Nat) (a0_0 : Int) (a0_1 : Int) (l0_2 : List (S34)) (a1 : Int) (a2 : Int) : Option (Int × Int × (List (S34))) := if a1 = a0_0 then (wayfinderref15_Done.l0 k a2 ([] : List (S34)) 0 a0_0 a0_1 l0_2) else (some (a0_0, a0_1, l0_2))
theorem wayfinderref15_Done.mono_l : ∀ k, (∀ y0 y1 y2 y3 y4 y5, LeO (wayfinderref15_Done.l0 k y0 y1 y2 y3 y4 y5) (wayfinderref15_Done.l0 (k + 1) y0 y1 y2 y3 y4 y5))
  | 0 => fun _ _ _ _ _ _ r h => by simp [wayfinderref15_Done.l0] at h
  | k + 1 => by
    have ih0 := wayfinderref15_Done.mono_l k
    · intro y0 y1 y2 y3 y4 y5
      unfold wayfinderref15_Done.l0
      repeat' first
      | (with_reducible exact ih0 _ _ _ _ _ _)
      | (with_reducible exact LeO.refl _)
      | (with_reducible exact LeO.none _)
      | (with_reducible refine LeO.ite ?_ ?_)
      | (with_reducible refine LeO.bind ?_ (fun _ => ?_))
      | exact ih0 _ _ _ _ _ _
      | exact LeO.none _
      | refine LeO.ite ?_ ?_
      | refine LeO.bind ?_ (fun _ => ?_)
theorem wayfinderref15_Done.mono : ∀ a0 a1 a2 a3 a4 k, LeO (wayfinderref15_Done.f k a0 a1 a2 a3 a4) (wayfinderref15_Done.f (k + 1) a0 a1 a2 a3 a4) := by
  intro a0 a1 a2 a3 a4 k
  have ih0 := wayfinderref15_Done.mono_l k
  unfold wayfinderref15_Done.f
  repeat' first
      | (with_reducible exact ih0 _ _ _ _ _ _)
      | (with_reducible exact LeO.refl _)
      | (with_reducible exact LeO.none _)
      | (with_reducible refine LeO.ite ?_ ?_)
      | (with_reducible refine LeO.bind ?_ (fun _ => ?_))
      | exact ih0 _ _ _ _ _ _
      | exact LeO.none _
      | refine LeO.ite ?_ ?_
      | refine LeO.bind ?_ (fun _ => ?_)
set_option maxHeartbeats 8000000 in
set_option maxRecDepth 100000 in
theorem wayfinderref15_Done.calls (k : Nat) (a0_0 : Int) (a0_1 : Int) (P0_2_ : Nat → Prop) (A0_2 : Option Addr) (c0_2 : Nat) (l0_2 : List (S34)) (a1 : Int) (a2 : Int) (r1 : Int) (r2 : Int) (r3 : List (S34)) (w : World) (hs0_2 : Kd.V k34 34 w w.heap.size (fun k_ => P0_2_ k_) (.slice A0_2 l0_2.length c0_2) l0_2) (h : wayfinderref15_Done.f k a0_0 a0_1 l0_2 a1 a2 = some (r1, r2, r3)) :
    Calls Try.prog 22 #[.agg #[.int .i64 a0_0, .int .i64 a0_1, .slice A0_2 l0_2.length c0_2], .int .i64 a1, .int .i64 a2] w fun e w' => ∃ v2_ : Value, e = .returned (.agg #[.int .i64 r1, .int .i64 r2, v2_]) ∧ Kd.V k34 34 w' w.heap.size (fun k_ => (P0_2_ k_ ∨ w.heap.size ≤ k_)) v2_ r3 ∧ Below w.heap.size w w' := by
  have hu41 := Try.underlying41
  have hu34 := Try.underlying34
  have HO0_2 := Aside0.mk (show Kd.V k34 34 w w.heap.size (fun k_ => (P0_2_ k_ ∨ w.heap.size ≤ k_)) (.slice A0_2 l0_2.length c0_2) l0_2 from Kd.V_mono hs0_2 (fun k_ hk => .inl hk))
  have HB := Aside0.mk (Below.refl w.heap.size w)
  have H : (if a1 = a0_0 then (wayfinderref15_Done.l0 k a2 ([] : List (S34)) 0 a0_0 a0_1 l0_2) else (some (a0_0, a0_1, l0_2))) = some (r1, r2, r3) := h
  clear h
  by_cases c4 : a1 = a0_0
  · rw [if_pos c4] at H
    have c4b0 : (a1 == a0_0) = true := beq_iff_eq.mpr c4
    have c4b1 : (a1 != a0_0) = false := bne_eq_false_iff_eq.mpr c4
    clear c4
    have H' := Aside0.mk H
    clear H
    go_enter Try.func22, Try.ntmps22
    go_wp2_with (first | ((with_reducible refine gate_dst (N := 3) rfl ?_); refine box_event ?hg (N := 3) ?hd (cs := #[.int .i64 a0_0, .int .i64 a0_1, .slice A0_2 l0_2.length c0_2]) (t := 41) ?hr ?_; (case hd => rfl); (case hg => rfl); (case hr => first | (go_simp; done) | (go_simp; rfl)); intro gb264 hg w5 hbox hb; have n0_ := Aside0.mk (Kd.V_below (Kd.V_elderB (by (with_reducible repeat (first | apply Kd.V_alloc | apply Kd.V_drewN | apply Kd.V_drew)); exact HO0_2.out) gb264 (Nat.le_of_eq hg.symm)) hb); have n1_ := Aside0.mk (below_step (by repeat (first | (with_reducible first | exact HB.out | apply below_alloc | apply pw_below_drewN | apply below_drew1) | exact HB.out)) hb); have n2_ := Aside0.mk (hbox); have n3_ := Aside0.mk ((by rw [hg]; exact (below_size (by repeat (first | (with_reducible first | exact HB.out | apply below_alloc | apply pw_below_drewN | apply below_drew1) | exact HB.out))) : w.heap.size ≤ gb264)); have n4_ := Aside0.mk ((by rw [hg]; exact (below_size (by repeat (first | (with_reducible first | exact HB.out | apply below_alloc | apply pw_below_drewN | apply below_drew1) | exact HB.out))) : w.heap.size ≤ gb264)); clear HO0_2; clear HB; have HO0_2 := n0_; have HB := n1_; have BK264 := n2_; have GW264 := n3_; have GE264 := n4_; clear n0_ n1_ n2_ n3_ n4_; clear hb hbox hg) | ((with_reducible refine gate_dst (N := 6) rfl ?_); refine box_event ?hg (N := 6) ?hd (cs := #[.int .i64 0, .int .i64 0, .slice none 0 0]) (t := 41) ?hr ?_; (case hd => rfl); (case hg => rfl); (case hr => first | (go_simp; done) | (go_simp; rfl)); intro gb265 hg w6 hbox hb; have n0_ := Aside0.mk (Kd.V_below (Kd.V_elderB (by (with_reducible repeat (first | apply Kd.V_alloc | apply Kd.V_drewN | apply Kd.V_drew)); exact HO0_2.out) gb265 (Nat.le_of_eq hg.symm)) hb); have n1_ := Aside0.mk (blk_below (g := gb264) (o := .cells #[.int .i64 a0_0, .int .i64 a0_1, .slice A0_2 l0_2.length c0_2] 41 (0, 0)) (by (with_reducible repeat (first | refine blk_drewN ?_ _ | refine blk_drew ?_ | refine blk_alloc ?_ _)); exact BK264.out) hb); have n2_ := Aside0.mk (below_step (by repeat (first | (with_reducible first | exact HB.out | apply below_alloc | apply pw_below_drewN | apply below_drew1 | refine below_set ?_ GE264.out) | exact HB.out)) hb); have n3_ := Aside0.mk (hbox); have n4_ := Aside0.mk ((by rw [hg]; exact (below_size (by repeat (first | (with_reducible first | exact HB.out | apply below_alloc | apply pw_below_drewN | apply below_drew1 | refine below_set ?_ GE264.out) | exact HB.out))) : w.heap.size ≤ gb265)); have n5_ := Aside0.mk ((by rw [hg]; exact (below_size (by repeat (first | (with_reducible first | exact HB.out | apply below_alloc | apply pw_below_drewN | apply below_drew1 | refine below_set ?_ GE264.out) | exact HB.out))) : w.heap.size ≤ gb265)); have n6_ := Aside0.mk ((by rw [hg]; exact Nat.ne_of_lt (blk_lt (g := gb264) (o := .cells #[.int .i64 a0_0, .int .i64 a0_1, .slice A0_2 l0_2.length c0_2] 41 (0, 0)) (by (with_reducible repeat (first | refine blk_drewN ?_ _ | refine blk_drew ?_ | refine blk_alloc ?_ _)); exact BK264.out)) : gb264 ≠ gb265)); have n7_ := Aside0.mk ((by rw [hg]; exact Nat.ne_of_gt (blk_lt (g := gb264) (o := .cells #[.int .i64 a0_0, .int .i64 a0_1, .slice A0_2 l0_2.length c0_2] 41 (0, 0)) (by (with_reducible repeat (first | refine blk_drewN ?_ _ | refine blk_drew ?_ | refine blk_alloc ?_ _)); exact BK264.out)) : gb265 ≠ gb264)); clear HO0_2; clear BK264; clear HB; have HO0_2 := n0_; have BK264 := n1_; have HB := n2_; have BK265 := n3_; have GW265 := n4_; have GE265 := n5_; have NB264_265 := n6_; have NB265_264 := n7_; clear n0_ n1_ n2_ n3_ n4_ n5_ n6_ n7_; clear hb hbox hg; have hnb7 := NB264_265.out; have hnc7 := NB265_264.out; have hcz8_0 : w6.cell? ⟨gb264, 0, none⟩ = some (.int .i64 a0_0) := (blk_cell BK264.out 0).trans rfl; have hcz8_1 : w6.cell? ⟨gb264, 1, none⟩ = some (.int .i64 a0_1) := (blk_cell BK264.out 1).trans rfl; have hcz8_2 : w6.cell? ⟨gb264, 2, none⟩ = some (.slice A0_2 l0_2.length c0_2) := (blk_cell BK264.out 2).trans rfl; have hfz8_0 := blk_frozen BK264.out 0; have hfz8_1 := blk_frozen BK264.out 1; have hfz8_2 := blk_frozen BK264.out 2))
    go_loopg [7, 8] k (fun kq v7 v8 w' => ∃ (x7_1 : List (S34)) (x8_1 : Int), v8 = .int .i64 x8_1 ∧ Aside0 (wayfinderref15_Done.l0 kq a2 x7_1 x8_1 a0_0 a0_1 l0_2 = some (r1, r2, r3)) ∧ Aside0 (kq ≤ k) ∧ Aside0 (Kd.R k34 34 w' w.heap.size (fun k_ => (w.heap.size ≤ k_)) v7 x7_1) ∧ Aside0 (Kd.V k34 34 w' w.heap.size (fun k_ => (P0_2_ k_ ∨ w.heap.size ≤ k_) ∧ some k_ ≠ (v7 : Value).ownBlock ∧ k_ ≠ gb264 ∧ k_ ≠ gb265) (.slice A0_2 l0_2.length c0_2) l0_2) ∧ Aside0 (w'.heap[gb264]? = some (.cells #[.int .i64 a0_0, .int .i64 a0_1, (.slice A0_2 l0_2.length c0_2)] 41 (0, 0))) ∧ Aside0 (w'.heap[gb265]? = some (.cells #[.int .i64 0, .int .i64 0, (.slice none 0 0)] 41 (0, 0))) ∧ Aside0 (Below w.heap.size w w'))
    case atStart => exact ⟨(([] : List (S34))), (0), (by first | rfl | (simp; done) | (simp [*]; done)), H', ⟨Nat.le_refl _⟩, ⟨by first | exact Kd.R_nil _ _ _ _ _ | exact Kd.N_nil _ _ _ _ _ | exact Kd.V_nil _ _ _ _ _ | exact Kd.Q_nil _ _ _ _ _ | exact Kd.S_nil _ _ _ _ _⟩, ⟨by (with_reducible repeat (first | apply Kd.V_alloc | apply Kd.V_drewN | apply Kd.V_drew)); exact Kd.V_mono HO0_2.out (fun _ hk => ⟨hk.1.1, ⟨(by simp [Value.ownBlock]), ⟨hk.1.2, hk.2⟩⟩⟩)⟩, ⟨by (with_reducible repeat (first | refine blk_drewN ?_ _ | refine blk_drew ?_ | refine blk_alloc ?_ _)); exact BK264.out⟩, ⟨by (with_reducible repeat (first | refine blk_drewN ?_ _ | refine blk_drew ?_ | refine blk_alloc ?_ _)); exact BK265.out⟩, ⟨by repeat (first | (with_reducible first | exact HB.out | apply below_alloc | apply pw_below_drewN | apply below_drew1 | refine below_set ?_ GE264.out | refine below_set ?_ GE265.out) | exact HB.out)⟩⟩
    case round =>
      clear H'
      try clear c2
      try clear p2
      try clear c4
      try clear c4b0
      try clear c4b1
      try clear c7
      try clear hcz8_0
      try clear hcz8_1
      try clear hcz8_2
      try clear hfz8_0
      try clear hfz8_1
      try clear hfz8_2
      obtain ⟨x7_1, x8_1, rfl, HA, HK1, HO_7, HO_265002, BK264, BK265, HB⟩ := hrel
      cases gk with
      | zero => exact absurd HA.out (by simp [wayfinderref15_Done.l0])
      | succ k1 =>
        have H := HA.out
        clear HA
        simp only [wayfinderref15_Done.l0] at H
        by_cases c9 : x8_1 < (l0_2.length : Int)
        · rw [if_pos c9] at H
          have c9b0 : decide (x8_1 < (l0_2.length : Int)) = true := decide_eq_true c9
          clear c9
          by_cases c10 : 0 ≤ x8_1
          · rw [if_pos c10] at H
            have c10b0 : decide (0 ≤ x8_1) = true := decide_eq_true c10
            clear c10
            by_cases c11 : ((rd_T34 l0_2 x8_1).f2) > a2
            · rw [if_pos c11] at H
              have c11b0 : decide (a2 < ((rd_T34 l0_2 x8_1).f2)) = true := decide_eq_true c11
              clear c11
              by_cases c12 : x7_1.length < 1759218604441
              · rw [if_pos c12] at H
                have LMc12 := Aside0.mk c12
                clear c12
                obtain ⟨y268, hy268⟩ : ∃ y_ : List (S34), y_ = (x7_1 ++ [(⟨(rd_T34 l0_2 x8_1).f0, (rd_T34 l0_2 x8_1).f1, (rd_T34 l0_2 x8_1).f2, (rd_T34 l0_2 x8_1).f3, (⟨(⟨(rd_T34 l0_2 x8_1).f4.f0.f0, (rd_T34 l0_2 x8_1).f4.f0.f1⟩ : S28), (rd_T34 l0_2 x8_1).f4.f1, (rd_T34 l0_2 x8_1).f4.f2, (⟨(rd_T34 l0_2 x8_1).f4.f3.f0, (rd_T34 l0_2 x8_1).f4.f3.f1⟩ : S30)⟩ : S32)⟩ : S34)]) := ⟨_, rfl⟩
                replace H : (wayfinderref15_Done.l0 k1 a2 y268 (wrap64 (x8_1 + 1)) a0_0 a0_1 l0_2) = some (r1, r2, r3) := by first | (rw [hy268]; with_reducible exact H) | (have H2_ := (Option.bind_some _ _).symm.trans H; rw [hy268]; with_reducible exact H2_) | (have H2_ := (Option.bind_some _ _).symm.trans H; with_reducible exact H2_) | with_reducible exact H | (rw [hy268]; exact H) | exact H
                have Ny268 := Aside0.mk hy268
                clear hy268
                have H' := Aside0.mk H
                clear H
                have hnb13 := NB264_265.out
                have hnc13 := NB265_264.out
                have hcz14_0 : wr.cell? ⟨gb264, 0, none⟩ = some (.int .i64 a0_0) := (blk_cell BK264.out 0).trans rfl
                have hcz14_1 : wr.cell? ⟨gb264, 1, none⟩ = some (.int .i64 a0_1) := (blk_cell BK264.out 1).trans rfl
                have hcz14_2 : wr.cell? ⟨gb264, 2, none⟩ = some (.slice A0_2 l0_2.length c0_2) := (blk_cell BK264.out 2).trans rfl
                have hfz14_0 := blk_frozen BK264.out 0
                have hfz14_1 := blk_frozen BK264.out 1
                have hfz14_2 := blk_frozen BK264.out 2
                have p266 : 0 ≤ (x8_1 : Int) := of_decide_eq_true (by first | (with_reducible assumption) | assumption)
                have q266 : x8_1 < (l0_2.length : Int) := of_decide_eq_true (by first | (with_reducible assumption) | assumption)
                obtain ⟨ad266, e266, hx266_0, hx266_1, hx266_2, hx266_3, hx266_4, hx266_5, hx266_6, hx266_7, hx266_8, hx266_9⟩ := at_T34 (Kd.V_reads' HO_265002.out).2.2 x8_1 p266 q266
                cases e266
                replace p266 := eq_true p266
                replace q266 := eq_true q266
                have p267 : 0 ≤ (x8_1 : Int) := of_decide_eq_true (by first | (with_reducible assumption) | assumption)
                have q267 : x8_1 < (l0_2.length : Int) := of_decide_eq_true (by first | (with_reducible assumption) | assumption)
                obtain ⟨ad267, e267, hx267_0, hx267_1, hx267_2, hx267_3, hx267_4, hx267_5, hx267_6, hx267_7, hx267_8, hx267_9⟩ := at_T34 (Kd.V_reads' HO_265002.out).2.2 x8_1 p267 q267
                obtain rfl : ad266 = ad267 := (by injection e267)
                replace p267 := eq_true p267
                replace q267 := eq_true q267
                go_wp2_with (first | ((with_reducible refine gate_builtin (b := .append) (xs := #[.tmp 29, .tmp 35]) rfl ?_); at_builtin; refine Kd.R_append k34 (w0 := w) w.heap.size rfl (.tmp 29) (.tmp 35) 25 34 (.agg #[(.int .i64 0), (.int .i64 0), (.int .i64 0), (.int .i64 0), (.int .i64 0), (.int .i64 0), (.int .i64 0), (.int .i64 0), (.int .i64 0), (.int .i64 0)]) 80 rfl Try.underlying25 info34 rfl (by decide) (by omega) u7 x7_1 (⟨(rd_T34 l0_2 x8_1).f0, (rd_T34 l0_2 x8_1).f1, (rd_T34 l0_2 x8_1).f2, (rd_T34 l0_2 x8_1).f3, (⟨(⟨(rd_T34 l0_2 x8_1).f4.f0.f0, (rd_T34 l0_2 x8_1).f4.f0.f1⟩ : S28), (rd_T34 l0_2 x8_1).f4.f1, (rd_T34 l0_2 x8_1).f4.f2, (⟨(rd_T34 l0_2 x8_1).f4.f3.f0, (rd_T34 l0_2 x8_1).f4.f3.f1⟩ : S30)⟩ : S32)⟩ : S34) [.int .i64 ((rd_T34 l0_2 x8_1).f0), .int .i64 ((rd_T34 l0_2 x8_1).f1), .int .i64 ((rd_T34 l0_2 x8_1).f2), .int .i64 ((rd_T34 l0_2 x8_1).f3), .int .i64 ((rd_T34 l0_2 x8_1).f4.f0.f0), .int .i64 ((rd_T34 l0_2 x8_1).f4.f0.f1), .int .i64 ((rd_T34 l0_2 x8_1).f4.f1), .int .i64 ((rd_T34 l0_2 x8_1).f4.f2), .int .i64 ((rd_T34 l0_2 x8_1).f4.f3.f0), .int .i64 ((rd_T34 l0_2 x8_1).f4.f3.f1)] (fun k_ => (w.heap.size ≤ k_)) (fun _ => False) rfl rfl ?aP (fun _ hk => hk.elim) ?aF ?aO ?aB ?aS ?aL ?_; (case aP => exact k34_mkM _ _ _ (⟨(rd_T34 l0_2 x8_1).f0, (rd_T34 l0_2 x8_1).f1, (rd_T34 l0_2 x8_1).f2, (rd_T34 l0_2 x8_1).f3, (⟨(⟨(rd_T34 l0_2 x8_1).f4.f0.f0, (rd_T34 l0_2 x8_1).f4.f0.f1⟩ : S28), (rd_T34 l0_2 x8_1).f4.f1, (rd_T34 l0_2 x8_1).f4.f2, (⟨(rd_T34 l0_2 x8_1).f4.f3.f0, (rd_T34 l0_2 x8_1).f4.f3.f1⟩ : S30)⟩ : S32)⟩ : S34)); (case aB => exact (by repeat (first | (with_reducible first | exact HB.out | apply below_alloc | apply pw_below_drewN | apply below_drew1 | refine below_set ?_ GE264.out | refine below_set ?_ GE265.out) | exact HB.out))); (case aF => exact (fun k_ hk => (Nat.le_trans (below_size (by repeat (first | (with_reducible first | exact HB.out | apply below_alloc | apply pw_below_drewN | apply below_drew1 | refine below_set ?_ GE264.out | refine below_set ?_ GE265.out) | exact HB.out))) hk))); (case aO => exact (by (with_reducible repeat (first | apply Kd.R_alloc | apply Kd.R_drewN | apply Kd.R_drew)); exact HO_7.out)); (case aS => exact (below_size (by repeat (first | (with_reducible first | exact HB.out | apply below_alloc | apply pw_below_drewN | apply below_drew1 | refine below_set ?_ GE264.out | refine below_set ?_ GE265.out) | exact HB.out)))); (case aL => have := LMc12.out; omega); intro v269 w15 ho hb hg hat; rw [← Ny268.out] at ho; have n0_ := Aside0.mk (Kd.V_afterv (ok := (fun k_ => (P0_2_ k_ ∨ w.heap.size ≤ k_) ∧ k_ ≠ gb264 ∧ k_ ≠ gb265)) (by (with_reducible repeat (first | apply Kd.V_alloc | apply Kd.V_drewN | apply Kd.V_drew)); exact Kd.V_mono HO_265002.out (fun _ hk => ⟨⟨hk.1, ⟨hk.2.2.1, hk.2.2.2⟩⟩, hk.2.1⟩)) hg hat); have n1_ := Aside0.mk (blk_grown (g := gb264) (o := .cells #[.int .i64 a0_0, .int .i64 a0_1, .slice (some ad266) l0_2.length c0_2] 41 (0, 0)) (by (with_reducible repeat (first | refine blk_drewN ?_ _ | refine blk_drew ?_ | refine blk_alloc ?_ _)); exact BK264.out) hg (Kd.R_ne HO_7.out BK264.out (by decide))); have n2_ := Aside0.mk (blk_grown (g := gb265) (o := .cells #[.int .i64 0, .int .i64 0, .slice none 0 0] 41 (0, 0)) (by (with_reducible repeat (first | refine blk_drewN ?_ _ | refine blk_drew ?_ | refine blk_alloc ?_ _)); exact BK265.out) hg (Kd.R_ne HO_7.out BK265.out (by decide))); have n3_ := Aside0.mk (hb); have n4_ := Aside0.mk (ho); clear HO_265002; clear BK264; clear BK265; clear HB; clear HO_7; have HO_265002 := n0_; have BK264 := n1_; have BK265 := n2_; have HB := n3_; have HO270 := n4_; clear n0_ n1_ n2_ n3_ n4_; clear ho hb hg hat))
                go_roundg k1
                case measure => have := HK1.out; omega
                case rel => exact ⟨(y268), (wrap64 (x8_1 + 1)), (by first | rfl | (simp; done) | (simp [*]; done)), H', ⟨by have := HK1.out; omega⟩, ⟨by (with_reducible repeat (first | apply Kd.R_alloc | apply Kd.R_drewN | apply Kd.R_drew)); exact HO270.out⟩, ⟨by (with_reducible repeat (first | apply Kd.V_alloc | apply Kd.V_drewN | apply Kd.V_drew)); exact Kd.V_mono HO_265002.out (fun _ hk => ⟨hk.1.1, ⟨hk.2, ⟨hk.1.2.1, hk.1.2.2⟩⟩⟩)⟩, ⟨by (with_reducible repeat (first | refine blk_drewN ?_ _ | refine blk_drew ?_ | refine blk_alloc ?_ _)); exact BK264.out⟩, ⟨by (with_reducible repeat (first | refine blk_drewN ?_ _ | refine blk_drew ?_ | refine blk_alloc ?_ _)); exact BK265.out⟩, ⟨by repeat (first | (with_reducible first | exact HB.out | apply below_alloc | apply pw_below_drewN | apply below_drew1 | refine below_set ?_ GE264.out | refine below_set ?_ GE265.out) | exact HB.out)⟩⟩
              · rw [if_neg c12] at H
                exact absurd H (by simp)
            · rw [if_neg c11] at H
              have c11b0 : decide (a2 < ((rd_T34 l0_2 x8_1).f2)) = false := decide_eq_false c11
              clear c11
              have H' := Aside0.mk H
              clear H
              have hnb16 := NB264_265.out
              have hnc16 := NB265_264.out
              have hcz17_0 : wr.cell? ⟨gb264, 0, none⟩ = some (.int .i64 a0_0) := (blk_cell BK264.out 0).trans rfl
              have hcz17_1 : wr.cell? ⟨gb264, 1, none⟩ = some (.int .i64 a0_1) := (blk_cell BK264.out 1).trans rfl
              have hcz17_2 : wr.cell? ⟨gb264, 2, none⟩ = some (.slice A0_2 l0_2.length c0_2) := (blk_cell BK264.out 2).trans rfl
              have hfz17_0 := blk_frozen BK264.out 0
              have hfz17_1 := blk_frozen BK264.out 1
              have hfz17_2 := blk_frozen BK264.out 2
              have p266 : 0 ≤ (x8_1 : Int) := of_decide_eq_true (by first | (with_reducible assumption) | assumption)
              have q266 : x8_1 < (l0_2.length : Int) := of_decide_eq_true (by first | (with_reducible assumption) | assumption)
              obtain ⟨ad266, e266, hx266_0, hx266_1, hx266_2, hx266_3, hx266_4, hx266_5, hx266_6, hx266_7, hx266_8, hx266_9⟩ := at_T34 (Kd.V_reads' HO_265002.out).2.2 x8_1 p266 q266
              cases e266
              replace p266 := eq_true p266
              replace q266 := eq_true q266
              go_wp2
              go_roundg k1
              case measure => have := HK1.out; omega
              case rel => exact ⟨(x7_1), (wrap64 (x8_1 + 1)), (by first | rfl | (simp; done) | (simp [*]; done)), H', ⟨by have := HK1.out; omega⟩, ⟨by (with_reducible repeat (first | apply Kd.R_alloc | apply Kd.R_drewN | apply Kd.R_drew)); exact HO_7.out⟩, ⟨by (with_reducible repeat (first | apply Kd.V_alloc | apply Kd.V_drewN | apply Kd.V_drew)); exact HO_265002.out⟩, ⟨by (with_reducible repeat (first | refine blk_drewN ?_ _ | refine blk_drew ?_ | refine blk_alloc ?_ _)); exact BK264.out⟩, ⟨by (with_reducible repeat (first | refine blk_drewN ?_ _ | refine blk_drew ?_ | refine blk_alloc ?_ _)); exact BK265.out⟩, ⟨by repeat (first | (with_reducible first | exact HB.out | apply below_alloc | apply pw_below_drewN | apply below_drew1 | refine below_set ?_ GE264.out | refine below_set ?_ GE265.out) | exact HB.out)⟩⟩
          · rw [if_neg c10] at H
            exact absurd H (by simp)
        · rw [if_neg c9] at H
          have c9b0 : decide (x8_1 < (l0_2.length : Int)) = false := decide_eq_false c9
          clear c9
          simp only [Option.some.injEq, Prod.mk.injEq] at H
          obtain ⟨rfl, rfl, rfl⟩ := H
          have hnb18 := NB264_265.out
          have hnc18 := NB265_264.out
          have hcz19_0 : wr.cell? ⟨gb264, 0, none⟩ = some (.int .i64 a0_0) := (blk_cell BK264.out 0).trans rfl
          have hcz19_1 : wr.cell? ⟨gb264, 1, none⟩ = some (.int .i64 a0_1) := (blk_cell BK264.out 1).trans rfl
          have hcz19_2 : wr.cell? ⟨gb264, 2, none⟩ = some (.slice A0_2 l0_2.length c0_2) := (blk_cell BK264.out 2).trans rfl
          have hfz19_0 := blk_frozen BK264.out 0
          have hfz19_1 := blk_frozen BK264.out 1
          have hfz19_2 := blk_frozen BK264.out 2
          obtain ⟨Ao20, co20, eo20⟩ := Kd.R_slice HO_7.out
          subst eo20
          have hcz21_0 : wr.cell? ⟨gb265, 0, none⟩ = some (.int .i64 0) := (blk_cell BK265.out 0).trans rfl
          have hcz21_1 : wr.cell? ⟨gb265, 1, none⟩ = some (.int .i64 0) := (blk_cell BK265.out 1).trans rfl
          have hcz21_2 : wr.cell? ⟨gb265, 2, none⟩ = some (.slice none 0 0) := (blk_cell BK265.out 2).trans rfl
          have hfz21_0 := blk_frozen BK265.out 0
          have hfz21_1 := blk_frozen BK265.out 1
          have hfz21_2 := blk_frozen BK265.out 2
          go_wp2
          refine bodyPost_ret (results_cell_row rfl _ _ gb265 41 #[.int .i64 a0_0, .int .i64 a0_1, .slice Ao20 x7_1.length co20] (0, 0) _ rfl (by (with_reducible repeat (first | refine blk_drewN ?_ _ | refine blk_drew ?_ | refine blk_alloc ?_ _)); refine blk_put (cs := #[.int .i64 a0_0, .int .i64 a0_1, .slice none 0 0]) ?_ 2 _ rfl; (with_reducible repeat (first | refine blk_drewN ?_ _ | refine blk_drew ?_ | refine blk_alloc ?_ _)); refine blk_put (cs := #[.int .i64 a0_0, .int .i64 0, .slice none 0 0]) ?_ 1 _ rfl; (with_reducible repeat (first | refine blk_drewN ?_ _ | refine blk_drew ?_ | refine blk_alloc ?_ _)); refine blk_put (cs := #[.int .i64 0, .int .i64 0, .slice none 0 0]) ?_ 0 _ rfl; (with_reducible repeat (first | refine blk_drewN ?_ _ | refine blk_drew ?_ | refine blk_alloc ?_ _)); refine blk_far ?_ NB265_264.out _; (with_reducible repeat (first | refine blk_drewN ?_ _ | refine blk_drew ?_ | refine blk_alloc ?_ _)); exact BK265.out) Try.underlying41 rfl (by kernel_rfl)) rfl ?_
          exact ⟨_, by first | rfl | (simp [errW_none, errW_some] <;> rfl) | (simp [*, errW_none, errW_some] <;> rfl), Kd.V_mono (Kd.R_V (by (with_reducible repeat (first | apply Kd.R_alloc | apply Kd.R_drewN | apply Kd.R_drew)); exact Kd.R_mono (Kd.R_far (p := ⟨gb265, 2, none⟩) (Kd.R_far (p := ⟨gb265, 1, none⟩) (Kd.R_far (p := ⟨gb265, 0, none⟩) (Kd.R_far (p := ⟨gb264, 2, none⟩) (Kd.R_types (Kd.R_types HO_7.out BK264.out (by decide)) BK265.out (by decide)) (fun _ hk => hk.1.2) (.slice Ao20 x7_1.length co20)) (fun _ hk => hk.2) (.int .i64 a0_0)) (fun _ hk => hk.2) (.int .i64 a0_1)) (fun _ hk => hk.2) (.slice Ao20 x7_1.length co20)) (fun _ hk => hk.1.1))) (fun k_ hk => by first | exact ⟨(.inr (hk.1)), hk.2⟩ | exact (.inr (hk))), by repeat (first | (with_reducible first | exact HB.out | apply below_alloc | apply pw_below_drewN | apply below_drew1 | refine below_set ?_ GE264.out | refine below_set ?_ GE265.out) | exact HB.out)⟩
  · rw [if_neg c4] at H
    have c4b0 : (a1 == a0_0) = false := beq_eq_false_iff_ne.mpr c4
    have c4b1 : (a1 != a0_0) = true := bne_iff_ne.mpr c4
    simp only [Option.some.injEq, Prod.mk.injEq] at H
    obtain ⟨rfl, rfl, rfl⟩ := H
    go_enter Try.func22, Try.ntmps22
    go_wp2_with (first | ((with_reducible refine gate_dst (N := 3) rfl ?_); refine box_event ?hg (N := 3) ?hd (cs := #[.int .i64 a0_0, .int .i64 a0_1, .slice A0_2 l0_2.length c0_2]) (t := 41) ?hr ?_; (case hd => rfl); (case hg => rfl); (case hr => first | (go_simp; done) | (go_simp; rfl)); intro gb264 hg w22 hbox hb; have n0_ := Aside0.mk (Kd.V_below (Kd.V_elderB (by (with_reducible repeat (first | apply Kd.V_alloc | apply Kd.V_drewN | apply Kd.V_drew)); exact HO0_2.out) gb264 (Nat.le_of_eq hg.symm)) hb); have n1_ := Aside0.mk (below_step (by repeat (first | (with_reducible first | exact HB.out | apply below_alloc | apply pw_below_drewN | apply below_drew1) | exact HB.out)) hb); have n2_ := Aside0.mk (hbox); have n3_ := Aside0.mk ((by rw [hg]; exact (below_size (by repeat (first | (with_reducible first | exact HB.out | apply below_alloc | apply pw_below_drewN | apply below_drew1) | exact HB.out))) : w.heap.size ≤ gb264)); have n4_ := Aside0.mk ((by rw [hg]; exact (below_size (by repeat (first | (with_reducible first | exact HB.out | apply below_alloc | apply pw_below_drewN | apply below_drew1) | exact HB.out))) : w.heap.size ≤ gb264)); clear HO0_2; clear HB; have HO0_2 := n0_; have HB := n1_; have BK264 := n2_; have GW264 := n3_; have GE264 := n4_; clear n0_ n1_ n2_ n3_ n4_; clear hb hbox hg) | ((with_reducible refine gate_dst (N := 6) rfl ?_); refine box_event ?hg (N := 6) ?hd (cs := #[.int .i64 0, .int .i64 0, .slice none 0 0]) (t := 41) ?hr ?_; (case hd => rfl); (case hg => rfl); (case hr => first | (go_simp; done) | (go_simp; rfl)); intro gb265 hg w23 hbox hb; have n0_ := Aside0.mk (Kd.V_below (Kd.V_elderB (by (with_reducible repeat (first | apply Kd.V_alloc | apply Kd.V_drewN | apply Kd.V_drew)); exact HO0_2.out) gb265 (Nat.le_of_eq hg.symm)) hb); have n1_ := Aside0.mk (blk_below (g := gb264) (o := .cells #[.int .i64 a0_0, .int .i64 a0_1, .slice A0_2 l0_2.length c0_2] 41 (0, 0)) (by (with_reducible repeat (first | refine blk_drewN ?_ _ | refine blk_drew ?_ | refine blk_alloc ?_ _)); exact BK264.out) hb); have n2_ := Aside0.mk (below_step (by repeat (first | (with_reducible first | exact HB.out | apply below_alloc | apply pw_below_drewN | apply below_drew1 | refine below_set ?_ GE264.out) | exact HB.out)) hb); have n3_ := Aside0.mk (hbox); have n4_ := Aside0.mk ((by rw [hg]; exact (below_size (by repeat (first | (with_reducible first | exact HB.out | apply below_alloc | apply pw_below_drewN | apply below_drew1 | refine below_set ?_ GE264.out) | exact HB.out))) : w.heap.size ≤ gb265)); have n5_ := Aside0.mk ((by rw [hg]; exact (below_size (by repeat (first | (with_reducible first | exact HB.out | apply below_alloc | apply pw_below_drewN | apply below_drew1 | refine below_set ?_ GE264.out) | exact HB.out))) : w.heap.size ≤ gb265)); have n6_ := Aside0.mk ((by rw [hg]; exact Nat.ne_of_lt (blk_lt (g := gb264) (o := .cells #[.int .i64 a0_0, .int .i64 a0_1, .slice A0_2 l0_2.length c0_2] 41 (0, 0)) (by (with_reducible repeat (first | refine blk_drewN ?_ _ | refine blk_drew ?_ | refine blk_alloc ?_ _)); exact BK264.out)) : gb264 ≠ gb265)); have n7_ := Aside0.mk ((by rw [hg]; exact Nat.ne_of_gt (blk_lt (g := gb264) (o := .cells #[.int .i64 a0_0, .int .i64 a0_1, .slice A0_2 l0_2.length c0_2] 41 (0, 0)) (by (with_reducible repeat (first | refine blk_drewN ?_ _ | refine blk_drew ?_ | refine blk_alloc ?_ _)); exact BK264.out)) : gb265 ≠ gb264)); clear HO0_2; clear BK264; clear HB; have HO0_2 := n0_; have BK264 := n1_; have HB := n2_; have BK265 := n3_; have GW265 := n4_; have GE265 := n5_; have NB264_265 := n6_; have NB265_264 := n7_; clear n0_ n1_ n2_ n3_ n4_ n5_ n6_ n7_; clear hb hbox hg; have hnb24 := NB264_265.out; have hnc24 := NB265_264.out; have hcz25_0 : w23.cell? ⟨gb264, 0, none⟩ = some (.int .i64 a0_0) := (blk_cell BK264.out 0).trans rfl; have hcz25_1 : w23.cell? ⟨gb264, 1, none⟩ = some (.int .i64 a0_1) := (blk_cell BK264.out 1).trans rfl; have hcz25_2 : w23.cell? ⟨gb264, 2, none⟩ = some (.slice A0_2 l0_2.length c0_2) := (blk_cell BK264.out 2).trans rfl; have hfz25_0 := blk_frozen BK264.out 0; have hfz25_1 := blk_frozen BK264.out 1; have hfz25_2 := blk_frozen BK264.out 2; have hcz26_0 : w23.cell? ⟨gb265, 0, none⟩ = some (.int .i64 0) := (blk_cell BK265.out 0).trans rfl; have hcz26_1 : w23.cell? ⟨gb265, 1, none⟩ = some (.int .i64 0) := (blk_cell BK265.out 1).trans rfl; have hcz26_2 : w23.cell? ⟨gb265, 2, none⟩ = some (.slice none 0 0) := (blk_cell BK265.out 2).trans rfl; have hfz26_0 := blk_frozen BK265.out 0; have hfz26_1 := blk_frozen BK265.out 1; have hfz26_2 := blk_frozen BK265.out 2))
    refine bodyPost_ret (results_cell_row rfl _ _ gb265 41 #[.int .i64 a0_0, .int .i64 a0_1, .slice A0_2 l0_2.length c0_2] (0, 0) _ rfl (by (with_reducible repeat (first | refine blk_drewN ?_ _ | refine blk_drew ?_ | refine blk_alloc ?_ _)); refine blk_put (cs := #[.int .i64 a0_0, .int .i64 a0_1, .slice none 0 0]) ?_ 2 _ rfl; (with_reducible repeat (first | refine blk_drewN ?_ _ | refine blk_drew ?_ | refine blk_alloc ?_ _)); refine blk_put (cs := #[.int .i64 a0_0, .int .i64 0, .slice none 0 0]) ?_ 1 _ rfl; (with_reducible repeat (first | refine blk_drewN ?_ _ | refine blk_drew ?_ | refine blk_alloc ?_ _)); refine blk_put (cs := #[.int .i64 0, .int .i64 0, .slice none 0 0]) ?_ 0 _ rfl; (with_reducible repeat (first | refine blk_drewN ?_ _ | refine blk_drew ?_ | refine blk_alloc ?_ _)); exact BK265.out) Try.underlying41 rfl (by kernel_rfl)) rfl ?_
    exact ⟨_, by first | rfl | (simp [errW_none, errW_some] <;> rfl) | (simp [*, errW_none, errW_some] <;> rfl), by (with_reducible repeat (first | apply Kd.V_alloc | apply Kd.V_drewN | apply Kd.V_drew)); exact Kd.V_mono (Kd.V_far (p := ⟨gb265, 2, none⟩) (Kd.V_far (p := ⟨gb265, 1, none⟩) (Kd.V_far (p := ⟨gb265, 0, none⟩) (Kd.V_mono HO0_2.out (fun k_ hk => (⟨hk, hk.2⟩ : _ ∧ k_ ≠ gb265))) (fun _ hk => hk.2) (.int .i64 a0_0)) (fun _ hk => hk.2) (.int .i64 a0_1)) (fun _ hk => hk.2) (.slice A0_2 l0_2.length c0_2)) (fun _ hk => hk.1.1.1), by repeat (first | (with_reducible first | exact HB.out | apply below_alloc | apply pw_below_drewN | apply below_drew1 | refine below_set ?_ GE264.out | refine below_set ?_ GE265.out) | exact HB.out)⟩

end Go.Proofs.Ytibkmiffibacbaa.Print
