/- A text that a program of this session printed out of the translation: checked by Lean alone. -/
import Derived.Test.YtibkmiffibacbaaPrint0
namespace Go.Proofs.Ytibkmiffibacbaa.Print
open Go.RowKit Go.Proofs.YtibkmiffibacbaaW.PrintWords Go.Proofs.YtibkmiffibacbaaW.PrintLast Go.Proofs.YtibkmiffibacbaaW.PrintMore
attribute [local go_sem] max2_int min2_int max_two min_two max_three min_three max_four min_four   -- for this text's walks alone
set_option linter.unusedVariables false
set_option linter.unusedSimpArgs false

/-! ### wayfinderref15_First: function 25 -/
def wayfinderref15_First.l0 : Nat → Int → List (S34) → Int → Int → Int → List (S34) → Option ((List (S34)))
  | 0, _, _, _, _, _, _ => none
  | k + 1, x1, x5, x6, x280000, x280001, x280002 => if x6 < (x280002.length : Int) then (if x6 < x1 then (if 0 ≤ x6 then (if x5.length < 1759218604441 then (wayfinderref15_First.l0 k x1 (x5 ++ [(⟨(rd_T34 x280002 x6).f0, (rd_T34 x280002 x6).f1, (rd_T34 x280002 x6).f2, (rd_T34 x280002 x6).f3, (⟨(⟨(rd_T34 x280002 x6).f4.f0.f0, (rd_T34 x280002 x6).f4.f0.f1⟩ : S28), (rd_T34 x280002 x6).f4.f1, (rd_T34 x280002 x6).f4.f2, (⟨(rd_T34 x280002 x6).f4.f3.f0, (rd_T34 x280002 x6).f4.f3.f1⟩ : S30)⟩ : S32)⟩ : S34)]) (wrap64 (x6 + 1)) x280000 x280001 x280002) else (none)) else (none)) else (some x5)) else (some x5)
def wayfinderref15_First.f (k : Nat) (a0_0 : Int) (a0_1 : Int) (l0_2 : List (S34)) (a1 : Int) : Option ((List (S34))) := wayfinderref15_First.l0 k a1 ([] : List (S34)) 0 a0_0 a0_1 l0_2
theorem wayfinderref15_First.mono_l : ∀ k, (∀ y0 y1 y2 y3 y4 y5, LeO (wayfinderref15_First.l0 k y0 y1 y2 y3 y4 y5) (wayfinderref15_First.l0 (k + 1) y0 y1 y2 y3 y4 y5))
  | 0 => fun _ _ _ _ _ _ r h => by simp [wayfinderref15_First.l0] at h
  | k + 1 => by
    have ih0 := wayfinderref15_First.mono_l k
    · intro y0 y1 y2 y3 y4 y5
      unfold wayfinderref15_First.l0
      repeat' first
      | (with_reducible exact ih0 _ _ _ _ _ _)
      | (with_reducible exact LeO.refl _)
      | (with_reducible exact LeO.none _)
      | (with_reducible refine LeO.ite ?_ ?_)
      | (with_reducible refine LeO.bind ?_ (fun _ => ?_))
      | exact ih0 _ _ _ _ _ _
      | exact LeO.none _
      | refine LeO.ite ?_ ?_
      | refine LeO.bind ?_ (fun _ => ?_)
theorem wayfinderref15_First.mono : ∀ a0 a1 a2 a3 k, LeO (wayfinderref15_First.f k a0 a1 a2 a3) (wayfinderref15_First.f (k + 1) a0 a1 a2 a3) := by
  intro a0 a1 a2 a3 k
  have ih0 := wayfinderref15_First.mono_l k
  unfold wayfinderref15_First.f
  repeat' first
      | (with_reducible exact ih0 _ _ _ _ _ _)
      | (with_reducible exact LeO.refl _)
      | (with_reducible exact LeO.none _)
      | (with_reducible refine LeO.ite ?_ ?_)
      | (with_reducible refine LeO.bind ?_ (fun _ => ?_))
      | exact ih0 _ _ _ _ _ _
      | exact LeO.none _
      | refine LeO.ite ?_ ?_
      | refine LeO.bind ?_ (fun _ => ?_)
set_option maxHeartbeats 8000000 in
set_option maxRecDepth 100000 in
theorem wayfinderref15_First.calls (k : Nat) (a0_0 : Int) (a0_1 : Int) (A0_2 : Option Addr) (c0_2 : Nat) (l0_2 : List (S34)) (a1 : Int) (r : List (S34)) (w : World) (hr0_2 : Kd.C k34 w A0_2 l0_2.length l0_2) (hc0_2 : l0_2.length ≤ c0_2) (h : wayfinderref15_First.f k a0_0 a0_1 l0_2 a1 = some r) :
    Calls Try.prog 25 #[.agg #[.int .i64 a0_0, .int .i64 a0_1, .slice A0_2 l0_2.length c0_2], .int .i64 a1] w fun e w' => ∃ v0_ : Value, e = .returned (v0_) ∧ Kd.R k34 34 w' w.heap.size (fun _ => True) v0_ r ∧ Below w.heap.size w w' := by
  have hu41 := Try.underlying41
  have hu34 := Try.underlying34
  have HR0_2 := Aside0.mk hr0_2
  have HC0_2 := Aside0.mk hc0_2
  clear hr0_2 hc0_2
  have HB := Aside0.mk (Below.refl w.heap.size w)
  have H : (wayfinderref15_First.l0 k a1 ([] : List (S34)) 0 a0_0 a0_1 l0_2) = some r := h
  clear h
  have H' := Aside0.mk H
  clear H
  go_enter Try.func25, Try.ntmps25
  go_wp2_with (first | ((with_reducible refine gate_dst (N := 2) rfl ?_); refine box_event ?hg (N := 2) ?hd (cs := #[.int .i64 a0_0, .int .i64 a0_1, .slice A0_2 l0_2.length c0_2]) (t := 41) ?hr ?_; (case hd => rfl); (case hg => rfl); (case hr => first | (go_simp; done) | (go_simp; rfl)); intro gb279 hg w3 hbox hb; have n0_ := Aside0.mk (below_step (by repeat (first | (with_reducible first | exact HB.out | apply below_alloc | apply pw_below_drewN | apply below_drew1) | exact HB.out)) hb); have n1_ := Aside0.mk (hbox); have n2_ := Aside0.mk ((by rw [hg]; exact (below_size (by repeat (first | (with_reducible first | exact HB.out | apply below_alloc | apply pw_below_drewN | apply below_drew1) | exact HB.out))) : w.heap.size ≤ gb279)); have n3_ := Aside0.mk ((by rw [hg]; exact (below_size (by repeat (first | (with_reducible first | exact HB.out | apply below_alloc | apply pw_below_drewN | apply below_drew1) | exact HB.out))) : w.heap.size ≤ gb279)); clear HB; have HB := n0_; have BK279 := n1_; have GW279 := n2_; have GE279 := n3_; clear n0_ n1_ n2_ n3_; clear hb hbox hg))
  go_loopg [5, 6] k (fun kq v5 v6 w' => ∃ (x5_1 : List (S34)) (x6_1 : Int), v6 = .int .i64 x6_1 ∧ Aside0 (wayfinderref15_First.l0 kq a1 x5_1 x6_1 a0_0 a0_1 l0_2 = some r) ∧ Aside0 (kq ≤ k) ∧ Aside0 (Kd.R k34 34 w' w.heap.size (fun _ => True) v5 x5_1) ∧ Aside0 (w'.heap[gb279]? = some (.cells #[.int .i64 a0_0, .int .i64 a0_1, (.slice A0_2 l0_2.length c0_2)] 41 (0, 0))) ∧ Aside0 (Below w.heap.size w w'))
  case atStart => exact ⟨(([] : List (S34))), (0), (by first | rfl | (simp; done) | (simp [*]; done)), H', ⟨Nat.le_refl _⟩, ⟨by first | exact Kd.R_nil _ _ _ _ _ | exact Kd.N_nil _ _ _ _ _ | exact Kd.V_nil _ _ _ _ _ | exact Kd.Q_nil _ _ _ _ _ | exact Kd.S_nil _ _ _ _ _⟩, ⟨by (with_reducible repeat (first | refine blk_drewN ?_ _ | refine blk_drew ?_ | refine blk_alloc ?_ _)); exact BK279.out⟩, ⟨by repeat (first | (with_reducible first | exact HB.out | apply below_alloc | apply pw_below_drewN | apply below_drew1 | refine below_set ?_ GE279.out) | exact HB.out)⟩⟩
  case round =>
    clear H'
    try clear c2
    try clear p2
    obtain ⟨x5_1, x6_1, rfl, HA, HK1, HO_5, BK279, HB⟩ := hrel
    cases gk with
    | zero => exact absurd HA.out (by simp [wayfinderref15_First.l0])
    | succ k1 =>
      have H := HA.out
      clear HA
      simp only [wayfinderref15_First.l0] at H
      by_cases c4 : x6_1 < (l0_2.length : Int)
      · rw [if_pos c4] at H
        have c4b0 : decide (x6_1 < (l0_2.length : Int)) = true := decide_eq_true c4
        clear c4
        by_cases c5 : x6_1 < a1
        · rw [if_pos c5] at H
          have c5b0 : decide (x6_1 < a1) = true := decide_eq_true c5
          clear c5
          by_cases c6 : 0 ≤ x6_1
          · rw [if_pos c6] at H
            have c6b0 : decide (0 ≤ x6_1) = true := decide_eq_true c6
            clear c6
            by_cases c7 : x5_1.length < 1759218604441
            · rw [if_pos c7] at H
              have LMc7 := Aside0.mk c7
              clear c7
              obtain ⟨y281, hy281⟩ : ∃ y_ : List (S34), y_ = (x5_1 ++ [(⟨(rd_T34 l0_2 x6_1).f0, (rd_T34 l0_2 x6_1).f1, (rd_T34 l0_2 x6_1).f2, (rd_T34 l0_2 x6_1).f3, (⟨(⟨(rd_T34 l0_2 x6_1).f4.f0.f0, (rd_T34 l0_2 x6_1).f4.f0.f1⟩ : S28), (rd_T34 l0_2 x6_1).f4.f1, (rd_T34 l0_2 x6_1).f4.f2, (⟨(rd_T34 l0_2 x6_1).f4.f3.f0, (rd_T34 l0_2 x6_1).f4.f3.f1⟩ : S30)⟩ : S32)⟩ : S34)]) := ⟨_, rfl⟩
              replace H : (wayfinderref15_First.l0 k1 a1 y281 (wrap64 (x6_1 + 1)) a0_0 a0_1 l0_2) = some r := by first | (rw [hy281]; with_reducible exact H) | (have H2_ := (Option.bind_some _ _).symm.trans H; rw [hy281]; with_reducible exact H2_) | (have H2_ := (Option.bind_some _ _).symm.trans H; with_reducible exact H2_) | with_reducible exact H | (rw [hy281]; exact H) | exact H
              have Ny281 := Aside0.mk hy281
              clear hy281
              have H' := Aside0.mk H
              clear H
              have hcz8_0 : wr.cell? ⟨gb279, 0, none⟩ = some (.int .i64 a0_0) := (blk_cell BK279.out 0).trans rfl
              have hcz8_1 : wr.cell? ⟨gb279, 1, none⟩ = some (.int .i64 a0_1) := (blk_cell BK279.out 1).trans rfl
              have hcz8_2 : wr.cell? ⟨gb279, 2, none⟩ = some (.slice A0_2 l0_2.length c0_2) := (blk_cell BK279.out 2).trans rfl
              have hfz8_0 := blk_frozen BK279.out 0
              have hfz8_1 := blk_frozen BK279.out 1
              have hfz8_2 := blk_frozen BK279.out 2
              have p280 : 0 ≤ (x6_1 : Int) := of_decide_eq_true (by first | (with_reducible assumption) | assumption)
              have q280 : x6_1 < (l0_2.length : Int) := of_decide_eq_true (by first | (with_reducible assumption) | assumption)
              obtain ⟨ad280, e280, hx280_0, hx280_1, hx280_2, hx280_3, hx280_4, hx280_5, hx280_6, hx280_7, hx280_8, hx280_9⟩ := at_T34 HR0_2.out x6_1 p280 q280
              cases e280
              replace hx280_0 := (HB.out.cell (World.block_lt_of_cell? w _ hx280_0)).trans hx280_0
              replace hx280_1 := (HB.out.cell (World.block_lt_of_cell? w _ hx280_1)).trans hx280_1
              replace hx280_2 := (HB.out.cell (World.block_lt_of_cell? w _ hx280_2)).trans hx280_2
              replace hx280_3 := (HB.out.cell (World.block_lt_of_cell? w _ hx280_3)).trans hx280_3
              replace hx280_4 := (HB.out.cell (World.block_lt_of_cell? w _ hx280_4)).trans hx280_4
              replace hx280_5 := (HB.out.cell (World.block_lt_of_cell? w _ hx280_5)).trans hx280_5
              replace hx280_6 := (HB.out.cell (World.block_lt_of_cell? w _ hx280_6)).trans hx280_6
              replace hx280_7 := (HB.out.cell (World.block_lt_of_cell? w _ hx280_7)).trans hx280_7
              replace hx280_8 := (HB.out.cell (World.block_lt_of_cell? w _ hx280_8)).trans hx280_8
              replace hx280_9 := (HB.out.cell (World.block_lt_of_cell? w _ hx280_9)).trans hx280_9
              replace p280 := eq_true p280
              replace q280 := eq_true q280
              go_wp2_with (first | ((with_reducible refine gate_builtin (b := .append) (xs := #[.tmp 19, .tmp 25]) rfl ?_); at_builtin; refine Kd.R_append k34 (w0 := w) w.heap.size rfl (.tmp 19) (.tmp 25) 25 34 (.agg #[(.int .i64 0), (.int .i64 0), (.int .i64 0), (.int .i64 0), (.int .i64 0), (.int .i64 0), (.int .i64 0), (.int .i64 0), (.int .i64 0), (.int .i64 0)]) 80 rfl Try.underlying25 info34 rfl (by decide) (by omega) u5 x5_1 (⟨(rd_T34 l0_2 x6_1).f0, (rd_T34 l0_2 x6_1).f1, (rd_T34 l0_2 x6_1).f2, (rd_T34 l0_2 x6_1).f3, (⟨(⟨(rd_T34 l0_2 x6_1).f4.f0.f0, (rd_T34 l0_2 x6_1).f4.f0.f1⟩ : S28), (rd_T34 l0_2 x6_1).f4.f1, (rd_T34 l0_2 x6_1).f4.f2, (⟨(rd_T34 l0_2 x6_1).f4.f3.f0, (rd_T34 l0_2 x6_1).f4.f3.f1⟩ : S30)⟩ : S32)⟩ : S34) [.int .i64 ((rd_T34 l0_2 x6_1).f0), .int .i64 ((rd_T34 l0_2 x6_1).f1), .int .i64 ((rd_T34 l0_2 x6_1).f2), .int .i64 ((rd_T34 l0_2 x6_1).f3), .int .i64 ((rd_T34 l0_2 x6_1).f4.f0.f0), .int .i64 ((rd_T34 l0_2 x6_1).f4.f0.f1), .int .i64 ((rd_T34 l0_2 x6_1).f4.f1), .int .i64 ((rd_T34 l0_2 x6_1).f4.f2), .int .i64 ((rd_T34 l0_2 x6_1).f4.f3.f0), .int .i64 ((rd_T34 l0_2 x6_1).f4.f3.f1)] (fun _ => True) (fun _ => False) rfl rfl ?aP (fun _ hk => hk.elim) ?aF ?aO ?aB ?aS ?aL ?_; (case aP => exact k34_mkM _ _ _ (⟨(rd_T34 l0_2 x6_1).f0, (rd_T34 l0_2 x6_1).f1, (rd_T34 l0_2 x6_1).f2, (rd_T34 l0_2 x6_1).f3, (⟨(⟨(rd_T34 l0_2 x6_1).f4.f0.f0, (rd_T34 l0_2 x6_1).f4.f0.f1⟩ : S28), (rd_T34 l0_2 x6_1).f4.f1, (rd_T34 l0_2 x6_1).f4.f2, (⟨(rd_T34 l0_2 x6_1).f4.f3.f0, (rd_T34 l0_2 x6_1).f4.f3.f1⟩ : S30)⟩ : S32)⟩ : S34)); (case aB => exact (by repeat (first | (with_reducible first | exact HB.out | apply below_alloc | apply pw_below_drewN | apply below_drew1 | refine below_set ?_ GE279.out) | exact HB.out))); (case aF => exact (fun _ _ => trivial)); (case aO => exact (by (with_reducible repeat (first | apply Kd.R_alloc | apply Kd.R_drewN | apply Kd.R_drew)); exact HO_5.out)); (case aS => exact (below_size (by repeat (first | (with_reducible first | exact HB.out | apply below_alloc | apply pw_below_drewN | apply below_drew1 | refine below_set ?_ GE279.out) | exact HB.out)))); (case aL => have := LMc7.out; omega); intro v282 w9 ho hb hg hat; rw [← Ny281.out] at ho; have n0_ := Aside0.mk (blk_grown (g := gb279) (o := .cells #[.int .i64 a0_0, .int .i64 a0_1, .slice (some ad280) l0_2.length c0_2] 41 (0, 0)) (by (with_reducible repeat (first | refine blk_drewN ?_ _ | refine blk_drew ?_ | refine blk_alloc ?_ _)); exact BK279.out) hg (Kd.R_ne HO_5.out BK279.out (by decide))); have n1_ := Aside0.mk (hb); have n2_ := Aside0.mk (ho); clear BK279; clear HB; clear HO_5; have BK279 := n0_; have HB := n1_; have HO283 := n2_; clear n0_ n1_ n2_; clear ho hb hg hat))
              go_roundg k1
              case measure => have := HK1.out; omega
              case rel => exact ⟨(y281), (wrap64 (x6_1 + 1)), (by first | rfl | (simp; done) | (simp [*]; done)), H', ⟨by have := HK1.out; omega⟩, ⟨by (with_reducible repeat (first | apply Kd.R_alloc | apply Kd.R_drewN | apply Kd.R_drew)); exact HO283.out⟩, ⟨by (with_reducible repeat (first | refine blk_drewN ?_ _ | refine blk_drew ?_ | refine blk_alloc ?_ _)); exact BK279.out⟩, ⟨by repeat (first | (with_reducible first | exact HB.out | apply below_alloc | apply pw_below_drewN | apply below_drew1 | refine below_set ?_ GE279.out) | exact HB.out)⟩⟩
            · rw [if_neg c7] at H
              exact absurd H (by simp)
          · rw [if_neg c6] at H
            exact absurd H (by simp)
        · rw [if_neg c5] at H
          have c5b0 : decide (x6_1 < a1) = false := decide_eq_false c5
          clear c5
          obtain rfl := Option.some.inj H
          have hcz10_0 : wr.cell? ⟨gb279, 0, none⟩ = some (.int .i64 a0_0) := (blk_cell BK279.out 0).trans rfl
          have hcz10_1 : wr.cell? ⟨gb279, 1, none⟩ = some (.int .i64 a0_1) := (blk_cell BK279.out 1).trans rfl
          have hcz10_2 : wr.cell? ⟨gb279, 2, none⟩ = some (.slice A0_2 l0_2.length c0_2) := (blk_cell BK279.out 2).trans rfl
          have hfz10_0 := blk_frozen BK279.out 0
          have hfz10_1 := blk_frozen BK279.out 1
          have hfz10_2 := blk_frozen BK279.out 2
          go_wp2
          go_ret
          exact ⟨_, by first | rfl | (simp [errW_none, errW_some] <;> rfl) | (simp [*, errW_none, errW_some] <;> rfl), by (with_reducible repeat (first | apply Kd.R_alloc | apply Kd.R_drewN | apply Kd.R_drew)); exact HO_5.out, by repeat (first | (with_reducible first | exact HB.out | apply below_alloc | apply pw_below_drewN | apply below_drew1 | refine below_set ?_ GE279.out) | exact HB.out)⟩
      · rw [if_neg c4] at H
        have c4b0 : decide (x6_1 < (l0_2.length : Int)) = false := decide_eq_false c4
        clear c4
        obtain rfl := Option.some.inj H
        have hcz11_0 : wr.cell? ⟨gb279, 0, none⟩ = some (.int .i64 a0_0) := (blk_cell BK279.out 0).trans rfl
        have hcz11_1 : wr.cell? ⟨gb279, 1, none⟩ = some (.int .i64 a0_1) := (blk_cell BK279.out 1).trans rfl
        have hcz11_2 : wr.cell? ⟨gb279, 2, none⟩ = some (.slice A0_2 l0_2.length c0_2) := (blk_cell BK279.out 2).trans rfl
        have hfz11_0 := blk_frozen BK279.out 0
        have hfz11_1 := blk_frozen BK279.out 1
        have hfz11_2 := blk_frozen BK279.out 2
        go_wp2
        go_ret
        exact ⟨_, by first | rfl | (simp [errW_none, errW_some] <;> rfl) | (simp [*, errW_none, errW_some] <;> rfl), by (with_reducible repeat (first | apply Kd.R_alloc | apply Kd.R_drewN | apply Kd.R_drew)); exact HO_5.out, by repeat (first | (with_reducible first | exact HB.out | apply below_alloc | apply pw_below_drewN | apply below_drew1 | refine below_set ?_ GE279.out) | exact HB.out)⟩

end Go.Proofs.Ytibkmiffibacbaa.Print
