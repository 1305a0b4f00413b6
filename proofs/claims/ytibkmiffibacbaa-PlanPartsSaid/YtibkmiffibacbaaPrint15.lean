/- A text that a program of this session printed out of the translation: checked by Lean alone. -/
import Derived.Test.YtibkmiffibacbaaPrint0
import Derived.Test.YtibkmiffibacbaaPrint14
namespace Go.Proofs.Ytibkmiffibacbaa.Print
open Go.RowKit Go.Proofs.YtibkmiffibacbaaW.PrintWords Go.Proofs.YtibkmiffibacbaaW.PrintLast Go.Proofs.YtibkmiffibacbaaW.PrintMore
attribute [local go_sem] max2_int min2_int max_two min_two max_three min_three max_four min_four   -- for this text's walks alone
set_option linter.unusedVariables false
set_option linter.unusedSimpArgs false

/-! ### sess_First: function 24 -/
def sess_First.f (a0_0 : Int) (a0_1 : Int) (l0_2 : List (S34)) (a1 : Int) : Option ((List (S34))) := if 0 ≤ (mn (mx a1 0) (l0_2.length : Int)) then (if (mn (mx a1 0) (l0_2.length : Int)) ≤ (l0_2.length : Int) then ((api_Msg_38.f (l0_2.take ((mn (mx a1 0) (l0_2.length : Int)) : Int).toNat)).bind fun t276 => (some t276)) else (none)) else (none)
set_option maxHeartbeats 8000000 in
set_option maxRecDepth 100000 in
theorem sess_First.calls (a0_0 : Int) (a0_1 : Int) (A0_2 : Option Addr) (c0_2 : Nat) (l0_2 : List (S34)) (a1 : Int) (r : List (S34)) (w : World) (hr0_2 : Kd.C k34 w A0_2 l0_2.length l0_2) (hc0_2 : l0_2.length ≤ c0_2) (h : sess_First.f a0_0 a0_1 l0_2 a1 = some r) :
    Calls Try.prog 24 #[.agg #[.int .i64 a0_0, .int .i64 a0_1, .slice A0_2 l0_2.length c0_2], .int .i64 a1] w fun e w' => ∃ v0_ : Value, e = .returned (v0_) ∧ Kd.R k34 34 w' w.heap.size (fun _ => True) v0_ r ∧ Below w.heap.size w w' := by
  have hu41 := Try.underlying41
  have HR0_2 := Aside0.mk hr0_2
  have HC0_2 := Aside0.mk hc0_2
  clear hr0_2 hc0_2
  have HB := Aside0.mk (Below.refl w.heap.size w)
  have H : (if 0 ≤ (mn (mx a1 0) (l0_2.length : Int)) then (if (mn (mx a1 0) (l0_2.length : Int)) ≤ (l0_2.length : Int) then ((api_Msg_38.f (l0_2.take ((mn (mx a1 0) (l0_2.length : Int)) : Int).toNat)).bind fun t276 => (some t276)) else (none)) else (none)) = some r := h
  clear h
  obtain ⟨ji3, hji3⟩ : ∃ j_ : Int, (mx a1 0) = j_ := ⟨_, rfl⟩
  replace H : (if 0 ≤ (mn (ji3) (l0_2.length : Int)) then (if (mn (ji3) (l0_2.length : Int)) ≤ (l0_2.length : Int) then ((api_Msg_38.f (l0_2.take ((mn (ji3) (l0_2.length : Int)) : Int).toNat)).bind fun t276 => (some t276)) else (none)) else (none)) = some r := by first | (rw [hji3] at H; exact H) | (simp only [hji3] at H ⊢; exact H)
  (try (have hji3l : 0 ≤ ji3 := by (rw [← hji3]; unfold mx; (repeat' split) <;> omega)))
  (try (have hji3m : 0 ≤ ji3 := by omega))
  have hji3_ : (if a1 < 0 then 0 else a1) = ji3 := hji3
  obtain ⟨ji4, hji4⟩ : ∃ j_ : Int, (mn (ji3) (l0_2.length : Int)) = j_ := ⟨_, rfl⟩
  replace H : (if 0 ≤ (ji4) then (if (ji4) ≤ (l0_2.length : Int) then ((api_Msg_38.f (l0_2.take ((ji4) : Int).toNat)).bind fun t276 => (some t276)) else (none)) else (none)) = some r := by first | (rw [hji4] at H; exact H) | (simp only [hji4] at H ⊢; exact H)
  have hji4_ : (if (l0_2.length : Int) < (ji3) then (l0_2.length : Int) else (ji3)) = ji4 := hji4
  by_cases c5 : 0 ≤ (ji4)
  · rw [if_pos c5] at H
    have c5b0 := eq_true c5
    have c5b1 : decide (0 ≤ (ji4)) = true := decide_eq_true c5
    clear c5
    by_cases c6 : (ji4) ≤ (l0_2.length : Int)
    · rw [if_pos c6] at H
      have c6b0 := eq_true c6
      have c6b1 : decide ((ji4) ≤ (l0_2.length : Int)) = true := decide_eq_true c6
      clear c6
      obtain ⟨y272, hy272⟩ : ∃ y_ : List (S34), y_ = (l0_2.take ((ji4) : Int).toNat) := ⟨_, rfl⟩
      replace H : ((api_Msg_38.f y272).bind fun t276 => (some t276)) = some r := by first | (rw [hy272]; with_reducible exact H) | (have H2_ := (Option.bind_some _ _).symm.trans H; rw [hy272]; with_reducible exact H2_) | (have H2_ := (Option.bind_some _ _).symm.trans H; with_reducible exact H2_) | with_reducible exact H | (rw [hy272]; exact H) | exact H
      have Ny272 := Aside0.mk hy272
      clear hy272
      replace H := Option.bind_eq_some_iff.mp H
      obtain ⟨t276, A70, H⟩ := H
      replace H : (some t276) = some r := H
      have A7 := Aside0.mk A70
      clear A70
      obtain rfl := Option.some.inj H
      go_enter Try.func24, Try.ntmps24
      go_wp2_with (first | ((with_reducible refine gate_dst (N := 2) rfl ?_); refine box_event ?hg (N := 2) ?hd (cs := #[.int .i64 a0_0, .int .i64 a0_1, .slice A0_2 l0_2.length c0_2]) (t := 41) ?hr ?_; (case hd => rfl); (case hg => rfl); (case hr => first | (go_simp; done) | (go_simp; rfl)); intro gb271 hg w8 hbox hb; have n0_ := Aside0.mk (below_step (by repeat (first | (with_reducible first | exact HB.out | apply below_alloc | apply pw_below_drewN | apply below_drew1) | exact HB.out)) hb); have n1_ := Aside0.mk (hbox); have n2_ := Aside0.mk ((by rw [hg]; exact (below_size (by repeat (first | (with_reducible first | exact HB.out | apply below_alloc | apply pw_below_drewN | apply below_drew1) | exact HB.out))) : w.heap.size ≤ gb271)); have n3_ := Aside0.mk ((by rw [hg]; exact (below_size (by repeat (first | (with_reducible first | exact HB.out | apply below_alloc | apply pw_below_drewN | apply below_drew1) | exact HB.out))) : w.heap.size ≤ gb271)); clear HB; have HB := n0_; have BK271 := n1_; have GW271 := n2_; have GE271 := n3_; clear n0_ n1_ n2_ n3_; clear hb hbox hg; have hcz9_0 : w8.cell? ⟨gb271, 0, none⟩ = some (.int .i64 a0_0) := (blk_cell BK271.out 0).trans rfl; have hcz9_1 : w8.cell? ⟨gb271, 1, none⟩ = some (.int .i64 a0_1) := (blk_cell BK271.out 1).trans rfl; have hcz9_2 : w8.cell? ⟨gb271, 2, none⟩ = some (.slice A0_2 l0_2.length c0_2) := (blk_cell BK271.out 2).trans rfl; have hfz9_0 := blk_frozen BK271.out 0; have hfz9_1 := blk_frozen BK271.out 1; have hfz9_2 := blk_frozen BK271.out 2; have q10 : ((ji4) : Int) ≤ ((l0_2.length : Int) : Int) := of_decide_eq_true (by first | (with_reducible assumption) | assumption); obtain ⟨i010, hi010, _, hsz10, _⟩ := info_parts info34; have hroom10 : l0_2.length ≤ c0_2 := HC0_2.out; have hC10 : Kd.C k34 _ A0_2 l0_2.length l0_2 := HR0_2.out; have hcut10 := cut_to (P := Try.prog) 25 34 .i64 Try.underlying25 hi010 A0_2 l0_2.length c0_2 (ji4) (of_decide_eq_true (by first | (with_reducible assumption) | assumption)) q10 hroom10; have hr10 := Kd.C_take (m := ((ji4) : Int).toNat) hC10 (by omega); have hy10 : y272.length = ((ji4) : Int).toNat := (by rw [Ny272.out, List.length_take]; omega); rw [← Ny272.out] at hr10; rw [← hy10] at hcut10; have HR275 := Aside0.mk hr10; have HC275 := Aside0.mk (show y272.length ≤ c0_2 from by omega); clear hr10 hC10 hroom10 hi010 hsz10; have KY10 := Aside0.mk hy10; clear hy10; replace q10 := eq_true q10) | ((with_reducible refine gate_callee (f := 38) rfl ?_); refine goesL_ (some 14) rfl rfl Try.func38 (by kernel_rfl) rfl #[.slice A0_2 y272.length c0_2] rfl (by (try simp only [List.map_toArray, List.map_cons, List.map_nil]); first | done | rfl | (simp only [List.length_drop, List.length_take]; rfl)) ?_; (with_reducible refine (api_Msg_38.calls _ _ y272 t276 _ ?side1 ?side2 A7.out).mono ?_); (case side1 => repeat (first | exact (Kd.C_below HR275.out HB.out) | (with_reducible refine Kd.C_alloc ?_ _) | (with_reducible refine Kd.C_drewN ?_ _) | (with_reducible refine Kd.C_drew ?_))); (case side2 => exact HC275.out); rintro e w11 ⟨v277, rfl, ho0, hb⟩; refine ⟨_, rfl, ?_⟩; have n0_ := Aside0.mk (Kd.R_lower ho0 (below_size (by repeat (first | (with_reducible first | exact HB.out | apply below_alloc | apply pw_below_drewN | apply below_drew1 | refine below_set ?_ GE271.out) | exact HB.out)))); have n1_ := Aside0.mk (blk_below (g := gb271) (o := .cells #[.int .i64 a0_0, .int .i64 a0_1, .slice A0_2 l0_2.length c0_2] 41 (0, 0)) (by (with_reducible repeat (first | refine blk_drewN ?_ _ | refine blk_drew ?_ | refine blk_alloc ?_ _)); exact BK271.out) hb); have n2_ := Aside0.mk (below_step (by repeat (first | (with_reducible first | exact HB.out | apply below_alloc | apply pw_below_drewN | apply below_drew1 | refine below_set ?_ GE271.out) | exact HB.out)) hb); clear BK271; clear HB; have HO278 := n0_; have BK271 := n1_; have HB := n2_; clear n0_ n1_ n2_; (try clear hb); (try clear hb2); (try clear hk); (try clear hi); (try clear ho0)))
      go_ret
      exact ⟨_, by first | rfl | (simp [errW_none, errW_some] <;> rfl) | (simp only [← hji3, ← hji4]; first | rfl | (simp [errW_none, errW_some] <;> rfl)) | (simp [*, errW_none, errW_some] <;> rfl), by (with_reducible repeat (first | apply Kd.R_alloc | apply Kd.R_drewN | apply Kd.R_drew)); exact HO278.out, by repeat (first | (with_reducible first | exact HB.out | apply below_alloc | apply pw_below_drewN | apply below_drew1 | refine below_set ?_ GE271.out) | exact HB.out)⟩
    · rw [if_neg c6] at H
      exact absurd H (by simp)
  · rw [if_neg c5] at H
    exact absurd H (by simp)

/-! ### wayfinderref15_First: function 25 -/
def wayfinderref15_First.l0 : Nat → Int → List (S34) → Int → Int → Int → List (S34) → Option ((List (S34)))
  | 0, _, _, _, _, _, _ => none
  | k + 1, x1, x5, x6, x280000, x280001, x280002 => if x6 < (x280002.length : Int) then (if x6 < x1 then (if 0 ≤ x6 then (if x5.length < 1759218604441 then (wayfinderref15_First.l0 k x1 (x5 ++ [(⟨(rd_T34 x280002 x6).f0, (rd_T34 x280002 x6).f1, (rd_T34 x280002 x6).f2, (rd_T34 x280002 x6).f3, (⟨(⟨(rd_T34 x280002 x6).f4.f0.f0, (rd_T34 x280002 x6).f4.f0.f1⟩ : S28), (rd_T34 x280002 x6).f4.f1, (rd_T34 x280002 x6).f4.f2, (⟨(rd_T34 x280002 x6).f4.f3.f0, (rd_T34 x280002 x6).f4.f3.f1⟩ : S30)⟩ : S32)⟩ : S34)]) (wrap64 (x6 + 1)) x280000 x280001 x280002) else (none)) else (none)) else (some x5)) else (some x5)
def wayfinderref15_First.f (k : Nat) (a0_0 : Int) (a0_1 : Int) (l0_2 : List (S34)) (a1 : Int) : Option ((List (S34))) := wayfinderref15_First.l0 k a1 ([] : List (S34)) 0 a0_0 a0_1 l0_2
theorem wayfinderref15_First.mono_l : ∀ k, (∀ y0 y1 y2 y3 y4 y5, LeO (wayfinderref15_First.l0 k y0 y1 y2 y3 y4 y5) (wayfinderref15_First.l0 (k + 1) y0 y1 y2 y3 y4 y5))
  | 0 => fun _ _ _ _ _ _ r h => by simp [wayfinderref15_First.l0] at h
  | k + 1 => by
    have ih0 := wayfinderref15_First.mono_l k
    · intro y0 y1 y2 y3 y4 y5
      unfold wayfinderref15_First.l0
      repeat' first
      | (with_reducible exact ih0 _ _ _ _ _ _)
      | (with_reducible exact LeO.refl _)
      | (with_reducible exact LeO.none _)
      | (with_reducible refine LeO.ite ?_ ?_)
      | (with_reducible refine LeO.bind ?_ (fun _ => ?_))
      | exact ih0 _ _ _ _ _ _
      | exact LeO.none _
      | refine LeO.ite ?_ ?_
      | refine LeO.bind ?_ (fun _ => ?_)
theorem wayfinderref15_First.mono : ∀ a0 a1 a2 a3 k, LeO (wayfinderref15_First.f k a0 a1 a2 a3) (wayfinderref15_First.f (k + 1) a0 a1 a2 a3) := by
  intro a0 a1 a2 a3 k
  have ih0 := wayfinderref15_First.mono_l k
  unfold wayfinderref15_First.f
  repeat' first
      | (with_reducible exact ih0 _ _ _ _ _ _)
      | (with_reducible exact LeO.refl _)
      | (with_reducible exact LeO.none _)
      | (with_reducible refine LeO.ite ?_ ?_)
      | (with_reducible refine LeO.bind ?_ (fun _ => ?_))
      | exact ih0 _ _ _ _ _ _
      | exact LeO.none _
      | refine LeO.ite ?_ ?_
      | refine LeO.bind ?_ (fun _ => ?_)
set_option maxHeartbeats 8000000 in
set_option maxRecDepth 100000 in
theorem wayfinderref15_First.calls (k : Nat) (a0_0 : Int) (a0_1 : Int) (A0_2 : Option Addr) (c0_2 : Nat) (l0_2 : List (S34)) (a1 : Int) (r : List (S34)) (w : World) (hr0_2 : Kd.C k34 w A0_2 l0_2.length l0_2) (hc0_2 : l0_2.length ≤ c0_2) (h : wayfinderref15_First.f k a0_0 a0_1 l0_2 a1 = some r) :
    Calls Try.prog 25 #[.agg #[.int .i64 a0_0, .int .i64 a0_1, .slice A0_2 l0_2.length c0_2], .int .i64 a1] w fun e w' => ∃ v0_ : Value, e = .returned (v0_) ∧ Kd.R k34 34 w' w.heap.size (fun _ => True) v0_ r ∧ Below w.heap.size w w' := by
  have hu41 := Try.underlying41
  have hu34 := Try.underlying34
  have HR0_2 := Aside0.mk hr0_2
  have HC0_2 := Aside0.mk hc0_2
  clear hr0_2 hc0_2
  have HB := Aside0.mk (Below.refl w.heap.size w)
  have H : (wayfinderref15_First.l0 k a1 ([] : List (S34)) 0 a0_0 a0_1 l0_2) = some r := h
  clear h
  have H' := Aside0.mk H
  clear H
  go_enter Try.func25, Try.ntmps25
  go_wp2_with (first | ((with_reducible refine gate_dst (N := 2) rfl ?_); refine box_event ?hg (N := 2) ?hd (cs := #[.int .i64 a0_0, .int .i64 a0_1, .slice A0_2 l0_2.length c0_2]) (t := 41) ?hr ?_; (case hd => rfl); (case hg => rfl); (case hr => first | (go_simp; done) | (go_simp; rfl)); intro gb279 hg w3 hbox hb; have n0_ := Aside0.mk (below_step (by repeat (first | (with_reducible first | exact HB.out | apply below_alloc | apply pw_below_drewN | apply below_drew1) | exact HB.out)) hb); have n1_ := Aside0.mk (hbox); have n2_ := Aside0.mk ((by rw [hg]; exact (below_size (by repeat (first | (with_reducible first | exact HB.out | apply below_alloc | apply pw_below_drewN | apply below_drew1) | exact HB.out))) : w.heap.size ≤ gb279)); have n3_ := Aside0.mk ((by rw [hg]; exact (below_size (by repeat (first | (with_reducible first | exact HB.out | apply below_alloc | apply pw_below_drewN | apply below_drew1) | exact HB.out))) : w.heap.size ≤ gb279)); clear HB; have HB := n0_; have BK279 := n1_; have GW279 := n2_; have GE279 := n3_; clear n0_ n1_ n2_ n3_; clear hb hbox hg))
  go_loopg [5, 6] k (fun kq v5 v6 w' => ∃ (x5_1 : List (S34)) (x6_1 : Int), v6 = .int .i64 x6_1 ∧ Aside0 (wayfinderref15_First.l0 kq a1 x5_1 x6_1 a0_0 a0_1 l0_2 = some r) ∧ Aside0 (kq ≤ k) ∧ Aside0 (Kd.R k34 34 w' w.heap.size (fun _ => True) v5 x5_1) ∧ Aside0 (w'.heap[gb279]? = some (.cells #[.int .i64 a0_0, .int .i64 a0_1, (.slice A0_2 l0_2.length c0_2)] 41 (0, 0))) ∧ Aside0 (Below w.heap.size w w'))
  case atStart => exact ⟨(([] : List (S34))), (0), (by first | rfl | (simp; done) | (simp [*]; done)), H', ⟨Nat.le_refl _⟩, ⟨by first | exact Kd.R_nil _ _ _ _ _ | exact Kd.N_nil _ _ _ _ _ | exact Kd.V_nil _ _ _ _ _ | exact Kd.Q_nil _ _ _ _ _ | exact Kd.S_nil _ _ _ _ _⟩, ⟨by (with_reducible repeat (first | refine blk_drewN ?_ _ | refine blk_drew ?_ | refine blk_alloc ?_ _)); exact BK279.out⟩, ⟨by repeat (first | (with_reducible first | exact HB.out | apply below_alloc | apply pw_below_drewN | apply below_drew1 | refine below_set ?_ GE279.out) | exact HB.out)⟩⟩
  case round =>
    clear H'
    try clear c2
    try clear p2
    obtain ⟨x5_1, x6_1, rfl, HA, HK1, HO_5, BK279, HB⟩ := hrel
    cases gk with
    | zero => exact absurd HA.out (by simp [wayfinderref15_First.l0])
    | succ k1 =>
      have H := HA.out
      clear HA
      simp only [wayfinderref15_First.l0] at H
      by_cases c4 : x6_1 < (l0_2.length : Int)
      · rw [if_pos c4] at H
        have c4b0 : decide (x6_1 < (l0_2.length : Int)) = true := decide_eq_true c4
        clear c4
        by_cases c5 : x6_1 < a1
        · rw [if_pos c5] at H
          have c5b0 : decide (x6_1 < a1) = true := decide_eq_true c5
          clear c5
          by_cases c6 : 0 ≤ x6_1
          · rw [if_pos c6] at H
            have c6b0 : decide (0 ≤ x6_1) = true := decide_eq_true c6
            clear c6
            by_cases c7 : x5_1.length < 1759218604441
            · rw [if_pos c7] at H
              have LMc7 := Aside0.mk c7
              clear c7
              obtain ⟨y281, hy281⟩ : ∃ y_ : List (S34), y_ = (x5_1 ++ [(⟨(rd_T34 l0_2 x6_1).f0, (rd_T34 l0_2 x6_1).f1, (rd_T34 l0_2 x6_1).f2, (rd_T34 l0_2 x6_1).f3, (⟨(⟨(rd_T34 l0_2 x6_1).f4.f0.f0, (rd_T34 l0_2 x6_1).f4.f0.f1⟩ : S28), (rd_T34 l0_2 x6_1).f4.f1, (rd_T34 l0_2 x6_1).f4.f2, (⟨(rd_T34 l0_2 x6_1).f4.f3.f0, (rd_T34 l0_2 x6_1).f4.f3.f1⟩ : S30)⟩ : S32)⟩ : S34)]) := ⟨_, rfl⟩
              replace H : (wayfinderref15_First.l0 k1 a1 y281 (wrap64 (x6_1 + 1)) a0_0 a0_1 l0_2) = some r := by first | (rw [hy281]; with_reducible exact H) | (have H2_ := (Option.bind_some _ _).symm.trans H; rw [hy281]; with_reducible exact H2_) | (have H2_ := (Option.bind_some _ _).symm.trans H; with_reducible exact H2_) | with_reducible exact H | (rw [hy281]; exact H) | exact H
              have Ny281 := Aside0.mk hy281
              clear hy281
              have H' := Aside0.mk H
              clear H
              have hcz8_0 : wr.cell? ⟨gb279, 0, none⟩ = some (.int .i64 a0_0) := (blk_cell BK279.out 0).trans rfl
              have hcz8_1 : wr.cell? ⟨gb279, 1, none⟩ = some (.int .i64 a0_1) := (blk_cell BK279.out 1).trans rfl
              have hcz8_2 : wr.cell? ⟨gb279, 2, none⟩ = some (.slice A0_2 l0_2.length c0_2) := (blk_cell BK279.out 2).trans rfl
              have hfz8_0 := blk_frozen BK279.out 0
              have hfz8_1 := blk_frozen BK279.out 1
              have hfz8_2 := blk_frozen BK279.out 2
              have p280 : 0 ≤ (x6_1 : Int) := of_decide_eq_true (by first | (with_reducible assumption) | assumption)
              have q280 : x6_1 < (l0_2.length : Int) := of_decide_eq_true (by first | (with_reducible assumption) | assumption)
              obtain ⟨ad280, e280, hx280_0, hx280_1, hx280_2, hx280_3, hx280_4, hx280_5, hx280_6, hx280_7, hx280_8, hx280_9⟩ := at_T34 HR0_2.out x6_1 p280 q280
              cases e280
              replace hx280_0 := (HB.out.cell (World.block_lt_of_cell? w _ hx280_0)).trans hx280_0
              replace hx280_1 := (HB.out.cell (World.block_lt_of_cell? w _ hx280_1)).trans hx280_1
              replace hx280_2 := (HB.out.cell (World.block_lt_of_cell? w _ hx280_2)).trans hx280_2
              replace hx280_3 := (HB.out.cell (World.block_lt_of_cell? w _ hx280_3)).trans hx280_3
              replace hx280_4 := (HB.out.cell (World.block_lt_of_cell? w _ hx280_4)).trans hx280_4
              replace hx280_5 := (HB.out.cell (World.block_lt_of_cell? w _ hx280_5)).trans hx280_5
              replace hx280_6 := (HB.out.cell (World.block_lt_of_cell? w _ hx280_6)).trans hx280_6
              replace hx280_7 := (HB.out.cell (World.block_lt_of_cell? w _ hx280_7)).trans hx280_7
              replace hx280_8 := (HB.out.cell (World.block_lt_of_cell? w _ hx280_8)).trans hx280_8
              replace hx280_9 := (HB.out.cell (World.block_lt_of_cell? w _ hx280_9)).trans hx280_9
              replace p280 := eq_true p280
              replace q280 := eq_true q280
              go_wp2_with (first | ((with_reducible refine gate_builtin (b := .append) (xs := #[.tmp 19, .tmp 25]) rfl ?_); at_builtin; refine Kd.R_append k34 (w0 := w) w.heap.size rfl (.tmp 19) (.tmp 25) 25 34 (.agg #[(.int .i64 0), (.int .i64 0), (.int .i64 0), (.int .i64 0), (.int .i64 0), (.int .i64 0), (.int .i64 0), (.int .i64 0), (.int .i64 0), (.int .i64 0)]) 80 rfl Try.underlying25 info34 rfl (by decide) (by omega) u5 x5_1 (⟨(rd_T34 l0_2 x6_1).f0, (rd_T34 l0_2 x6_1).f1, (rd_T34 l0_2 x6_1).f2, (rd_T34 l0_2 x6_1).f3, (⟨(⟨(rd_T34 l0_2 x6_1).f4.f0.f0, (rd_T34 l0_2 x6_1).f4.f0.f1⟩ : S28), (rd_T34 l0_2 x6_1).f4.f1, (rd_T34 l0_2 x6_1).f4.f2, (⟨(rd_T34 l0_2 x6_1).f4.f3.f0, (rd_T34 l0_2 x6_1).f4.f3.f1⟩ : S30)⟩ : S32)⟩ : S34) [.int .i64 ((rd_T34 l0_2 x6_1).f0), .int .i64 ((rd_T34 l0_2 x6_1).f1), .int .i64 ((rd_T34 l0_2 x6_1).f2), .int .i64 ((rd_T34 l0_2 x6_1).f3), .int .i64 ((rd_T34 l0_2 x6_1).f4.f0.f0), .int .i64 ((rd_T34 l0_2 x6_1).f4.f0.f1), .int .i64 ((rd_T34 l0_2 x6_1).f4.f1), .int .i64 ((rd_T34 l0_2 x6_1).f4.f2), .int .i64 ((rd_T34 l0_2 x6_1).f4.f3.f0), .int .i64 ((rd_T34 l0_2 x6_1).f4.f3.f1)] (fun _ => True) (fun _ => False) rfl rfl ?aP (fun _ hk => hk.elim) ?aF ?aO ?aB ?aS ?aL ?_; (case aP => exact k34_mkM _ _ _ (⟨(rd_T34 l0_2 x6_1).f0, (rd_T34 l0_2 x6_1).f1, (rd_T34 l0_2 x6_1).f2, (rd_T34 l0_2 x6_1).f3, (⟨(⟨(rd_T34 l0_2 x6_1).f4.f0.f0, (rd_T34 l0_2 x6_1).f4.f0.f1⟩ : S28), (rd_T34 l0_2 x6_1).f4.f1, (rd_T34 l0_2 x6_1).f4.f2, (⟨(rd_T34 l0_2 x6_1).f4.f3.f0, (rd_T34 l0_2 x6_1).f4.f3.f1⟩ : S30)⟩ : S32)⟩ : S34)); (case aB => exact (by repeat (first | (with_reducible first | exact HB.out | apply below_alloc | apply pw_below_drewN | apply below_drew1 | refine below_set ?_ GE279.out) | exact HB.out))); (case aF => exact (fun _ _ => trivial)); (case aO => exact (by (with_reducible repeat (first | apply Kd.R_alloc | apply Kd.R_drewN | apply Kd.R_drew)); exact HO_5.out)); (case aS => exact (below_size (by repeat (first | (with_reducible first | exact HB.out | apply below_alloc | apply pw_below_drewN | apply below_drew1 | refine below_set ?_ GE279.out) | exact HB.out)))); (case aL => have := LMc7.out; omega); intro v282 w9 ho hb hg hat; rw [← Ny281.out] at ho; have n0_ := Aside0.mk (blk_grown (g := gb279) (o := .cells #[.int .i64 a0_0, .int .i64 a0_1, .slice (some ad280) l0_2.length c0_2] 41 (0, 0)) (by (with_reducible repeat (first | refine blk_drewN ?_ _ | refine blk_drew ?_ | refine blk_alloc ?_ _)); exact BK279.out) hg (Kd.R_ne HO_5.out BK279.out (by decide))); have n1_ := Aside0.mk (hb); have n2_ := Aside0.mk (ho); clear BK279; clear HB; clear HO_5; have BK279 := n0_; have HB := n1_; have HO283 := n2_; clear n0_ n1_ n2_; clear ho hb hg hat))
              go_roundg k1
              case measure => have := HK1.out; omega
              case rel => exact ⟨(y281), (wrap64 (x6_1 + 1)), (by first | rfl | (simp; done) | (simp [*]; done)), H', ⟨by have := HK1.out; omega⟩, ⟨by (with_reducible repeat (first | apply Kd.R_alloc | apply Kd.R_drewN | apply Kd.R_drew)); exact HO283.out⟩, ⟨by (with_reducible repeat (first | refine blk_drewN ?_ _ | refine blk_drew ?_ | refine blk_alloc ?_ _)); exact BK279.out⟩, ⟨by repeat (first | (with_reducible first | exact HB.out | apply below_alloc | apply pw_below_drewN | apply below_drew1 | refine below_set ?_ GE279.out) | exact HB.out)⟩⟩
            · rw [if_neg c7] at H
              exact absurd H (by simp)
          · rw [if_neg c6] at H
            exact absurd H (by simp)
        · rw [if_neg c5] at H
          have c5b0 : decide (x6_1 < a1) = false := decide_eq_false c5
          clear c5
          obtain rfl := Option.some.inj H
          have hcz10_0 : wr.cell? ⟨gb279, 0, none⟩ = some (.int .i64 a0_0) := (blk_cell BK279.out 0).trans rfl
          have hcz10_1 : wr.cell? ⟨gb279, 1, none⟩ = some (.int .i64 a0_1) := (blk_cell BK279.out 1).trans rfl
          have hcz10_2 : wr.cell? ⟨gb279, 2, none⟩ = some (.slice A0_2 l0_2.length c0_2) := (blk_cell BK279.out 2).trans rfl
          have hfz10_0 := blk_frozen BK279.out 0
          have hfz10_1 := blk_frozen BK279.out 1
          have hfz10_2 := blk_frozen BK279.out 2
          go_wp2
          go_ret
          exact ⟨_, by first | rfl | (simp [errW_none, errW_some] <;> rfl) | (simp [*, errW_none, errW_some] <;> rfl), by (with_reducible repeat (first | apply Kd.R_alloc | apply Kd.R_drewN | apply Kd.R_drew)); exact HO_5.out, by repeat (first | (with_reducible first | exact HB.out | apply below_alloc | apply pw_below_drewN | apply below_drew1 | refine below_set ?_ GE279.out) | exact HB.out)⟩
      · rw [if_neg c4] at H
        have c4b0 : decide (x6_1 < (l0_2.length : Int)) = false := decide_eq_false c4
        clear c4
        obtain rfl := Option.some.inj H
        have hcz11_0 : wr.cell? ⟨gb279, 0, none⟩ = some (.int .i64 a0_0) := (blk_cell BK279.out 0).trans rfl
        have hcz11_1 : wr.cell? ⟨gb279, 1, none⟩ = some (.int .i64 a0_1) := (blk_cell BK279.out 1).trans rfl
        have hcz11_2 : wr.cell? ⟨gb279, 2, none⟩ = some (.slice A0_2 l0_2.length c0_2) := (blk_cell BK279.out 2).trans rfl
        have hfz11_0 := blk_frozen BK279.out 0
        have hfz11_1 := blk_frozen BK279.out 1
        have hfz11_2 := blk_frozen BK279.out 2
        go_wp2
        go_ret
        exact ⟨_, by first | rfl | (simp [errW_none, errW_some] <;> rfl) | (simp [*, errW_none, errW_some] <;> rfl), by (with_reducible repeat (first | apply Kd.R_alloc | apply Kd.R_drewN | apply Kd.R_drew)); exact HO_5.out, by repeat (first | (with_reducible first | exact HB.out | apply below_alloc | apply pw_below_drewN | apply below_drew1 | refine below_set ?_ GE279.out) | exact HB.out)⟩

/-! ### wayfinderref15_New: function 26 -/
def wayfinderref15_New.f (a0 : Int) : Option (Int × Int × (List (S34))) := some (a0, 1, ([] : List (S34)))
set_option maxHeartbeats 8000000 in
set_option maxRecDepth 100000 in
theorem wayfinderref15_New.calls (a0 : Int) (r1 : Int) (r2 : Int) (r3 : List (S34)) (w : World) (h : wayfinderref15_New.f a0 = some (r1, r2, r3)) :
    Calls Try.prog 26 #[.int .i64 a0] w fun e w' => ∃ v2_ : Value, e = .returned (.agg #[.int .i64 r1, .int .i64 r2, v2_]) ∧ Kd.R k34 34 w' w.heap.size (fun _ => True) v2_ r3 ∧ Below w.heap.size w w' := by
  have hu41 := Try.underlying41
  have HB := Aside0.mk (Below.refl w.heap.size w)
  have H : (some (a0, 1, ([] : List (S34)))) = some (r1, r2, r3) := h
  clear h
  simp only [Option.some.injEq, Prod.mk.injEq] at H
  obtain ⟨rfl, rfl, rfl⟩ := H
  go_enter Try.func26, Try.ntmps26
  go_wp2_with (first | ((with_reducible refine gate_dst (N := 2) rfl ?_); refine box_event ?hg (N := 2) ?hd (cs := #[.int .i64 0, .int .i64 0, .slice none 0 0]) (t := 41) ?hr ?_; (case hd => rfl); (case hg => rfl); (case hr => first | (go_simp; done) | (go_simp; rfl)); intro gb284 hg w2 hbox hb; have n0_ := Aside0.mk (below_step (by repeat (first | (with_reducible first | exact HB.out | apply below_alloc | apply pw_below_drewN | apply below_drew1) | exact HB.out)) hb); have n1_ := Aside0.mk (hbox); have n2_ := Aside0.mk ((by rw [hg]; exact (below_size (by repeat (first | (with_reducible first | exact HB.out | apply below_alloc | apply pw_below_drewN | apply below_drew1) | exact HB.out))) : w.heap.size ≤ gb284)); have n3_ := Aside0.mk ((by rw [hg]; exact (below_size (by repeat (first | (with_reducible first | exact HB.out | apply below_alloc | apply pw_below_drewN | apply below_drew1) | exact HB.out))) : w.heap.size ≤ gb284)); clear HB; have HB := n0_; have BK284 := n1_; have GW284 := n2_; have GE284 := n3_; clear n0_ n1_ n2_ n3_; clear hb hbox hg; have hcz3_0 : w2.cell? ⟨gb284, 0, none⟩ = some (.int .i64 0) := (blk_cell BK284.out 0).trans rfl; have hcz3_1 : w2.cell? ⟨gb284, 1, none⟩ = some (.int .i64 0) := (blk_cell BK284.out 1).trans rfl; have hcz3_2 : w2.cell? ⟨gb284, 2, none⟩ = some (.slice none 0 0) := (blk_cell BK284.out 2).trans rfl; have hfz3_0 := blk_frozen BK284.out 0; have hfz3_1 := blk_frozen BK284.out 1; have hfz3_2 := blk_frozen BK284.out 2))
  refine bodyPost_ret (results_cell_row rfl _ _ gb284 41 #[.int .i64 a0, .int .i64 1, .slice none 0 0] (0, 0) _ rfl (by (with_reducible repeat (first | refine blk_drewN ?_ _ | refine blk_drew ?_ | refine blk_alloc ?_ _)); refine blk_put (cs := #[.int .i64 a0, .int .i64 1, .slice none 0 0]) ?_ 2 _ rfl; (with_reducible repeat (first | refine blk_drewN ?_ _ | refine blk_drew ?_ | refine blk_alloc ?_ _)); refine blk_put (cs := #[.int .i64 a0, .int .i64 0, .slice none 0 0]) ?_ 1 _ rfl; (with_reducible repeat (first | refine blk_drewN ?_ _ | refine blk_drew ?_ | refine blk_alloc ?_ _)); refine blk_put (cs := #[.int .i64 0, .int .i64 0, .slice none 0 0]) ?_ 0 _ rfl; (with_reducible repeat (first | refine blk_drewN ?_ _ | refine blk_drew ?_ | refine blk_alloc ?_ _)); exact BK284.out) Try.underlying41 rfl (by kernel_rfl)) rfl ?_
  exact ⟨_, by first | rfl | (simp [errW_none, errW_some] <;> rfl) | (simp [*, errW_none, errW_some] <;> rfl), by first | exact Kd.R_nil _ _ _ _ _ | exact Kd.N_nil _ _ _ _ _ | exact Kd.V_nil _ _ _ _ _ | exact Kd.Q_nil _ _ _ _ _ | exact Kd.S_nil _ _ _ _ _, by repeat (first | (with_reducible first | exact HB.out | apply below_alloc | apply pw_below_drewN | apply below_drew1 | refine below_set ?_ GE284.out) | exact HB.out)⟩

/-! ### wayfinderref15_Take: function 27 -/
def wayfinderref15_Take.f (a0 : Int) (a1 : Int) (a2_0 : Int) (a2_1 : Int) (a2_2 : Int) (a2_3 : Int) (a2_4 : Int) (a2_5 : Int) (a2_6 : Int) (a2_7 : Int) (a2_8 : Int) (a2_9 : Int) : Option (Int) := if a2_1 = a0 then (if a2_2 ≤ a1 then (some 6) else (if a2_2 = (wrap64 (a1 + 1)) then (some 0) else (some 3))) else (some 8)
set_option maxHeartbeats 8000000 in
set_option maxRecDepth 100000 in
theorem wayfinderref15_Take.calls (a0 : Int) (a1 : Int) (a2_0 : Int) (a2_1 : Int) (a2_2 : Int) (a2_3 : Int) (a2_4 : Int) (a2_5 : Int) (a2_6 : Int) (a2_7 : Int) (a2_8 : Int) (a2_9 : Int) (r : Int) (w : World) (h : wayfinderref15_Take.f a0 a1 a2_0 a2_1 a2_2 a2_3 a2_4 a2_5 a2_6 a2_7 a2_8 a2_9 = some r) :
    Calls Try.prog 27 #[.int .i64 a0, .int .i64 a1, .agg #[.int .i64 a2_0, .int .i64 a2_1, .int .i64 a2_2, .int .i64 a2_3, .int .i64 a2_4, .int .i64 a2_5, .int .i64 a2_6, .int .i64 a2_7, .int .i64 a2_8, .int .i64 a2_9]] w fun e w' => e = .returned (.int .i64 r) ∧ Below w.heap.size w w' := by
  have hu34 := Try.underlying34
  have HB := Aside0.mk (Below.refl w.heap.size w)
  have H : (if a2_1 = a0 then (if a2_2 ≤ a1 then (some 6) else (if a2_2 = (wrap64 (a1 + 1)) then (some 0) else (some 3))) else (some 8)) = some r := h
  clear h
  by_cases c4 : a2_1 = a0
  · rw [if_pos c4] at H
    have c4b0 : (a2_1 == a0) = true := beq_iff_eq.mpr c4
    have c4b1 : (a2_1 != a0) = false := bne_eq_false_iff_eq.mpr c4
    clear c4
    by_cases c5 : a2_2 ≤ a1
    · rw [if_pos c5] at H
      have c5b0 : decide (a2_2 ≤ a1) = true := decide_eq_true c5
      clear c5
      obtain rfl := Option.some.inj H
      go_enter Try.func27, Try.ntmps27
      go_wp2_with (first | ((with_reducible refine gate_dst (N := 5) rfl ?_); refine box_event ?hg (N := 5) ?hd (cs := #[.int .i64 a2_0, .int .i64 a2_1, .int .i64 a2_2, .int .i64 a2_3, .int .i64 a2_4, .int .i64 a2_5, .int .i64 a2_6, .int .i64 a2_7, .int .i64 a2_8, .int .i64 a2_9]) (t := 34) ?hr ?_; (case hd => rfl); (case hg => rfl); (case hr => first | (go_simp; done) | (go_simp; rfl)); intro gb285 hg w6 hbox hb; have n0_ := Aside0.mk (below_step (by repeat (first | (with_reducible first | exact HB.out | apply below_alloc | apply pw_below_drewN | apply below_drew1) | exact HB.out)) hb); have n1_ := Aside0.mk (hbox); have n2_ := Aside0.mk ((by rw [hg]; exact (below_size (by repeat (first | (with_reducible first | exact HB.out | apply below_alloc | apply pw_below_drewN | apply below_drew1) | exact HB.out))) : w.heap.size ≤ gb285)); have n3_ := Aside0.mk ((by rw [hg]; exact (below_size (by repeat (first | (with_reducible first | exact HB.out | apply below_alloc | apply pw_below_drewN | apply below_drew1) | exact HB.out))) : w.heap.size ≤ gb285)); clear HB; have HB := n0_; have BK285 := n1_; have GW285 := n2_; have GE285 := n3_; clear n0_ n1_ n2_ n3_; clear hb hbox hg; have hcz7_0 : w6.cell? ⟨gb285, 0, none⟩ = some (.int .i64 a2_0) := (blk_cell BK285.out 0).trans rfl; have hcz7_1 : w6.cell? ⟨gb285, 1, none⟩ = some (.int .i64 a2_1) := (blk_cell BK285.out 1).trans rfl; have hcz7_2 : w6.cell? ⟨gb285, 2, none⟩ = some (.int .i64 a2_2) := (blk_cell BK285.out 2).trans rfl; have hcz7_3 : w6.cell? ⟨gb285, 3, none⟩ = some (.int .i64 a2_3) := (blk_cell BK285.out 3).trans rfl; have hcz7_4 : w6.cell? ⟨gb285, 4, none⟩ = some (.int .i64 a2_4) := (blk_cell BK285.out 4).trans rfl; have hcz7_5 : w6.cell? ⟨gb285, 5, none⟩ = some (.int .i64 a2_5) := (blk_cell BK285.out 5).trans rfl; have hcz7_6 : w6.cell? ⟨gb285, 6, none⟩ = some (.int .i64 a2_6) := (blk_cell BK285.out 6).trans rfl; have hcz7_7 : w6.cell? ⟨gb285, 7, none⟩ = some (.int .i64 a2_7) := (blk_cell BK285.out 7).trans rfl; have hcz7_8 : w6.cell? ⟨gb285, 8, none⟩ = some (.int .i64 a2_8) := (blk_cell BK285.out 8).trans rfl; have hcz7_9 : w6.cell? ⟨gb285, 9, none⟩ = some (.int .i64 a2_9) := (blk_cell BK285.out 9).trans rfl; have hfz7_0 := blk_frozen BK285.out 0; have hfz7_1 := blk_frozen BK285.out 1; have hfz7_2 := blk_frozen BK285.out 2; have hfz7_3 := blk_frozen BK285.out 3; have hfz7_4 := blk_frozen BK285.out 4; have hfz7_5 := blk_frozen BK285.out 5; have hfz7_6 := blk_frozen BK285.out 6; have hfz7_7 := blk_frozen BK285.out 7; have hfz7_8 := blk_frozen BK285.out 8; have hfz7_9 := blk_frozen BK285.out 9))
      go_ret
      exact ⟨by first | rfl | (simp [errW_none, errW_some] <;> rfl) | (simp [*, errW_none, errW_some] <;> rfl), by repeat (first | (with_reducible first | exact HB.out | apply below_alloc | apply pw_below_drewN | apply below_drew1 | refine below_set ?_ GE285.out) | exact HB.out)⟩
    · rw [if_neg c5] at H
      have c5b0 : decide (a2_2 ≤ a1) = false := decide_eq_false c5
      clear c5
      by_cases c8 : a2_2 = (wrap64 (a1 + 1))
      · rw [if_pos c8] at H
        have c8b0 : (a2_2 == (wrap64 (a1 + 1))) = true := beq_iff_eq.mpr c8
        have c8b1 : (a2_2 != (wrap64 (a1 + 1))) = false := bne_eq_false_iff_eq.mpr c8
        clear c8
        obtain rfl := Option.some.inj H
        go_enter Try.func27, Try.ntmps27
        go_wp2_with (first | ((with_reducible refine gate_dst (N := 5) rfl ?_); refine box_event ?hg (N := 5) ?hd (cs := #[.int .i64 a2_0, .int .i64 a2_1, .int .i64 a2_2, .int .i64 a2_3, .int .i64 a2_4, .int .i64 a2_5, .int .i64 a2_6, .int .i64 a2_7, .int .i64 a2_8, .int .i64 a2_9]) (t := 34) ?hr ?_; (case hd => rfl); (case hg => rfl); (case hr => first | (go_simp; done) | (go_simp; rfl)); intro gb285 hg w9 hbox hb; have n0_ := Aside0.mk (below_step (by repeat (first | (with_reducible first | exact HB.out | apply below_alloc | apply pw_below_drewN | apply below_drew1) | exact HB.out)) hb); have n1_ := Aside0.mk (hbox); have n2_ := Aside0.mk ((by rw [hg]; exact (below_size (by repeat (first | (with_reducible first | exact HB.out | apply below_alloc | apply pw_below_drewN | apply below_drew1) | exact HB.out))) : w.heap.size ≤ gb285)); have n3_ := Aside0.mk ((by rw [hg]; exact (below_size (by repeat (first | (with_reducible first | exact HB.out | apply below_alloc | apply pw_below_drewN | apply below_drew1) | exact HB.out))) : w.heap.size ≤ gb285)); clear HB; have HB := n0_; have BK285 := n1_; have GW285 := n2_; have GE285 := n3_; clear n0_ n1_ n2_ n3_; clear hb hbox hg; have hcz10_0 : w9.cell? ⟨gb285, 0, none⟩ = some (.int .i64 a2_0) := (blk_cell BK285.out 0).trans rfl; have hcz10_1 : w9.cell? ⟨gb285, 1, none⟩ = some (.int .i64 a2_1) := (blk_cell BK285.out 1).trans rfl; have hcz10_2 : w9.cell? ⟨gb285, 2, none⟩ = some (.int .i64 a2_2) := (blk_cell BK285.out 2).trans rfl; have hcz10_3 : w9.cell? ⟨gb285, 3, none⟩ = some (.int .i64 a2_3) := (blk_cell BK285.out 3).trans rfl; have hcz10_4 : w9.cell? ⟨gb285, 4, none⟩ = some (.int .i64 a2_4) := (blk_cell BK285.out 4).trans rfl; have hcz10_5 : w9.cell? ⟨gb285, 5, none⟩ = some (.int .i64 a2_5) := (blk_cell BK285.out 5).trans rfl; have hcz10_6 : w9.cell? ⟨gb285, 6, none⟩ = some (.int .i64 a2_6) := (blk_cell BK285.out 6).trans rfl; have hcz10_7 : w9.cell? ⟨gb285, 7, none⟩ = some (.int .i64 a2_7) := (blk_cell BK285.out 7).trans rfl; have hcz10_8 : w9.cell? ⟨gb285, 8, none⟩ = some (.int .i64 a2_8) := (blk_cell BK285.out 8).trans rfl; have hcz10_9 : w9.cell? ⟨gb285, 9, none⟩ = some (.int .i64 a2_9) := (blk_cell BK285.out 9).trans rfl; have hfz10_0 := blk_frozen BK285.out 0; have hfz10_1 := blk_frozen BK285.out 1; have hfz10_2 := blk_frozen BK285.out 2; have hfz10_3 := blk_frozen BK285.out 3; have hfz10_4 := blk_frozen BK285.out 4; have hfz10_5 := blk_frozen BK285.out 5; have hfz10_6 := blk_frozen BK285.out 6; have hfz10_7 := blk_frozen BK285.out 7; have hfz10_8 := blk_frozen BK285.out 8; have hfz10_9 := blk_frozen BK285.out 9))
        go_ret
        exact ⟨by first | rfl | (simp [errW_none, errW_some] <;> rfl) | (simp [*, errW_none, errW_some] <;> rfl), by repeat (first | (with_reducible first | exact HB.out | apply below_alloc | apply pw_below_drewN | apply below_drew1 | refine below_set ?_ GE285.out) | exact HB.out)⟩
      · rw [if_neg c8] at H
        have c8b0 : (a2_2 == (wrap64 (a1 + 1))) = false := beq_eq_false_iff_ne.mpr c8
        have c8b1 : (a2_2 != (wrap64 (a1 + 1))) = true := bne_iff_ne.mpr c8
        obtain rfl := Option.some.inj H
        go_enter Try.func27, Try.ntmps27
        go_wp2_with (first | ((with_reducible refine gate_dst (N := 5) rfl ?_); refine box_event ?hg (N := 5) ?hd (cs := #[.int .i64 a2_0, .int .i64 a2_1, .int .i64 a2_2, .int .i64 a2_3, .int .i64 a2_4, .int .i64 a2_5, .int .i64 a2_6, .int .i64 a2_7, .int .i64 a2_8, .int .i64 a2_9]) (t := 34) ?hr ?_; (case hd => rfl); (case hg => rfl); (case hr => first | (go_simp; done) | (go_simp; rfl)); intro gb285 hg w11 hbox hb; have n0_ := Aside0.mk (below_step (by repeat (first | (with_reducible first | exact HB.out | apply below_alloc | apply pw_below_drewN | apply below_drew1) | exact HB.out)) hb); have n1_ := Aside0.mk (hbox); have n2_ := Aside0.mk ((by rw [hg]; exact (below_size (by repeat (first | (with_reducible first | exact HB.out | apply below_alloc | apply pw_below_drewN | apply below_drew1) | exact HB.out))) : w.heap.size ≤ gb285)); have n3_ := Aside0.mk ((by rw [hg]; exact (below_size (by repeat (first | (with_reducible first | exact HB.out | apply below_alloc | apply pw_below_drewN | apply below_drew1) | exact HB.out))) : w.heap.size ≤ gb285)); clear HB; have HB := n0_; have BK285 := n1_; have GW285 := n2_; have GE285 := n3_; clear n0_ n1_ n2_ n3_; clear hb hbox hg; have hcz12_0 : w11.cell? ⟨gb285, 0, none⟩ = some (.int .i64 a2_0) := (blk_cell BK285.out 0).trans rfl; have hcz12_1 : w11.cell? ⟨gb285, 1, none⟩ = some (.int .i64 a2_1) := (blk_cell BK285.out 1).trans rfl; have hcz12_2 : w11.cell? ⟨gb285, 2, none⟩ = some (.int .i64 a2_2) := (blk_cell BK285.out 2).trans rfl; have hcz12_3 : w11.cell? ⟨gb285, 3, none⟩ = some (.int .i64 a2_3) := (blk_cell BK285.out 3).trans rfl; have hcz12_4 : w11.cell? ⟨gb285, 4, none⟩ = some (.int .i64 a2_4) := (blk_cell BK285.out 4).trans rfl; have hcz12_5 : w11.cell? ⟨gb285, 5, none⟩ = some (.int .i64 a2_5) := (blk_cell BK285.out 5).trans rfl; have hcz12_6 : w11.cell? ⟨gb285, 6, none⟩ = some (.int .i64 a2_6) := (blk_cell BK285.out 6).trans rfl; have hcz12_7 : w11.cell? ⟨gb285, 7, none⟩ = some (.int .i64 a2_7) := (blk_cell BK285.out 7).trans rfl; have hcz12_8 : w11.cell? ⟨gb285, 8, none⟩ = some (.int .i64 a2_8) := (blk_cell BK285.out 8).trans rfl; have hcz12_9 : w11.cell? ⟨gb285, 9, none⟩ = some (.int .i64 a2_9) := (blk_cell BK285.out 9).trans rfl; have hfz12_0 := blk_frozen BK285.out 0; have hfz12_1 := blk_frozen BK285.out 1; have hfz12_2 := blk_frozen BK285.out 2; have hfz12_3 := blk_frozen BK285.out 3; have hfz12_4 := blk_frozen BK285.out 4; have hfz12_5 := blk_frozen BK285.out 5; have hfz12_6 := blk_frozen BK285.out 6; have hfz12_7 := blk_frozen BK285.out 7; have hfz12_8 := blk_frozen BK285.out 8; have hfz12_9 := blk_frozen BK285.out 9))
        go_ret
        exact ⟨by first | rfl | (simp [errW_none, errW_some] <;> rfl) | (simp [*, errW_none, errW_some] <;> rfl), by repeat (first | (with_reducible first | exact HB.out | apply below_alloc | apply pw_below_drewN | apply below_drew1 | refine below_set ?_ GE285.out) | exact HB.out)⟩
  · rw [if_neg c4] at H
    have c4b0 : (a2_1 == a0) = false := beq_eq_false_iff_ne.mpr c4
    have c4b1 : (a2_1 != a0) = true := bne_iff_ne.mpr c4
    obtain rfl := Option.some.inj H
    go_enter Try.func27, Try.ntmps27
    go_wp2_with (first | ((with_reducible refine gate_dst (N := 5) rfl ?_); refine box_event ?hg (N := 5) ?hd (cs := #[.int .i64 a2_0, .int .i64 a2_1, .int .i64 a2_2, .int .i64 a2_3, .int .i64 a2_4, .int .i64 a2_5, .int .i64 a2_6, .int .i64 a2_7, .int .i64 a2_8, .int .i64 a2_9]) (t := 34) ?hr ?_; (case hd => rfl); (case hg => rfl); (case hr => first | (go_simp; done) | (go_simp; rfl)); intro gb285 hg w13 hbox hb; have n0_ := Aside0.mk (below_step (by repeat (first | (with_reducible first | exact HB.out | apply below_alloc | apply pw_below_drewN | apply below_drew1) | exact HB.out)) hb); have n1_ := Aside0.mk (hbox); have n2_ := Aside0.mk ((by rw [hg]; exact (below_size (by repeat (first | (with_reducible first | exact HB.out | apply below_alloc | apply pw_below_drewN | apply below_drew1) | exact HB.out))) : w.heap.size ≤ gb285)); have n3_ := Aside0.mk ((by rw [hg]; exact (below_size (by repeat (first | (with_reducible first | exact HB.out | apply below_alloc | apply pw_below_drewN | apply below_drew1) | exact HB.out))) : w.heap.size ≤ gb285)); clear HB; have HB := n0_; have BK285 := n1_; have GW285 := n2_; have GE285 := n3_; clear n0_ n1_ n2_ n3_; clear hb hbox hg; have hcz14_0 : w13.cell? ⟨gb285, 0, none⟩ = some (.int .i64 a2_0) := (blk_cell BK285.out 0).trans rfl; have hcz14_1 : w13.cell? ⟨gb285, 1, none⟩ = some (.int .i64 a2_1) := (blk_cell BK285.out 1).trans rfl; have hcz14_2 : w13.cell? ⟨gb285, 2, none⟩ = some (.int .i64 a2_2) := (blk_cell BK285.out 2).trans rfl; have hcz14_3 : w13.cell? ⟨gb285, 3, none⟩ = some (.int .i64 a2_3) := (blk_cell BK285.out 3).trans rfl; have hcz14_4 : w13.cell? ⟨gb285, 4, none⟩ = some (.int .i64 a2_4) := (blk_cell BK285.out 4).trans rfl; have hcz14_5 : w13.cell? ⟨gb285, 5, none⟩ = some (.int .i64 a2_5) := (blk_cell BK285.out 5).trans rfl; have hcz14_6 : w13.cell? ⟨gb285, 6, none⟩ = some (.int .i64 a2_6) := (blk_cell BK285.out 6).trans rfl; have hcz14_7 : w13.cell? ⟨gb285, 7, none⟩ = some (.int .i64 a2_7) := (blk_cell BK285.out 7).trans rfl; have hcz14_8 : w13.cell? ⟨gb285, 8, none⟩ = some (.int .i64 a2_8) := (blk_cell BK285.out 8).trans rfl; have hcz14_9 : w13.cell? ⟨gb285, 9, none⟩ = some (.int .i64 a2_9) := (blk_cell BK285.out 9).trans rfl; have hfz14_0 := blk_frozen BK285.out 0; have hfz14_1 := blk_frozen BK285.out 1; have hfz14_2 := blk_frozen BK285.out 2; have hfz14_3 := blk_frozen BK285.out 3; have hfz14_4 := blk_frozen BK285.out 4; have hfz14_5 := blk_frozen BK285.out 5; have hfz14_6 := blk_frozen BK285.out 6; have hfz14_7 := blk_frozen BK285.out 7; have hfz14_8 := blk_frozen BK285.out 8; have hfz14_9 := blk_frozen BK285.out 9))
    go_ret
    exact ⟨by first | rfl | (simp [errW_none, errW_some] <;> rfl) | (simp [*, errW_none, errW_some] <;> rfl), by repeat (first | (with_reducible first | exact HB.out | apply below_alloc | apply pw_below_drewN | apply below_drew1 | refine below_set ?_ GE285.out) | exact HB.out)⟩

end Go.Proofs.Ytibkmiffibacbaa.Print
