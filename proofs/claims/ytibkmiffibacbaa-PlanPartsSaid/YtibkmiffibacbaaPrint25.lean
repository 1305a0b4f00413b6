/- A text that a program of this session printed out of the translation: checked by Lean alone. -/
import Derived.Test.YtibkmiffibacbaaPrint0
import Derived.Test.YtibkmiffibacbaaPrint11
import Derived.Test.YtibkmiffibacbaaPrint19
import Derived.Test.YtibkmiffibacbaaPrint4
import Derived.Test.YtibkmiffibacbaaPrintO
namespace Go.Proofs.Ytibkmiffibacbaa.Print
open Go.RowKit Go.Proofs.YtibkmiffibacbaaW.PrintWords Go.Proofs.YtibkmiffibacbaaW.PrintLast Go.Proofs.YtibkmiffibacbaaW.PrintMore
attribute [local go_sem] max2_int min2_int max_two min_two max_three min_three max_four min_four   -- for this text's walks alone
set_option linter.unusedVariables false
set_option linter.unusedSimpArgs false

/-! ### wayfinderlaw20_PlanParts: function 11 -/
def wayfinderlaw20_PlanParts.j0 : Nat → List (S34) → Int → Bool → Bool → Int → Int → List (S34) → Option (Bool)
  | 0, _, _, _, _, _, _, _ => none
  | k + 1, x1, x2, x7, x34, x479000, x479001, x479002 => if x34 = true then (some x7) else ((plan_Push.f k x479000 x479001 x479002 x1).bind fun bt480 => (if 0 ≤ x2 then (if x2 ≤ (x1.length : Int) then ((plan_Push.f k x479000 x479001 x479002 (x1.take (x2 : Int).toNat)).bind fun bt490 => ((plan_Push.f k bt490.1 bt490.2.1 bt490.2.2 (x1.drop (x2 : Int).toNat)).bind fun bt499 => ((wayfinderref15_Same.f k bt480.1 bt480.2.1 bt480.2.2 bt499.1 bt499.2.1 bt499.2.2).bind fun t505 => (some t505)))) else (none)) else (none)))
def wayfinderlaw20_PlanParts.f (k : Nat) (a0_0 : Int) (a0_1 : Int) (l0_2 : List (S34)) (l1 : List (S34)) (a2 : Int) : Option (Bool) := (wayfinderlaw20_awake.f).bind fun t479 => (if t479 = true then (if (l0_2.length : Int) > 200 then (wayfinderlaw20_PlanParts.j0 k l1 a2 t479 true a0_0 a0_1 l0_2) else (if (l1.length : Int) > 200 then (wayfinderlaw20_PlanParts.j0 k l1 a2 t479 true a0_0 a0_1 l0_2) else (if a2 < 0 then (wayfinderlaw20_PlanParts.j0 k l1 a2 t479 true a0_0 a0_1 l0_2) else (wayfinderlaw20_PlanParts.j0 k l1 a2 t479 (decide (a2 > (l1.length : Int))) a0_0 a0_1 l0_2)))) else (wayfinderlaw20_PlanParts.j0 k l1 a2 t479 true a0_0 a0_1 l0_2))
theorem wayfinderlaw20_PlanParts.mono_l : ∀ k, (∀ y0 y1 y2 y3 y4 y5 y6, LeO (wayfinderlaw20_PlanParts.j0 k y0 y1 y2 y3 y4 y5 y6) (wayfinderlaw20_PlanParts.j0 (k + 1) y0 y1 y2 y3 y4 y5 y6))
  | 0 => fun _ _ _ _ _ _ _ r h => by simp [wayfinderlaw20_PlanParts.j0] at h
  | k + 1 => by
    have ih0 := wayfinderlaw20_PlanParts.mono_l k
    · intro y0 y1 y2 y3 y4 y5 y6
      unfold wayfinderlaw20_PlanParts.j0
      repeat' first
      | (with_reducible exact ih0 _ _ _ _ _ _ _)
      | (with_reducible exact plan_Push.mono _ _ _ _ _)
      | (with_reducible exact wayfinderref15_Same.mono _ _ _ _ _ _ _)
      | (with_reducible exact LeO.refl _)
      | (with_reducible exact LeO.none _)
      | (with_reducible refine LeO.ite ?_ ?_)
      | (with_reducible refine LeO.bind ?_ (fun _ => ?_))
      | exact ih0 _ _ _ _ _ _ _
      | exact plan_Push.mono _ _ _ _ _
      | exact wayfinderref15_Same.mono _ _ _ _ _ _ _
      | exact LeO.none _
      | refine LeO.ite ?_ ?_
      | refine LeO.bind ?_ (fun _ => ?_)
theorem wayfinderlaw20_PlanParts.mono : ∀ a0 a1 a2 a3 a4 k, LeO (wayfinderlaw20_PlanParts.f k a0 a1 a2 a3 a4) (wayfinderlaw20_PlanParts.f (k + 1) a0 a1 a2 a3 a4) := by
  intro a0 a1 a2 a3 a4 k
  have ih0 := wayfinderlaw20_PlanParts.mono_l k
  unfold wayfinderlaw20_PlanParts.f
  repeat' first
      | (with_reducible exact ih0 _ _ _ _ _ _ _)
      | (with_reducible exact plan_Push.mono _ _ _ _ _)
      | (with_reducible exact wayfinderref15_Same.mono _ _ _ _ _ _ _)
      | (with_reducible exact LeO.refl _)
      | (with_reducible exact LeO.none _)
      | (with_reducible refine LeO.ite ?_ ?_)
      | (with_reducible refine LeO.bind ?_ (fun _ => ?_))
      | exact ih0 _ _ _ _ _ _ _
      | exact plan_Push.mono _ _ _ _ _
      | exact wayfinderref15_Same.mono _ _ _ _ _ _ _
      | exact LeO.none _
      | refine LeO.ite ?_ ?_
      | refine LeO.bind ?_ (fun _ => ?_)
def wayfinderlaw20_PlanParts.T5 : Bool × List (List Nat × List Nat) := (true, [([], []), ([], []), ([], []), ([1, 2], [1, 2]), ([0, 3], [0, 3]), ([], []), ([], []), ([5, 6], [5, 6]), ([4, 7, 4], [4, 7]), ([], []), ([9, 8, 8, 0, 1, 2, 3, 4, 5, 6, 7, 8, 9], [8, 9])])
def wayfinderlaw20_PlanParts.B5 : List Nat := [0, 0, 0, 6, 15, 0, 0, 96, 255, 0, 1023]
theorem wayfinderlaw20_PlanParts.tab5 : rtab .any (opsOf Try.f11 5) = wayfinderlaw20_PlanParts.T5 := by kernel_rfl
theorem wayfinderlaw20_PlanParts.bits5 : waitsOk wayfinderlaw20_PlanParts.T5.2 wayfinderlaw20_PlanParts.B5 = true := by kernel_rfl
set_option maxHeartbeats 8000000 in
set_option maxRecDepth 100000 in
theorem wayfinderlaw20_PlanParts.calls (k : Nat) (a0_0 : Int) (a0_1 : Int) (A0_2 : Option Addr) (c0_2 : Nat) (l0_2 : List (S34)) (A1 : Option Addr) (c1 : Nat) (l1 : List (S34)) (a2 : Int) (r : Bool) (w : World) (hr0_2 : Kd.C k34 w A0_2 l0_2.length l0_2) (hc0_2 : l0_2.length ≤ c0_2) (hr1 : Kd.C k34 w A1 l1.length l1) (hc1 : l1.length ≤ c1) (h : wayfinderlaw20_PlanParts.f k a0_0 a0_1 l0_2 l1 a2 = some r) :
    Calls Try.prog 11 #[.agg #[.int .i64 a0_0, .int .i64 a0_1, .slice A0_2 l0_2.length c0_2], .slice A1 l1.length c1, .int .i64 a2] w fun e w' => e = .returned (.bool r) ∧ Below w.heap.size w w' := by
  have hu41 := Try.underlying41
  have HR0_2 := Aside0.mk hr0_2
  have HC0_2 := Aside0.mk hc0_2
  clear hr0_2 hc0_2
  have HR1 := Aside0.mk hr1
  have HC1 := Aside0.mk hc1
  clear hr1 hc1
  have HB := Aside0.mk (Below.refl w.heap.size w)
  have H : ((wayfinderlaw20_awake.f).bind fun t479 => (if t479 = true then (if (l0_2.length : Int) > 200 then (wayfinderlaw20_PlanParts.j0 k l1 a2 t479 true a0_0 a0_1 l0_2) else (if (l1.length : Int) > 200 then (wayfinderlaw20_PlanParts.j0 k l1 a2 t479 true a0_0 a0_1 l0_2) else (if a2 < 0 then (wayfinderlaw20_PlanParts.j0 k l1 a2 t479 true a0_0 a0_1 l0_2) else (wayfinderlaw20_PlanParts.j0 k l1 a2 t479 (decide (a2 > (l1.length : Int))) a0_0 a0_1 l0_2)))) else (wayfinderlaw20_PlanParts.j0 k l1 a2 t479 true a0_0 a0_1 l0_2))) = some r := h
  clear h
  replace H := Option.bind_eq_some_iff.mp H
  obtain ⟨t479, A40, H⟩ := H
  replace H : (if t479 = true then (if (l0_2.length : Int) > 200 then (wayfinderlaw20_PlanParts.j0 k l1 a2 t479 true a0_0 a0_1 l0_2) else (if (l1.length : Int) > 200 then (wayfinderlaw20_PlanParts.j0 k l1 a2 t479 true a0_0 a0_1 l0_2) else (if a2 < 0 then (wayfinderlaw20_PlanParts.j0 k l1 a2 t479 true a0_0 a0_1 l0_2) else (wayfinderlaw20_PlanParts.j0 k l1 a2 t479 (decide (a2 > (l1.length : Int))) a0_0 a0_1 l0_2)))) else (wayfinderlaw20_PlanParts.j0 k l1 a2 t479 true a0_0 a0_1 l0_2)) = some r := H
  have A4 := Aside0.mk A40
  clear A40
  have HC5 := Aside0.mk H
  clear H
  go_enter Try.func11, Try.ntmps11
  go_upto_region 2 with (first | ((with_reducible refine gate_dst (N := 3) rfl ?_); (try (refine gate_guard (by rfl) ?_; dsimp only)); refine box_event ?hg (N := 3) ?hd (cs := #[.int .i64 a0_0, .int .i64 a0_1, .slice A0_2 l0_2.length c0_2]) (t := 41) ?hr ?_; (case hd => rfl); (case hg => rfl); (case hr => first | (go_simp; done) | (go_simp; rfl)); intro gb478 hg w6 hbox hb; have n0_ := Aside0.mk (below_step (by repeat (first | (with_reducible first | exact HB.out | apply below_alloc | apply pw_below_drewN | apply below_drew1) | exact HB.out)) hb); have n1_ := Aside0.mk (hbox); have n2_ := Aside0.mk ((by rw [hg]; exact (below_size (by repeat (first | (with_reducible first | exact HB.out | apply below_alloc | apply pw_below_drewN | apply below_drew1) | exact HB.out))) : w.heap.size ≤ gb478)); have n3_ := Aside0.mk ((by rw [hg]; exact (below_size (by repeat (first | (with_reducible first | exact HB.out | apply below_alloc | apply pw_below_drewN | apply below_drew1) | exact HB.out))) : w.heap.size ≤ gb478)); clear HB; have HB := n0_; have BK478 := n1_; have GW478 := n2_; have GE478 := n3_; clear n0_ n1_ n2_ n3_; clear hb hbox hg) | ((with_reducible refine gate_callee (f := 12) rfl ?_); refine goesL_ (some 11) rfl rfl Try.func12 (by kernel_rfl) rfl #[] rfl (by (try simp only [List.map_toArray, List.map_cons, List.map_nil]); first | done | rfl | (simp only [List.length_drop, List.length_take]; rfl)) ?_; (with_reducible refine (wayfinderlaw20_awake.calls  t479 _ A4.out).mono ?_); rintro e w7 ⟨rfl, hb⟩; refine ⟨_, rfl, ?_⟩; have n0_ := Aside0.mk (blk_below (g := gb478) (o := .cells #[.int .i64 a0_0, .int .i64 a0_1, .slice A0_2 l0_2.length c0_2] 41 (0, 0)) (by (with_reducible repeat (first | refine blk_drewN ?_ _ | refine blk_drew ?_ | refine blk_alloc ?_ _)); exact BK478.out) hb); have n1_ := Aside0.mk (below_step (by repeat (first | (with_reducible first | exact HB.out | apply below_alloc | apply pw_below_drewN | apply below_drew1 | refine below_set ?_ GE478.out) | exact HB.out)) hb); clear BK478; clear HB; have BK478 := n0_; have HB := n1_; clear n0_ n1_; (try clear hb); (try clear hb2); (try clear hk); (try clear hi)))
  (try simp only [Act.put, List.setIfInBounds_toArray, List.set_cons_zero, List.set_cons_succ])
  go_cut [34] (fun v34 wc => ∃ (kq : Nat) (x34_4 : Bool), v34 = .bool x34_4 ∧ Aside0 (wayfinderlaw20_PlanParts.j0 kq l1 a2 t479 x34_4 a0_0 a0_1 l0_2 = some r) ∧ Aside0 (kq ≤ k) ∧ Aside0 (wc.heap[gb478]? = some (.cells #[.int .i64 a0_0, .int .i64 a0_1, (.slice A0_2 l0_2.length c0_2)] 41 (0, 0))) ∧ Aside0 (Below w.heap.size w wc))
  case first =>
    have H := HC5.out
    clear HC5
    by_cases c8 : t479 = true
    · subst c8
      have H1 : (if (l0_2.length : Int) > 200 then (wayfinderlaw20_PlanParts.j0 k l1 a2 true true a0_0 a0_1 l0_2) else (if (l1.length : Int) > 200 then (wayfinderlaw20_PlanParts.j0 k l1 a2 true true a0_0 a0_1 l0_2) else (if a2 < 0 then (wayfinderlaw20_PlanParts.j0 k l1 a2 true true a0_0 a0_1 l0_2) else (wayfinderlaw20_PlanParts.j0 k l1 a2 true (decide (a2 > (l1.length : Int))) a0_0 a0_1 l0_2)))) = some r := by rw [if_pos rfl] at H; exact H
      clear H
      have H := H1
      clear H1
      by_cases c9 : (l0_2.length : Int) > 200
      · rw [if_pos c9] at H
        have c9b0 : decide (200 < (l0_2.length : Int)) = true := decide_eq_true c9
        have c9b1 : decide (200 < l0_2.length) = true := decide_eq_true (by omega)
        clear c9
        (first | rw [c9b0] | (simp only [i64_w, i32_w]; rw [c9b0]) | skip)
        have H' := Aside0.mk H
        clear H
        have hcz10_0 : w7.cell? ⟨gb478, 0, none⟩ = some (.int .i64 a0_0) := (blk_cell BK478.out 0).trans rfl
        have hcz10_1 : w7.cell? ⟨gb478, 1, none⟩ = some (.int .i64 a0_1) := (blk_cell BK478.out 1).trans rfl
        have hcz10_2 : w7.cell? ⟨gb478, 2, none⟩ = some (.slice A0_2 l0_2.length c0_2) := (blk_cell BK478.out 2).trans rfl
        have hfz10_0 := blk_frozen BK478.out 0
        have hfz10_1 := blk_frozen BK478.out 1
        have hfz10_2 := blk_frozen BK478.out 2
        go_wp2
        go_meet
        case rel => exact ⟨_, (true), (by first | rfl | (simp; done) | (simp [*]; done)), H', ⟨by first | omega | exact Nat.le_refl _⟩, ⟨by (with_reducible repeat (first | refine blk_drewN ?_ _ | refine blk_drew ?_ | refine blk_alloc ?_ _)); exact BK478.out⟩, ⟨by repeat (first | (with_reducible first | exact HB.out | apply below_alloc | apply pw_below_drewN | apply below_drew1 | refine below_set ?_ GE478.out) | exact HB.out)⟩⟩
      · rw [if_neg c9] at H
        have c9b0 : decide (200 < (l0_2.length : Int)) = false := decide_eq_false c9
        have c9b1 : decide (200 < l0_2.length) = false := decide_eq_false (by omega)
        clear c9
        (first | rw [c9b0] | (simp only [i64_w, i32_w]; rw [c9b0]) | skip)
        by_cases c11 : (l1.length : Int) > 200
        · rw [if_pos c11] at H
          have c11b0 : decide (200 < (l1.length : Int)) = true := decide_eq_true c11
          have c11b1 : decide (200 < l1.length) = true := decide_eq_true (by omega)
          clear c11
          have H' := Aside0.mk H
          clear H
          have hcz12_0 : w7.cell? ⟨gb478, 0, none⟩ = some (.int .i64 a0_0) := (blk_cell BK478.out 0).trans rfl
          have hcz12_1 : w7.cell? ⟨gb478, 1, none⟩ = some (.int .i64 a0_1) := (blk_cell BK478.out 1).trans rfl
          have hcz12_2 : w7.cell? ⟨gb478, 2, none⟩ = some (.slice A0_2 l0_2.length c0_2) := (blk_cell BK478.out 2).trans rfl
          have hfz12_0 := blk_frozen BK478.out 0
          have hfz12_1 := blk_frozen BK478.out 1
          have hfz12_2 := blk_frozen BK478.out 2
          go_wp2
          go_meet
          case rel => exact ⟨_, (true), (by first | rfl | (simp; done) | (simp [*]; done)), H', ⟨by first | omega | exact Nat.le_refl _⟩, ⟨by (with_reducible repeat (first | refine blk_drewN ?_ _ | refine blk_drew ?_ | refine blk_alloc ?_ _)); exact BK478.out⟩, ⟨by repeat (first | (with_reducible first | exact HB.out | apply below_alloc | apply pw_below_drewN | apply below_drew1 | refine below_set ?_ GE478.out) | exact HB.out)⟩⟩
        · rw [if_neg c11] at H
          have c11b0 : decide (200 < (l1.length : Int)) = false := decide_eq_false c11
          have c11b1 : decide (200 < l1.length) = false := decide_eq_false (by omega)
          clear c11
          by_cases c13 : a2 < 0
          · rw [if_pos c13] at H
            have c13b0 : decide (a2 < 0) = true := decide_eq_true c13
            clear c13
            have H' := Aside0.mk H
            clear H
            have hcz14_0 : w7.cell? ⟨gb478, 0, none⟩ = some (.int .i64 a0_0) := (blk_cell BK478.out 0).trans rfl
            have hcz14_1 : w7.cell? ⟨gb478, 1, none⟩ = some (.int .i64 a0_1) := (blk_cell BK478.out 1).trans rfl
            have hcz14_2 : w7.cell? ⟨gb478, 2, none⟩ = some (.slice A0_2 l0_2.length c0_2) := (blk_cell BK478.out 2).trans rfl
            have hfz14_0 := blk_frozen BK478.out 0
            have hfz14_1 := blk_frozen BK478.out 1
            have hfz14_2 := blk_frozen BK478.out 2
            go_wp2
            go_meet
            case rel => exact ⟨_, (true), (by first | rfl | (simp; done) | (simp [*]; done)), H', ⟨by first | omega | exact Nat.le_refl _⟩, ⟨by (with_reducible repeat (first | refine blk_drewN ?_ _ | refine blk_drew ?_ | refine blk_alloc ?_ _)); exact BK478.out⟩, ⟨by repeat (first | (with_reducible first | exact HB.out | apply below_alloc | apply pw_below_drewN | apply below_drew1 | refine below_set ?_ GE478.out) | exact HB.out)⟩⟩
          · rw [if_neg c13] at H
            have c13b0 : decide (a2 < 0) = false := decide_eq_false c13
            clear c13
            have H' := Aside0.mk H
            clear H
            have hcz15_0 : w7.cell? ⟨gb478, 0, none⟩ = some (.int .i64 a0_0) := (blk_cell BK478.out 0).trans rfl
            have hcz15_1 : w7.cell? ⟨gb478, 1, none⟩ = some (.int .i64 a0_1) := (blk_cell BK478.out 1).trans rfl
            have hcz15_2 : w7.cell? ⟨gb478, 2, none⟩ = some (.slice A0_2 l0_2.length c0_2) := (blk_cell BK478.out 2).trans rfl
            have hfz15_0 := blk_frozen BK478.out 0
            have hfz15_1 := blk_frozen BK478.out 1
            have hfz15_2 := blk_frozen BK478.out 2
            go_wp2
            go_meet
            case rel => exact ⟨_, (decide (a2 > (l1.length : Int))), (by first | rfl | (simp; done) | (simp [*]; done)), H', ⟨by first | omega | exact Nat.le_refl _⟩, ⟨by (with_reducible repeat (first | refine blk_drewN ?_ _ | refine blk_drew ?_ | refine blk_alloc ?_ _)); exact BK478.out⟩, ⟨by repeat (first | (with_reducible first | exact HB.out | apply below_alloc | apply pw_below_drewN | apply below_drew1 | refine below_set ?_ GE478.out) | exact HB.out)⟩⟩
    · replace c8 := Bool.eq_false_iff.mpr c8
      subst c8
      have H1 : (wayfinderlaw20_PlanParts.j0 k l1 a2 false true a0_0 a0_1 l0_2) = some r := by rw [if_neg (show ¬ (false = true) by decide)] at H; exact H
      clear H
      have H := H1
      clear H1
      have H' := Aside0.mk H
      clear H
      go_wp2
      go_meet
      case rel => exact ⟨_, (true), (by first | rfl | (simp; done) | (simp [*]; done)), H', ⟨by first | omega | exact Nat.le_refl _⟩, ⟨by (with_reducible repeat (first | refine blk_drewN ?_ _ | refine blk_drew ?_ | refine blk_alloc ?_ _)); exact BK478.out⟩, ⟨by repeat (first | (with_reducible first | exact HB.out | apply below_alloc | apply pw_below_drewN | apply below_drew1 | refine below_set ?_ GE478.out) | exact HB.out)⟩⟩
  case rest =>
    clear HC5
    try clear c1
    try clear p2
    try clear c8
    try clear c9
    try clear c9b0
    try clear c9b1
    try clear c11
    try clear c11b0
    try clear c11b1
    try clear c12
    try clear c13
    try clear c13b0
    try clear hcz10_0
    try clear hcz10_1
    try clear hcz10_2
    try clear hcz12_0
    try clear hcz12_1
    try clear hcz12_2
    try clear hcz14_0
    try clear hcz14_1
    try clear hcz14_2
    try clear hcz15_0
    try clear hcz15_1
    try clear hcz15_2
    try clear hfz10_0
    try clear hfz10_1
    try clear hfz10_2
    try clear hfz12_0
    try clear hfz12_1
    try clear hfz12_2
    try clear hfz14_0
    try clear hfz14_1
    try clear hfz14_2
    try clear hfz15_0
    try clear hfz15_1
    try clear hfz15_2
    obtain ⟨kq, x34_4, rfl, HA, HJ4, BK478, HB⟩ := hcut
    cases kq with
    | zero => exact absurd HA.out (by simp [wayfinderlaw20_PlanParts.j0])
    | succ kj4 =>
      have H := HA.out
      clear HA
      simp only [wayfinderlaw20_PlanParts.j0] at H
      by_cases c16 : x34_4 = true
      · subst c16
        have H1 : (some t479) = some r := by rw [if_pos rfl] at H; exact H
        clear H
        have H := H1
        clear H1
        obtain rfl := Option.some.inj H
        go_wp2
        go_ret
        exact ⟨by first | rfl | (simp [errW_none, errW_some] <;> rfl) | (simp [*, errW_none, errW_some] <;> rfl), by repeat (first | (with_reducible first | exact HB.out | apply below_alloc | apply pw_below_drewN | apply below_drew1 | refine below_set ?_ GE478.out) | exact HB.out)⟩
      · replace c16 := Bool.eq_false_iff.mpr c16
        subst c16
        have H1 : ((plan_Push.f kj4 a0_0 a0_1 l0_2 l1).bind fun bt480 => (if 0 ≤ a2 then (if a2 ≤ (l1.length : Int) then ((plan_Push.f kj4 a0_0 a0_1 l0_2 (l1.take (a2 : Int).toNat)).bind fun bt490 => ((plan_Push.f kj4 bt490.1 bt490.2.1 bt490.2.2 (l1.drop (a2 : Int).toNat)).bind fun bt499 => ((wayfinderref15_Same.f kj4 bt480.1 bt480.2.1 bt480.2.2 bt499.1 bt499.2.1 bt499.2.2).bind fun t505 => (some t505)))) else (none)) else (none))) = some r := by rw [if_neg (show ¬ (false = true) by decide)] at H; exact H
        clear H
        have H := H1
        clear H1
        replace H := Option.bind_eq_some_iff.mp H
        obtain ⟨⟨t480, t481, t482⟩, A170, H⟩ := H
        replace H : (if 0 ≤ a2 then (if a2 ≤ (l1.length : Int) then ((plan_Push.f kj4 a0_0 a0_1 l0_2 (l1.take (a2 : Int).toNat)).bind fun bt490 => ((plan_Push.f kj4 bt490.1 bt490.2.1 bt490.2.2 (l1.drop (a2 : Int).toNat)).bind fun bt499 => ((wayfinderref15_Same.f kj4 t480 t481 t482 bt499.1 bt499.2.1 bt499.2.2).bind fun t505 => (some t505)))) else (none)) else (none)) = some r := H
        have A17 := Aside0.mk A170
        clear A170
        by_cases c18 : 0 ≤ a2
        · rw [if_pos c18] at H
          have c18b0 := eq_true c18
          have c18b1 : decide (0 ≤ a2) = true := decide_eq_true c18
          clear c18
          by_cases c19 : a2 ≤ (l1.length : Int)
          · rw [if_pos c19] at H
            have c19b0 := eq_true c19
            have c19b1 : decide (a2 ≤ (l1.length : Int)) = true := decide_eq_true c19
            clear c19
            obtain ⟨y486, hy486⟩ : ∃ y_ : List (S34), y_ = (l1.take (a2 : Int).toNat) := ⟨_, rfl⟩
            replace H : ((plan_Push.f kj4 a0_0 a0_1 l0_2 y486).bind fun bt490 => ((plan_Push.f kj4 bt490.1 bt490.2.1 bt490.2.2 (l1.drop (a2 : Int).toNat)).bind fun bt499 => ((wayfinderref15_Same.f kj4 t480 t481 t482 bt499.1 bt499.2.1 bt499.2.2).bind fun t505 => (some t505)))) = some r := by first | (rw [hy486]; with_reducible exact H) | (have H2_ := (Option.bind_some _ _).symm.trans H; rw [hy486]; with_reducible exact H2_) | (have H2_ := (Option.bind_some _ _).symm.trans H; with_reducible exact H2_) | with_reducible exact H | (rw [hy486]; exact H) | exact H
            have Ny486 := Aside0.mk hy486
            clear hy486
            replace H := Option.bind_eq_some_iff.mp H
            obtain ⟨⟨t490, t491, t492⟩, A200, H⟩ := H
            replace H : ((plan_Push.f kj4 t490 t491 t492 (l1.drop (a2 : Int).toNat)).bind fun bt499 => ((wayfinderref15_Same.f kj4 t480 t481 t482 bt499.1 bt499.2.1 bt499.2.2).bind fun t505 => (some t505))) = some r := H
            have A20 := Aside0.mk A200
            clear A200
            have c21b0 := eq_true (of_decide_eq_true (by first | (with_reducible assumption) | assumption) : 0 ≤ a2)
            have c22b0 := eq_true (of_decide_eq_true (by first | (with_reducible assumption) | assumption) : a2 ≤ (l1.length : Int))
            obtain ⟨y495, hy495⟩ : ∃ y_ : List (S34), y_ = (l1.drop (a2 : Int).toNat) := ⟨_, rfl⟩
            replace H : ((plan_Push.f kj4 t490 t491 t492 y495).bind fun bt499 => ((wayfinderref15_Same.f kj4 t480 t481 t482 bt499.1 bt499.2.1 bt499.2.2).bind fun t505 => (some t505))) = some r := by first | (rw [hy495]; with_reducible exact H) | (have H2_ := (Option.bind_some _ _).symm.trans H; rw [hy495]; with_reducible exact H2_) | (have H2_ := (Option.bind_some _ _).symm.trans H; with_reducible exact H2_) | with_reducible exact H | (rw [hy495]; exact H) | exact H
            have Ny495 := Aside0.mk hy495
            clear hy495
            replace H := Option.bind_eq_some_iff.mp H
            obtain ⟨⟨t499, t500, t501⟩, A230, H⟩ := H
            replace H : ((wayfinderref15_Same.f kj4 t480 t481 t482 t499 t500 t501).bind fun t505 => (some t505)) = some r := H
            have A23 := Aside0.mk A230
            clear A230
            replace H := Option.bind_eq_some_iff.mp H
            obtain ⟨t505, A240, H⟩ := H
            replace H : (some t505) = some r := H
            have A24 := Aside0.mk A240
            clear A240
            obtain rfl := Option.some.inj H
            have hcz25_0 : wc.cell? ⟨gb478, 0, none⟩ = some (.int .i64 a0_0) := (blk_cell BK478.out 0).trans rfl
            have hcz25_1 : wc.cell? ⟨gb478, 1, none⟩ = some (.int .i64 a0_1) := (blk_cell BK478.out 1).trans rfl
            have hcz25_2 : wc.cell? ⟨gb478, 2, none⟩ = some (.slice A0_2 l0_2.length c0_2) := (blk_cell BK478.out 2).trans rfl
            have hfz25_0 := blk_frozen BK478.out 0
            have hfz25_1 := blk_frozen BK478.out 1
            have hfz25_2 := blk_frozen BK478.out 2
            try go_wp2_with (first | ((with_reducible refine gate_callee (f := 29) rfl ?_); refine goesL_ (some 38) rfl rfl Try.func29 (by kernel_rfl) rfl #[.agg #[.int .i64 a0_0, .int .i64 a0_1, .slice A0_2 l0_2.length c0_2], .slice A1 l1.length c1] rfl (by (try simp only [List.map_toArray, List.map_cons, List.map_nil]); first | done | rfl | (simp only [List.length_drop, List.length_take]; rfl)) ?_; (with_reducible refine (plan_Push.calls kj4 a0_0 a0_1 _ _ l0_2 _ _ l1 t480 t481 t482 _ ?side1 ?side2 ?side3 ?side4 A17.out).mono ?_); (case side1 => repeat (first | exact (Kd.C_below HR0_2.out HB.out) | (with_reducible refine Kd.C_alloc ?_ _) | (with_reducible refine Kd.C_drewN ?_ _) | (with_reducible refine Kd.C_drew ?_))); (case side2 => exact HC0_2.out); (case side3 => repeat (first | exact (Kd.C_below HR1.out HB.out) | (with_reducible refine Kd.C_alloc ?_ _) | (with_reducible refine Kd.C_drewN ?_ _) | (with_reducible refine Kd.C_drew ?_))); (case side4 => exact HC1.out); rintro e w26 ⟨v483, rfl, ho0, hb⟩; refine ⟨_, rfl, ?_⟩; have n0_ := Aside0.mk (Kd.V_lower (Kd.V_mono (ok' := fun k_ => k_ ≠ gb478) ho0 (fun k_ hk_ => (Kd.freshB (g := gb478) (o := .cells #[.int .i64 a0_0, .int .i64 a0_1, .slice A0_2 l0_2.length c0_2] 41 (0, 0)) (by (with_reducible repeat (first | refine blk_drewN ?_ _ | refine blk_drew ?_ | refine blk_alloc ?_ _)); exact BK478.out) k_ hk_))) (below_size (by repeat (first | (with_reducible first | exact HB.out | apply below_alloc | apply pw_below_drewN | apply below_drew1 | refine below_set ?_ GE478.out) | exact HB.out)))); have n1_ := Aside0.mk (blk_below (g := gb478) (o := .cells #[.int .i64 a0_0, .int .i64 a0_1, .slice A0_2 l0_2.length c0_2] 41 (0, 0)) (by (with_reducible repeat (first | refine blk_drewN ?_ _ | refine blk_drew ?_ | refine blk_alloc ?_ _)); exact BK478.out) hb); have n2_ := Aside0.mk (below_step (by repeat (first | (with_reducible first | exact HB.out | apply below_alloc | apply pw_below_drewN | apply below_drew1 | refine below_set ?_ GE478.out) | exact HB.out)) hb); clear BK478; clear HB; have HO484 := n0_; have BK478 := n1_; have HB := n2_; clear n0_ n1_ n2_; (try clear hb); (try clear hb2); (try clear hk); (try clear hi); (try clear ho0)) | ((with_reducible refine gate_dst (N := 8) rfl ?_); (try (refine gate_guard (by rfl) ?_; dsimp only)); refine box_event ?hg (N := 8) ?hd (cs := #[.int .i64 0, .int .i64 0, .slice none 0 0]) (t := 41) ?hr ?_; (case hd => rfl); (case hg => rfl); (case hr => first | (go_simp; done) | (go_simp; rfl)); intro gb485 hg w27 hbox hb; have n0_ := Aside0.mk (Kd.V_below (Kd.V_elderB (by (with_reducible repeat (first | apply Kd.V_alloc | apply Kd.V_drewN | apply Kd.V_drew)); exact HO484.out) gb485 (Nat.le_of_eq hg.symm)) hb); have n1_ := Aside0.mk (blk_below (g := gb478) (o := .cells #[.int .i64 a0_0, .int .i64 a0_1, .slice A0_2 l0_2.length c0_2] 41 (0, 0)) (by (with_reducible repeat (first | refine blk_drewN ?_ _ | refine blk_drew ?_ | refine blk_alloc ?_ _)); exact BK478.out) hb); have n2_ := Aside0.mk (below_step (by repeat (first | (with_reducible first | exact HB.out | apply below_alloc | apply pw_below_drewN | apply below_drew1 | refine below_set ?_ GE478.out) | exact HB.out)) hb); have n3_ := Aside0.mk (hbox); have n4_ := Aside0.mk ((by rw [hg]; exact (below_size (by repeat (first | (with_reducible first | exact HB.out | apply below_alloc | apply pw_below_drewN | apply below_drew1 | refine below_set ?_ GE478.out) | exact HB.out))) : w.heap.size ≤ gb485)); have n5_ := Aside0.mk ((by rw [hg]; exact (below_size (by repeat (first | (with_reducible first | exact HB.out | apply below_alloc | apply pw_below_drewN | apply below_drew1 | refine below_set ?_ GE478.out) | exact HB.out))) : w.heap.size ≤ gb485)); have n6_ := Aside0.mk ((by rw [hg]; exact Nat.ne_of_lt (blk_lt (g := gb478) (o := .cells #[.int .i64 a0_0, .int .i64 a0_1, .slice A0_2 l0_2.length c0_2] 41 (0, 0)) (by (with_reducible repeat (first | refine blk_drewN ?_ _ | refine blk_drew ?_ | refine blk_alloc ?_ _)); exact BK478.out)) : gb478 ≠ gb485)); have n7_ := Aside0.mk ((by rw [hg]; exact Nat.ne_of_gt (blk_lt (g := gb478) (o := .cells #[.int .i64 a0_0, .int .i64 a0_1, .slice A0_2 l0_2.length c0_2] 41 (0, 0)) (by (with_reducible repeat (first | refine blk_drewN ?_ _ | refine blk_drew ?_ | refine blk_alloc ?_ _)); exact BK478.out)) : gb485 ≠ gb478)); clear HO484; clear BK478; clear HB; have HO484 := n0_; have BK478 := n1_; have HB := n2_; have BK485 := n3_; have GW485 := n4_; have GE485 := n5_; have NB478_485 := n6_; have NB485_478 := n7_; clear n0_ n1_ n2_ n3_ n4_ n5_ n6_ n7_; clear hb hbox hg; have hnb28 := NB485_478.out; have hnc28 := NB478_485.out; have hcz29_0 : w27.cell? ⟨gb485, 0, none⟩ = some (.int .i64 0) := (blk_cell BK485.out 0).trans rfl; have hcz29_1 : w27.cell? ⟨gb485, 1, none⟩ = some (.int .i64 0) := (blk_cell BK485.out 1).trans rfl; have hcz29_2 : w27.cell? ⟨gb485, 2, none⟩ = some (.slice none 0 0) := (blk_cell BK485.out 2).trans rfl; have hfz29_0 := blk_frozen BK485.out 0; have hfz29_1 := blk_frozen BK485.out 1; have hfz29_2 := blk_frozen BK485.out 2; obtain ⟨Ao30, co30, eo30⟩ := Kd.V_slice HO484.out; subst eo30))
            have n0_ : Aside0 (Kd.V k34 34 (((w27.setCell ⟨gb485, 0, none⟩ (.int .i64 t480)).setCell ⟨gb485, 1, none⟩ (.int .i64 t481)).setCell ⟨gb485, 2, none⟩ (.slice Ao30 t482.length co30)) w.heap.size (fun k_ => k_ ≠ gb478 ∧ k_ ≠ gb485) (.slice Ao30 t482.length co30) t482) := ⟨by (with_reducible repeat (first | apply Kd.V_alloc | apply Kd.V_drewN | apply Kd.V_drew)); exact Kd.V_mono (Kd.V_far (p := ⟨gb485, 2, none⟩) (Kd.V_far (p := ⟨gb485, 1, none⟩) (Kd.V_far (p := ⟨gb485, 0, none⟩) (Kd.V_mono HO484.out (fun k_ hk => (⟨hk, hk.2⟩ : _ ∧ k_ ≠ gb485))) (fun _ hk => hk.2) (.int .i64 t480)) (fun _ hk => hk.2) (.int .i64 t481)) (fun _ hk => hk.2) (.slice Ao30 t482.length co30)) (fun _ hk => ⟨hk.1.1, hk.1.2⟩)⟩
            have n1_ : Aside0 ((((w27.setCell ⟨gb485, 0, none⟩ (.int .i64 t480)).setCell ⟨gb485, 1, none⟩ (.int .i64 t481)).setCell ⟨gb485, 2, none⟩ (.slice Ao30 t482.length co30)).heap[gb478]? = some (.cells #[.int .i64 a0_0, .int .i64 a0_1, .slice A0_2 l0_2.length c0_2] 41 (0, 0))) := ⟨by (with_reducible repeat (first | refine blk_drewN ?_ _ | refine blk_drew ?_ | refine blk_alloc ?_ _)); refine blk_far ?_ NB478_485.out _; (with_reducible repeat (first | refine blk_drewN ?_ _ | refine blk_drew ?_ | refine blk_alloc ?_ _)); refine blk_far ?_ NB478_485.out _; (with_reducible repeat (first | refine blk_drewN ?_ _ | refine blk_drew ?_ | refine blk_alloc ?_ _)); refine blk_far ?_ NB478_485.out _; (with_reducible repeat (first | refine blk_drewN ?_ _ | refine blk_drew ?_ | refine blk_alloc ?_ _)); exact BK478.out⟩
            have n2_ : Aside0 ((((w27.setCell ⟨gb485, 0, none⟩ (.int .i64 t480)).setCell ⟨gb485, 1, none⟩ (.int .i64 t481)).setCell ⟨gb485, 2, none⟩ (.slice Ao30 t482.length co30)).heap[gb485]? = some (.cells #[.int .i64 t480, .int .i64 t481, .slice Ao30 t482.length co30] 41 (0, 0))) := ⟨by (with_reducible repeat (first | refine blk_drewN ?_ _ | refine blk_drew ?_ | refine blk_alloc ?_ _)); refine blk_put (cs := #[.int .i64 t480, .int .i64 t481, .slice none 0 0]) ?_ 2 _ rfl; (with_reducible repeat (first | refine blk_drewN ?_ _ | refine blk_drew ?_ | refine blk_alloc ?_ _)); refine blk_put (cs := #[.int .i64 t480, .int .i64 0, .slice none 0 0]) ?_ 1 _ rfl; (with_reducible repeat (first | refine blk_drewN ?_ _ | refine blk_drew ?_ | refine blk_alloc ?_ _)); refine blk_put (cs := #[.int .i64 0, .int .i64 0, .slice none 0 0]) ?_ 0 _ rfl; (with_reducible repeat (first | refine blk_drewN ?_ _ | refine blk_drew ?_ | refine blk_alloc ?_ _)); exact BK485.out⟩
            have n3_ : Aside0 (Below w.heap.size w (((w27.setCell ⟨gb485, 0, none⟩ (.int .i64 t480)).setCell ⟨gb485, 1, none⟩ (.int .i64 t481)).setCell ⟨gb485, 2, none⟩ (.slice Ao30 t482.length co30))) := ⟨by repeat (first | (with_reducible first | exact HB.out | apply below_alloc | apply pw_below_drewN | apply below_drew1 | refine below_set ?_ GE478.out | refine below_set ?_ GE485.out) | exact HB.out)⟩
            (try clear HO484)
            (try clear BK478)
            (try clear BK485)
            (try clear HB)
            generalize (((w27.setCell ⟨gb485, 0, none⟩ (.int .i64 t480)).setCell ⟨gb485, 1, none⟩ (.int .i64 t481)).setCell ⟨gb485, 2, none⟩ (.slice Ao30 t482.length co30)) = w31 at n0_ n1_ n2_ n3_ ⊢
            have HO484 := n0_
            have BK478 := n1_
            have BK485 := n2_
            have HB := n3_
            clear n0_ n1_ n2_ n3_
            have n0_ := Aside0.mk (Kd.V_drew HO484.out)
            have n1_ := Aside0.mk (blk_drew BK478.out)
            have n2_ := Aside0.mk (blk_drew BK485.out)
            have n3_ := Aside0.mk (below_drew1 HB.out)
            clear HO484
            clear BK478
            clear BK485
            clear HB
            have HO484 := n0_
            have BK478 := n1_
            have BK485 := n2_
            have HB := n3_
            clear n0_ n1_ n2_ n3_
            have q33 : (a2 : Int) ≤ ((l1.length : Int) : Int) := of_decide_eq_true (by first | (with_reducible assumption) | assumption)
            obtain ⟨i033, hi033, _, hsz33, _⟩ := info_parts info34
            have hroom33 : l1.length ≤ c1 := HC1.out
            have hC33 : Kd.C k34 _ A1 l1.length l1 := HR1.out
            have hcut33 := cut_to (P := Try.prog) 25 34 .i64 Try.underlying25 hi033 A1 l1.length c1 a2 (of_decide_eq_true (by first | (with_reducible assumption) | assumption)) q33 hroom33
            have hr33 := Kd.C_take (m := (a2 : Int).toNat) hC33 (by omega)
            have hy33 : y486.length = (a2 : Int).toNat := (by rw [Ny486.out, List.length_take]; omega)
            rw [← Ny486.out] at hr33
            rw [← hy33] at hcut33
            have HR489 := Aside0.mk hr33
            have HC489 := Aside0.mk (show y486.length ≤ c1 from by omega)
            clear hr33 hC33 hroom33 hi033 hsz33
            have KY33 := Aside0.mk hy33
            clear hy33
            replace q33 := eq_true q33
            have q34 : (a2 : Int) ≤ ((l1.length : Int) : Int) := of_decide_eq_true (by first | (with_reducible assumption) | assumption)
            obtain ⟨i034, hi034, _, hsz34, _⟩ := info_parts info34
            have hroom34 : l1.length ≤ c1 := HC1.out
            have hC34 : Kd.C k34 _ A1 l1.length l1 := HR1.out
            have q034 : (0 : Int) ≤ (a2 : Int) := of_decide_eq_true (by first | (with_reducible assumption) | assumption)
            have hcut34 := cut_from (P := Try.prog) 25 34 .i64 Try.underlying25 hi034 10 hsz34 A1 l1.length c1 a2 q034 q34
            have hr34 := Kd.C_drop (m := (a2 : Int).toNat) (c := c1) hC34 (by omega) hroom34
            obtain ⟨A34, hA34⟩ : ∃ AQ_, AQ_ = (if c1 = (a2 : Int).toNat then A1 else (A1 : Option Addr).map (·.add ((a2 : Int).toNat * 10))) := ⟨_, rfl⟩
            obtain ⟨c34, hc34⟩ : ∃ AQ_, AQ_ = c1 - (a2 : Int).toNat := ⟨_, rfl⟩
            have hy34 : y495.length = l1.length - (a2 : Int).toNat := (by rw [Ny495.out, List.length_drop] <;> omega)
            rw [show (l1).drop (a2 : Int).toNat = y495 from Ny495.out.symm] at hr34
            replace hr34 : Kd.C k34 _ A34 y495.length y495 := (by rw [hA34]; exact hr34)
            rw [← hy34, ← hA34, ← hc34] at hcut34
            have HR498 := Aside0.mk hr34
            have HC498 := Aside0.mk (show y495.length ≤ c34 from by rw [hy34, hc34]; exact Nat.sub_le_sub_right hroom34 _)
            clear hr34 hC34 hroom34 hi034 hsz34 hc34
            have KY34 := Aside0.mk hy34
            have KA34 := Aside0.mk hA34
            clear hy34 hA34
            replace q34 := eq_true q34
            refine start_ (n := 11) (S := fun w' => w'.cell? ⟨gb478, 0, none⟩ = some (.int .i64 a0_0) ∧ w'.cell? ⟨gb478, 1, none⟩ = some (.int .i64 a0_1) ∧ w'.cell? ⟨gb478, 2, none⟩ = some (.slice A0_2 l0_2.length c0_2)) (ds := []) #[false, false, false, false, false, false, false, false, false, false, false] (by kernel_rfl) rfl rfl ⟨(blk_cell BK478.out 0).trans rfl, (blk_cell BK478.out 1).trans rfl, (blk_cell BK478.out 2).trans rfl⟩ (fun hHeld => ?_); refine with_tabW wayfinderlaw20_PlanParts.tab5 wayfinderlaw20_PlanParts.bits5 (fun HT_ HW_ => ?_)
            generalize w31.drew = w32 at HO484 BK478 BK485 HB HR489 HR498 hHeld ⊢
            refine pure_ (i := 1) (N := some 40) (v := ?_) (a' := ?_) #[false, true, false, false, false, false, false, false, false, false, false] rfl rfl (any_of HT_.out (by kernel_rfl)) (fun _ _ _ h => h) (Or.inl ⟨by rfl, ?_⟩) ?_ ?_
            rotate_left
            · intro w'
              go_simp
              with_reducible rfl
            rotate_left
            · simp only [Act.put, List.setIfInBounds_toArray, List.set_cons_zero, List.set_cons_succ, i64_w, i32_w]
              rfl
            refine pure_ (i := 2) (N := some 41) (v := ?_) (a' := ?_) #[false, true, true, false, false, false, false, false, false, false, false] rfl rfl (any_of HT_.out (by kernel_rfl)) (fun _ _ _ h => h) (Or.inl ⟨by rfl, ?_⟩) ?_ ?_
            rotate_left
            · intro w'
              go_simp
              with_reducible rfl
            rotate_left
            · simp only [Act.put, List.setIfInBounds_toArray, List.set_cons_zero, List.set_cons_succ, i64_w, i32_w]
              rfl
            refine pure_ (i := 3) (N := some 42) (v := ?_) (a' := ?_) #[false, true, true, true, false, false, false, false, false, false, false] rfl rfl (any_of HT_.out (by kernel_rfl)) (fun _ _ _ h => h) (Or.inl ⟨by rfl, ?_⟩) ?_ ?_
            rotate_left
            · intro w'
              go_simp
              with_reducible rfl
            rotate_left
            · simp only [Act.put, List.setIfInBounds_toArray, List.set_cons_zero, List.set_cons_succ, i64_w, i32_w]
              rfl
            refine pure_ (i := 5) (N := some 44) (v := ?_) (a' := ?_) #[false, true, true, true, false, true, false, false, false, false, false] rfl rfl (any_of HT_.out (by kernel_rfl)) (fun _ _ _ h => h) (Or.inl ⟨by rfl, ?_⟩) ?_ ?_
            rotate_left
            · intro w'
              go_simp
              with_reducible rfl
            rotate_left
            · simp only [Act.put, List.setIfInBounds_toArray, List.set_cons_zero, List.set_cons_succ, i64_w, i32_w]
              rfl
            refine pure_ (i := 6) (N := some 45) (v := ?_) (a' := ?_) #[false, true, true, true, false, true, true, false, false, false, false] rfl rfl (any_of HT_.out (by kernel_rfl)) (fun _ _ _ h => h) (Or.inl ⟨by rfl, ?_⟩) ?_ ?_
            rotate_left
            · intro w'
              go_simp
              with_reducible rfl
            rotate_left
            · simp only [Act.put, List.setIfInBounds_toArray, List.set_cons_zero, List.set_cons_succ, i64_w, i32_w]
              rfl
            refine pure_ (i := 7) (N := some 46) (v := ?_) (a' := ?_) #[false, true, true, true, false, true, true, true, false, false, false] rfl rfl (any_of HT_.out (by kernel_rfl)) (fun _ _ _ h => h) (Or.inl ⟨by rfl, ?_⟩) ?_ ?_
            rotate_left
            · intro w'
              go_simp
              with_reducible rfl
            rotate_left
            · simp only [Act.put, List.setIfInBounds_toArray, List.set_cons_zero, List.set_cons_succ, i64_w, i32_w]
              rfl
            refine take_ (i := 0) (N := some 39) (v := ?_) (a' := ?_) #[true, true, true, true, false, true, true, true, false, false, false] rfl rfl (take_ofW HT_.out HW_.out (by kernel_rfl)) (fun _ _ _ h => h) (Or.inl ⟨by rfl, ?_⟩) hHeld ?_ ?_
            rotate_left
            · rintro w' ⟨s0, s1, s2⟩
              go_simp
              with_reducible rfl
            rotate_left
            · simp only [Act.put, List.setIfInBounds_toArray, List.set_cons_zero, List.set_cons_succ, i64_w, i32_w]
              rfl
            refine join_ (σ := Value × Value × Nat) 1 #[true, true, true, true, true, true, true, true, true, true, false] (fun s_ => [(43, .agg #[.int .i64 t490, .int .i64 t491, s_.1]), (47, .agg #[.int .i64 t499, .int .i64 t500, s_.2.1]), (9, .pointer (some ⟨s_.2.2, 0, none⟩))]) (fun s_ w' => (w'.cell? ⟨gb478, 0, none⟩ = some (.int .i64 a0_0) ∧ w'.cell? ⟨gb478, 1, none⟩ = some (.int .i64 a0_1) ∧ w'.cell? ⟨gb478, 2, none⟩ = some (.slice A0_2 l0_2.length c0_2)) ∧ (Kd.V k34 34 w' w.heap.size (fun k_ => k_ ≠ gb478 ∧ k_ ≠ gb485 ∧ k_ ≠ s_.2.2) (.slice Ao30 t482.length co30) t482) ∧ (Kd.V k34 34 w' w.heap.size (fun k_ => k_ ≠ gb478 ∧ k_ ≠ gb485 ∧ k_ ≠ s_.2.2) s_.1 t492) ∧ (Kd.V k34 34 w' w.heap.size (fun k_ => k_ ≠ gb478 ∧ k_ ≠ gb485 ∧ k_ ≠ s_.2.2) s_.2.1 t501) ∧ (w'.heap[gb478]? = some (.cells #[.int .i64 a0_0, .int .i64 a0_1, .slice A0_2 l0_2.length c0_2] 41 (0, 0))) ∧ (w'.heap[gb485]? = some (.cells #[.int .i64 t480, .int .i64 t481, .slice Ao30 t482.length co30] 41 (0, 0))) ∧ (w'.heap[s_.2.2]? = some (.cells #[.int .i64 0, .int .i64 0, .slice none 0 0] 41 (0, 0))) ∧ (w.heap.size ≤ s_.2.2) ∧ (w.heap.size ≤ s_.2.2) ∧ (gb478 ≠ s_.2.2) ∧ (s_.2.2 ≠ gb478) ∧ (gb485 ≠ s_.2.2) ∧ (s_.2.2 ≠ gb485) ∧ (Below w.heap.size w w')) ?_ ?_
            rotate_left
            · intro hCont
              refine two_ (i := 4) (j := 9) (Ni := some 43) (Nj := some 9) #[true, true, true, true, true, true, true, true, false, false, false] #[true, true, true, true, false, true, true, true, false, true, false] rfl rfl rfl rfl (two_of HT_.out (by kernel_rfl)) (by decide) (by decide) (fun K hK => ?_) (fun K hK => ?_)
              · skip
                refine goes_ Try.func29 (by kernel_rfl) rfl #[.agg #[.int .i64 a0_0, .int .i64 a0_1, .slice A0_2 l0_2.length c0_2], .slice A1 y486.length c1] (by rfl) rfl rfl (by (try simp only [List.map_toArray, List.map_cons, List.map_nil]); first | done | rfl | (simp only [List.length_drop, List.length_take]; rfl)) ?_
                with_reducible refine (plan_Push.calls kj4 a0_0 a0_1 _ _ l0_2 _ _ y486 t490 t491 t492 _ ?side1 ?side2 ?side3 ?side4 A20.out).mono ?_
                (case side1 => repeat (first | exact (Kd.C_below HR0_2.out HB.out) | (with_reducible refine Kd.C_alloc ?_ _) | (with_reducible refine Kd.C_drewN ?_ _) | (with_reducible refine Kd.C_drew ?_)))
                (case side2 => exact HC0_2.out)
                (case side3 => repeat (first | exact (Kd.C_below HR489.out HB.out) | (with_reducible refine Kd.C_alloc ?_ _) | (with_reducible refine Kd.C_drewN ?_ _) | (with_reducible refine Kd.C_drew ?_)))
                (case side4 => exact HC489.out)
                rintro e w35 ⟨v493, rfl, ho0, hb⟩
                refine ⟨_, rfl, ?_⟩
                have n0_ := Aside0.mk (Kd.V_below (by (with_reducible repeat (first | apply Kd.V_alloc | apply Kd.V_drewN | apply Kd.V_drew)); exact HO484.out) hb)
                have n1_ := Aside0.mk (Kd.V_lower (Kd.V_mono (ok' := fun k_ => k_ ≠ gb478 ∧ k_ ≠ gb485) ho0 (fun k_ hk_ => ⟨(Kd.freshB (g := gb478) (o := .cells #[.int .i64 a0_0, .int .i64 a0_1, .slice A0_2 l0_2.length c0_2] 41 (0, 0)) (by (with_reducible repeat (first | refine blk_drewN ?_ _ | refine blk_drew ?_ | refine blk_alloc ?_ _)); exact BK478.out) k_ hk_), (Kd.freshB (g := gb485) (o := .cells #[.int .i64 t480, .int .i64 t481, .slice Ao30 t482.length co30] 41 (0, 0)) (by (with_reducible repeat (first | refine blk_drewN ?_ _ | refine blk_drew ?_ | refine blk_alloc ?_ _)); exact BK485.out) k_ hk_)⟩)) (below_size (by repeat (first | (with_reducible first | exact HB.out | apply below_alloc | apply pw_below_drewN | apply below_drew1 | refine below_set ?_ GE478.out | refine below_set ?_ GE485.out) | exact HB.out))))
                have n2_ := Aside0.mk (blk_below (g := gb478) (o := .cells #[.int .i64 a0_0, .int .i64 a0_1, .slice A0_2 l0_2.length c0_2] 41 (0, 0)) (by (with_reducible repeat (first | refine blk_drewN ?_ _ | refine blk_drew ?_ | refine blk_alloc ?_ _)); exact BK478.out) hb)
                have n3_ := Aside0.mk (blk_below (g := gb485) (o := .cells #[.int .i64 t480, .int .i64 t481, .slice Ao30 t482.length co30] 41 (0, 0)) (by (with_reducible repeat (first | refine blk_drewN ?_ _ | refine blk_drew ?_ | refine blk_alloc ?_ _)); exact BK485.out) hb)
                have n4_ := Aside0.mk (below_step (by repeat (first | (with_reducible first | exact HB.out | apply below_alloc | apply pw_below_drewN | apply below_drew1 | refine below_set ?_ GE478.out | refine below_set ?_ GE485.out) | exact HB.out)) hb)
                clear HO484
                clear BK478
                clear BK485
                clear HB
                have HO484 := n0_
                have HO494 := n1_
                have BK478 := n2_
                have BK485 := n3_
                have HB := n4_
                clear n0_ n1_ n2_ n3_ n4_
                (try clear hb)
                (try clear hb2)
                (try clear hk)
                (try clear hi)
                (try clear ho0)
                obtain ⟨Ao36, co36, eo36⟩ := Kd.V_slice HO494.out
                (first | subst eo36 | (injection eo36 with f1_ f2_ f3_; have f4_ := f1_.symm; have f5_ := f3_.symm; clear f1_ f2_ f3_; subst f4_; subst f5_))
                refine hK.out _ _ ⟨(blk_cell BK478.out 0).trans rfl, (blk_cell BK478.out 1).trans rfl, (blk_cell BK478.out 2).trans rfl⟩ (fun hHeld => ?_)
                clear hK K
                refine norm_ (a' := ?_) ?_ ?_
                rotate_left
                · show Act.put _ (some 43) _ = _
                  simp only [Act.put, List.setIfInBounds_toArray, List.set_cons_zero, List.set_cons_succ, i64_w, i32_w]
                  rfl
                refine two_ (i := 8) (j := 9) (Ni := some 47) (Nj := some 9) #[true, true, true, true, true, true, true, true, true, false, false] #[true, true, true, true, true, true, true, true, false, true, false] rfl rfl rfl rfl (two_of HT_.out (by kernel_rfl)) (by decide) (by decide) (fun K hK => ?_) (fun K hK => ?_)
                · skip
                  refine goes_ Try.func29 (by kernel_rfl) rfl #[.agg #[.int .i64 t490, .int .i64 t491, .slice Ao36 t492.length co36], .slice A34 y495.length c34] (by rfl) rfl rfl (by (try simp only [List.map_toArray, List.map_cons, List.map_nil]); first | done | rfl | (simp only [List.length_drop, List.length_take]; rfl)) ?_
                  with_reducible refine (plan_Push.calls kj4 t490 t491 _ _ t492 _ _ y495 t499 t500 t501 _ ?side1 ?side2 ?side3 ?side4 A23.out).mono ?_
                  (case side1 => repeat (first | exact (Kd.V_reads' HO494.out).2.2 | (with_reducible refine Kd.C_alloc ?_ _) | (with_reducible refine Kd.C_drewN ?_ _) | (with_reducible refine Kd.C_drew ?_)))
                  (case side2 => exact (Kd.V_reads' HO494.out).2.1)
                  (case side3 => repeat (first | exact (Kd.C_below HR498.out HB.out) | (with_reducible refine Kd.C_alloc ?_ _) | (with_reducible refine Kd.C_drewN ?_ _) | (with_reducible refine Kd.C_drew ?_)))
                  (case side4 => exact HC498.out)
                  rintro e w37 ⟨v502, rfl, ho0, hb⟩
                  refine ⟨_, rfl, ?_⟩
                  have n0_ := Aside0.mk (Kd.V_below (by (with_reducible repeat (first | apply Kd.V_alloc | apply Kd.V_drewN | apply Kd.V_drew)); exact HO484.out) hb)
                  have n1_ := Aside0.mk (Kd.V_below (by (with_reducible repeat (first | apply Kd.V_alloc | apply Kd.V_drewN | apply Kd.V_drew)); exact HO494.out) hb)
                  have n2_ := Aside0.mk (Kd.V_lower (Kd.V_mono (ok' := fun k_ => k_ ≠ gb478 ∧ k_ ≠ gb485) ho0 (fun k_ hk_ => ⟨(Kd.freshB (g := gb478) (o := .cells #[.int .i64 a0_0, .int .i64 a0_1, .slice A0_2 l0_2.length c0_2] 41 (0, 0)) (by (with_reducible repeat (first | refine blk_drewN ?_ _ | refine blk_drew ?_ | refine blk_alloc ?_ _)); exact BK478.out) k_ hk_), (Kd.freshB (g := gb485) (o := .cells #[.int .i64 t480, .int .i64 t481, .slice Ao30 t482.length co30] 41 (0, 0)) (by (with_reducible repeat (first | refine blk_drewN ?_ _ | refine blk_drew ?_ | refine blk_alloc ?_ _)); exact BK485.out) k_ hk_)⟩)) (below_size (by repeat (first | (with_reducible first | exact HB.out | apply below_alloc | apply pw_below_drewN | apply below_drew1 | refine below_set ?_ GE478.out | refine below_set ?_ GE485.out) | exact HB.out))))
                  have n3_ := Aside0.mk (blk_below (g := gb478) (o := .cells #[.int .i64 a0_0, .int .i64 a0_1, .slice A0_2 l0_2.length c0_2] 41 (0, 0)) (by (with_reducible repeat (first | refine blk_drewN ?_ _ | refine blk_drew ?_ | refine blk_alloc ?_ _)); exact BK478.out) hb)
                  have n4_ := Aside0.mk (blk_below (g := gb485) (o := .cells #[.int .i64 t480, .int .i64 t481, .slice Ao30 t482.length co30] 41 (0, 0)) (by (with_reducible repeat (first | refine blk_drewN ?_ _ | refine blk_drew ?_ | refine blk_alloc ?_ _)); exact BK485.out) hb)
                  have n5_ := Aside0.mk (below_step (by repeat (first | (with_reducible first | exact HB.out | apply below_alloc | apply pw_below_drewN | apply below_drew1 | refine below_set ?_ GE478.out | refine below_set ?_ GE485.out) | exact HB.out)) hb)
                  clear HO484
                  clear HO494
                  clear BK478
                  clear BK485
                  clear HB
                  have HO484 := n0_
                  have HO494 := n1_
                  have HO503 := n2_
                  have BK478 := n3_
                  have BK485 := n4_
                  have HB := n5_
                  clear n0_ n1_ n2_ n3_ n4_ n5_
                  (try clear hb)
                  (try clear hb2)
                  (try clear hk)
                  (try clear hi)
                  (try clear ho0)
                  refine hK.out _ _ ⟨(blk_cell BK478.out 0).trans rfl, (blk_cell BK478.out 1).trans rfl, (blk_cell BK478.out 2).trans rfl⟩ (fun hHeld => ?_)
                  clear hK K
                  refine norm_ (a' := ?_) ?_ ?_
                  rotate_left
                  · show Act.put _ (some 47) _ = _
                    simp only [Act.put, List.setIfInBounds_toArray, List.set_cons_zero, List.set_cons_succ, i64_w, i32_w]
                    rfl
                  refine one_ (i := 9) (N := some 9) #[true, true, true, true, true, true, true, true, true, true, false] rfl rfl (one_of HT_.out (by kernel_rfl)) (by decide) (fun K hK => ?_)
                  refine box_step ?hg (N := 9) ?hd (cs := #[.int .i64 0, .int .i64 0, .slice none 0 0]) (t := 41) ?hr ?_; (case hd => rfl); (case hg => rfl); (case hr => first | (go_simp; done) | (go_simp; rfl))
                  intro gb504 hg w38 hbox hb
                  have n0_ := Aside0.mk (Kd.V_below (Kd.V_elderB (by (with_reducible repeat (first | apply Kd.V_alloc | apply Kd.V_drewN | apply Kd.V_drew)); exact HO484.out) gb504 (Nat.le_of_eq hg.symm)) hb)
                  have n1_ := Aside0.mk (Kd.V_below (Kd.V_elderB (by (with_reducible repeat (first | apply Kd.V_alloc | apply Kd.V_drewN | apply Kd.V_drew)); exact HO494.out) gb504 (Nat.le_of_eq hg.symm)) hb)
                  have n2_ := Aside0.mk (Kd.V_below (Kd.V_elderB (by (with_reducible repeat (first | apply Kd.V_alloc | apply Kd.V_drewN | apply Kd.V_drew)); exact HO503.out) gb504 (Nat.le_of_eq hg.symm)) hb)
                  have n3_ := Aside0.mk (blk_below (g := gb478) (o := .cells #[.int .i64 a0_0, .int .i64 a0_1, .slice A0_2 l0_2.length c0_2] 41 (0, 0)) (by (with_reducible repeat (first | refine blk_drewN ?_ _ | refine blk_drew ?_ | refine blk_alloc ?_ _)); exact BK478.out) hb)
                  have n4_ := Aside0.mk (blk_below (g := gb485) (o := .cells #[.int .i64 t480, .int .i64 t481, .slice Ao30 t482.length co30] 41 (0, 0)) (by (with_reducible repeat (first | refine blk_drewN ?_ _ | refine blk_drew ?_ | refine blk_alloc ?_ _)); exact BK485.out) hb)
                  have n5_ := Aside0.mk (below_step (by repeat (first | (with_reducible first | exact HB.out | apply below_alloc | apply pw_below_drewN | apply below_drew1 | refine below_set ?_ GE478.out | refine below_set ?_ GE485.out) | exact HB.out)) hb)
                  have n6_ := Aside0.mk (hbox)
                  have n7_ := Aside0.mk ((by rw [hg]; exact (below_size (by repeat (first | (with_reducible first | exact HB.out | apply below_alloc | apply pw_below_drewN | apply below_drew1 | refine below_set ?_ GE478.out | refine below_set ?_ GE485.out) | exact HB.out))) : w.heap.size ≤ gb504))
                  have n8_ := Aside0.mk ((by rw [hg]; exact (below_size (by repeat (first | (with_reducible first | exact HB.out | apply below_alloc | apply pw_below_drewN | apply below_drew1 | refine below_set ?_ GE478.out | refine below_set ?_ GE485.out) | exact HB.out))) : w.heap.size ≤ gb504))
                  have n9_ := Aside0.mk ((by rw [hg]; exact Nat.ne_of_lt (blk_lt (g := gb478) (o := .cells #[.int .i64 a0_0, .int .i64 a0_1, .slice A0_2 l0_2.length c0_2] 41 (0, 0)) (by (with_reducible repeat (first | refine blk_drewN ?_ _ | refine blk_drew ?_ | refine blk_alloc ?_ _)); exact BK478.out)) : gb478 ≠ gb504))
                  have n10_ := Aside0.mk ((by rw [hg]; exact Nat.ne_of_gt (blk_lt (g := gb478) (o := .cells #[.int .i64 a0_0, .int .i64 a0_1, .slice A0_2 l0_2.length c0_2] 41 (0, 0)) (by (with_reducible repeat (first | refine blk_drewN ?_ _ | refine blk_drew ?_ | refine blk_alloc ?_ _)); exact BK478.out)) : gb504 ≠ gb478))
                  have n11_ := Aside0.mk ((by rw [hg]; exact Nat.ne_of_lt (blk_lt (g := gb485) (o := .cells #[.int .i64 t480, .int .i64 t481, .slice Ao30 t482.length co30] 41 (0, 0)) (by (with_reducible repeat (first | refine blk_drewN ?_ _ | refine blk_drew ?_ | refine blk_alloc ?_ _)); exact BK485.out)) : gb485 ≠ gb504))
                  have n12_ := Aside0.mk ((by rw [hg]; exact Nat.ne_of_gt (blk_lt (g := gb485) (o := .cells #[.int .i64 t480, .int .i64 t481, .slice Ao30 t482.length co30] 41 (0, 0)) (by (with_reducible repeat (first | refine blk_drewN ?_ _ | refine blk_drew ?_ | refine blk_alloc ?_ _)); exact BK485.out)) : gb504 ≠ gb485))
                  clear HO484
                  clear HO494
                  clear HO503
                  clear BK478
                  clear BK485
                  clear HB
                  have HO484 := n0_
                  have HO494 := n1_
                  have HO503 := n2_
                  have BK478 := n3_
                  have BK485 := n4_
                  have HB := n5_
                  have BK504 := n6_
                  have GW504 := n7_
                  have GE504 := n8_
                  have NB478_504 := n9_
                  have NB504_478 := n10_
                  have NB485_504 := n11_
                  have NB504_485 := n12_
                  clear n0_ n1_ n2_ n3_ n4_ n5_ n6_ n7_ n8_ n9_ n10_ n11_ n12_
                  clear hb hbox hg
                  refine hK.out _ _ ⟨(blk_cell BK478.out 0).trans rfl, (blk_cell BK478.out 1).trans rfl, (blk_cell BK478.out 2).trans rfl⟩ (fun hHeld => ?_)
                  clear hK K
                  refine norm_ (a' := ?_) ?_ ?_
                  rotate_left
                  · show Act.put _ (some 9) _ = _
                    simp only [Act.put, List.setIfInBounds_toArray, List.set_cons_zero, List.set_cons_succ, i64_w, i32_w]
                    rfl
                  exact norm_ (by simp only [putAll, Act.put, List.setIfInBounds_toArray, List.set_cons_zero, List.set_cons_succ]) (hCont (.slice Ao36 t492.length co36, v502, gb504) _ ⟨hHeld, (by (with_reducible repeat (first | apply Kd.V_alloc | apply Kd.V_drewN | apply Kd.V_drew)); exact Kd.V_mono HO484.out (fun _ hk => ⟨hk.1.1, ⟨hk.1.2, hk.2⟩⟩)), (by (with_reducible repeat (first | apply Kd.V_alloc | apply Kd.V_drewN | apply Kd.V_drew)); exact Kd.V_mono HO494.out (fun _ hk => ⟨hk.1.1, ⟨hk.1.2, hk.2⟩⟩)), (by (with_reducible repeat (first | apply Kd.V_alloc | apply Kd.V_drewN | apply Kd.V_drew)); exact Kd.V_mono HO503.out (fun _ hk => ⟨hk.1.1, ⟨hk.1.2, hk.2⟩⟩)), (by (with_reducible repeat (first | refine blk_drewN ?_ _ | refine blk_drew ?_ | refine blk_alloc ?_ _)); exact BK478.out), (by (with_reducible repeat (first | refine blk_drewN ?_ _ | refine blk_drew ?_ | refine blk_alloc ?_ _)); exact BK485.out), (by (with_reducible repeat (first | refine blk_drewN ?_ _ | refine blk_drew ?_ | refine blk_alloc ?_ _)); exact BK504.out), GW504.out, GE504.out, NB478_504.out, NB504_478.out, NB485_504.out, NB504_485.out, (by repeat (first | (with_reducible first | exact HB.out | apply below_alloc | apply pw_below_drewN | apply below_drew1 | refine below_set ?_ GE478.out | refine below_set ?_ GE485.out | refine below_set ?_ GE504.out) | exact HB.out))⟩)
                · skip
                  refine box_step ?hg (N := 9) ?hd (cs := #[.int .i64 0, .int .i64 0, .slice none 0 0]) (t := 41) ?hr ?_; (case hd => rfl); (case hg => rfl); (case hr => first | (go_simp; done) | (go_simp; rfl))
                  intro gb504 hg w36 hbox hb
                  have n0_ := Aside0.mk (Kd.V_below (Kd.V_elderB (by (with_reducible repeat (first | apply Kd.V_alloc | apply Kd.V_drewN | apply Kd.V_drew)); exact HO484.out) gb504 (Nat.le_of_eq hg.symm)) hb)
                  have n1_ := Aside0.mk (Kd.V_below (Kd.V_elderB (by (with_reducible repeat (first | apply Kd.V_alloc | apply Kd.V_drewN | apply Kd.V_drew)); exact HO494.out) gb504 (Nat.le_of_eq hg.symm)) hb)
                  have n2_ := Aside0.mk (blk_below (g := gb478) (o := .cells #[.int .i64 a0_0, .int .i64 a0_1, .slice A0_2 l0_2.length c0_2] 41 (0, 0)) (by (with_reducible repeat (first | refine blk_drewN ?_ _ | refine blk_drew ?_ | refine blk_alloc ?_ _)); exact BK478.out) hb)
                  have n3_ := Aside0.mk (blk_below (g := gb485) (o := .cells #[.int .i64 t480, .int .i64 t481, .slice Ao30 t482.length co30] 41 (0, 0)) (by (with_reducible repeat (first | refine blk_drewN ?_ _ | refine blk_drew ?_ | refine blk_alloc ?_ _)); exact BK485.out) hb)
                  have n4_ := Aside0.mk (below_step (by repeat (first | (with_reducible first | exact HB.out | apply below_alloc | apply pw_below_drewN | apply below_drew1 | refine below_set ?_ GE478.out | refine below_set ?_ GE485.out) | exact HB.out)) hb)
                  have n5_ := Aside0.mk (hbox)
                  have n6_ := Aside0.mk ((by rw [hg]; exact (below_size (by repeat (first | (with_reducible first | exact HB.out | apply below_alloc | apply pw_below_drewN | apply below_drew1 | refine below_set ?_ GE478.out | refine below_set ?_ GE485.out) | exact HB.out))) : w.heap.size ≤ gb504))
                  have n7_ := Aside0.mk ((by rw [hg]; exact (below_size (by repeat (first | (with_reducible first | exact HB.out | apply below_alloc | apply pw_below_drewN | apply below_drew1 | refine below_set ?_ GE478.out | refine below_set ?_ GE485.out) | exact HB.out))) : w.heap.size ≤ gb504))
                  have n8_ := Aside0.mk ((by rw [hg]; exact Nat.ne_of_lt (blk_lt (g := gb478) (o := .cells #[.int .i64 a0_0, .int .i64 a0_1, .slice A0_2 l0_2.length c0_2] 41 (0, 0)) (by (with_reducible repeat (first | refine blk_drewN ?_ _ | refine blk_drew ?_ | refine blk_alloc ?_ _)); exact BK478.out)) : gb478 ≠ gb504))
                  have n9_ := Aside0.mk ((by rw [hg]; exact Nat.ne_of_gt (blk_lt (g := gb478) (o := .cells #[.int .i64 a0_0, .int .i64 a0_1, .slice A0_2 l0_2.length c0_2] 41 (0, 0)) (by (with_reducible repeat (first | refine blk_drewN ?_ _ | refine blk_drew ?_ | refine blk_alloc ?_ _)); exact BK478.out)) : gb504 ≠ gb478))
                  have n10_ := Aside0.mk ((by rw [hg]; exact Nat.ne_of_lt (blk_lt (g := gb485) (o := .cells #[.int .i64 t480, .int .i64 t481, .slice Ao30 t482.length co30] 41 (0, 0)) (by (with_reducible repeat (first | refine blk_drewN ?_ _ | refine blk_drew ?_ | refine blk_alloc ?_ _)); exact BK485.out)) : gb485 ≠ gb504))
                  have n11_ := Aside0.mk ((by rw [hg]; exact Nat.ne_of_gt (blk_lt (g := gb485) (o := .cells #[.int .i64 t480, .int .i64 t481, .slice Ao30 t482.length co30] 41 (0, 0)) (by (with_reducible repeat (first | refine blk_drewN ?_ _ | refine blk_drew ?_ | refine blk_alloc ?_ _)); exact BK485.out)) : gb504 ≠ gb485))
                  clear HO484
                  clear HO494
                  clear BK478
                  clear BK485
                  clear HB
                  have HO484 := n0_
                  have HO494 := n1_
                  have BK478 := n2_
                  have BK485 := n3_
                  have HB := n4_
                  have BK504 := n5_
                  have GW504 := n6_
                  have GE504 := n7_
                  have NB478_504 := n8_
                  have NB504_478 := n9_
                  have NB485_504 := n10_
                  have NB504_485 := n11_
                  clear n0_ n1_ n2_ n3_ n4_ n5_ n6_ n7_ n8_ n9_ n10_ n11_
                  clear hb hbox hg
                  obtain ⟨Ao37, co37, eo37⟩ := Kd.V_slice HO494.out
                  (first | subst eo37 | (injection eo37 with f1_ f2_ f3_; have f4_ := f1_.symm; have f5_ := f3_.symm; clear f1_ f2_ f3_; subst f4_; subst f5_))
                  refine hK.out _ _ ⟨(blk_cell BK478.out 0).trans rfl, (blk_cell BK478.out 1).trans rfl, (blk_cell BK478.out 2).trans rfl⟩ (fun hHeld => ?_)
                  clear hK K
                  refine norm_ (a' := ?_) ?_ ?_
                  rotate_left
                  · show Act.put _ (some 9) _ = _
                    simp only [Act.put, List.setIfInBounds_toArray, List.set_cons_zero, List.set_cons_succ, i64_w, i32_w]
                    rfl
                  refine one_ (i := 8) (N := some 47) #[true, true, true, true, true, true, true, true, true, true, false] rfl rfl (one_of HT_.out (by kernel_rfl)) (by decide) (fun K hK => ?_)
                  refine goes_ Try.func29 (by kernel_rfl) rfl #[.agg #[.int .i64 t490, .int .i64 t491, .slice Ao37 t492.length co37], .slice A34 y495.length c34] (by rfl) rfl rfl (by (try simp only [List.map_toArray, List.map_cons, List.map_nil]); first | done | rfl | (simp only [List.length_drop, List.length_take]; rfl)) ?_
                  with_reducible refine (plan_Push.calls kj4 t490 t491 _ _ t492 _ _ y495 t499 t500 t501 _ ?side1 ?side2 ?side3 ?side4 A23.out).mono ?_
                  (case side1 => repeat (first | exact (Kd.V_reads' HO494.out).2.2 | (with_reducible refine Kd.C_alloc ?_ _) | (with_reducible refine Kd.C_drewN ?_ _) | (with_reducible refine Kd.C_drew ?_)))
                  (case side2 => exact (Kd.V_reads' HO494.out).2.1)
                  (case side3 => repeat (first | exact (Kd.C_below HR498.out HB.out) | (with_reducible refine Kd.C_alloc ?_ _) | (with_reducible refine Kd.C_drewN ?_ _) | (with_reducible refine Kd.C_drew ?_)))
                  (case side4 => exact HC498.out)
                  rintro e w38 ⟨v502, rfl, ho0, hb⟩
                  refine ⟨_, rfl, ?_⟩
                  have n0_ := Aside0.mk (Kd.V_below (by (with_reducible repeat (first | apply Kd.V_alloc | apply Kd.V_drewN | apply Kd.V_drew)); exact HO484.out) hb)
                  have n1_ := Aside0.mk (Kd.V_below (by (with_reducible repeat (first | apply Kd.V_alloc | apply Kd.V_drewN | apply Kd.V_drew)); exact HO494.out) hb)
                  have n2_ := Aside0.mk (Kd.V_lower (Kd.V_mono (ok' := fun k_ => k_ ≠ gb478 ∧ k_ ≠ gb485 ∧ k_ ≠ gb504) ho0 (fun k_ hk_ => ⟨(Kd.freshB (g := gb478) (o := .cells #[.int .i64 a0_0, .int .i64 a0_1, .slice A0_2 l0_2.length c0_2] 41 (0, 0)) (by (with_reducible repeat (first | refine blk_drewN ?_ _ | refine blk_drew ?_ | refine blk_alloc ?_ _)); exact BK478.out) k_ hk_), (Kd.freshB (g := gb485) (o := .cells #[.int .i64 t480, .int .i64 t481, .slice Ao30 t482.length co30] 41 (0, 0)) (by (with_reducible repeat (first | refine blk_drewN ?_ _ | refine blk_drew ?_ | refine blk_alloc ?_ _)); exact BK485.out) k_ hk_), (Kd.freshB (g := gb504) (o := .cells #[.int .i64 0, .int .i64 0, .slice none 0 0] 41 (0, 0)) (by (with_reducible repeat (first | refine blk_drewN ?_ _ | refine blk_drew ?_ | refine blk_alloc ?_ _)); exact BK504.out) k_ hk_)⟩)) (below_size (by repeat (first | (with_reducible first | exact HB.out | apply below_alloc | apply pw_below_drewN | apply below_drew1 | refine below_set ?_ GE478.out | refine below_set ?_ GE485.out | refine below_set ?_ GE504.out) | exact HB.out))))
                  have n3_ := Aside0.mk (blk_below (g := gb478) (o := .cells #[.int .i64 a0_0, .int .i64 a0_1, .slice A0_2 l0_2.length c0_2] 41 (0, 0)) (by (with_reducible repeat (first | refine blk_drewN ?_ _ | refine blk_drew ?_ | refine blk_alloc ?_ _)); exact BK478.out) hb)
                  have n4_ := Aside0.mk (blk_below (g := gb485) (o := .cells #[.int .i64 t480, .int .i64 t481, .slice Ao30 t482.length co30] 41 (0, 0)) (by (with_reducible repeat (first | refine blk_drewN ?_ _ | refine blk_drew ?_ | refine blk_alloc ?_ _)); exact BK485.out) hb)
                  have n5_ := Aside0.mk (blk_below (g := gb504) (o := .cells #[.int .i64 0, .int .i64 0, .slice none 0 0] 41 (0, 0)) (by (with_reducible repeat (first | refine blk_drewN ?_ _ | refine blk_drew ?_ | refine blk_alloc ?_ _)); exact BK504.out) hb)
                  have n6_ := Aside0.mk (below_step (by repeat (first | (with_reducible first | exact HB.out | apply below_alloc | apply pw_below_drewN | apply below_drew1 | refine below_set ?_ GE478.out | refine below_set ?_ GE485.out | refine below_set ?_ GE504.out) | exact HB.out)) hb)
                  clear HO484
                  clear HO494
                  clear BK478
                  clear BK485
                  clear BK504
                  clear HB
                  have HO484 := n0_
                  have HO494 := n1_
                  have HO503 := n2_
                  have BK478 := n3_
                  have BK485 := n4_
                  have BK504 := n5_
                  have HB := n6_
                  clear n0_ n1_ n2_ n3_ n4_ n5_ n6_
                  (try clear hb)
                  (try clear hb2)
                  (try clear hk)
                  (try clear hi)
                  (try clear ho0)
                  refine hK.out _ _ ⟨(blk_cell BK478.out 0).trans rfl, (blk_cell BK478.out 1).trans rfl, (blk_cell BK478.out 2).trans rfl⟩ (fun hHeld => ?_)
                  clear hK K
                  refine norm_ (a' := ?_) ?_ ?_
                  rotate_left
                  · show Act.put _ (some 47) _ = _
                    simp only [Act.put, List.setIfInBounds_toArray, List.set_cons_zero, List.set_cons_succ, i64_w, i32_w]
                    rfl
                  exact norm_ (by simp only [putAll, Act.put, List.setIfInBounds_toArray, List.set_cons_zero, List.set_cons_succ]) (hCont (.slice Ao37 t492.length co37, v502, gb504) _ ⟨hHeld, (by (with_reducible repeat (first | apply Kd.V_alloc | apply Kd.V_drewN | apply Kd.V_drew)); exact Kd.V_mono HO484.out (fun _ hk => ⟨hk.1.1, ⟨hk.1.2, hk.2⟩⟩)), (by (with_reducible repeat (first | apply Kd.V_alloc | apply Kd.V_drewN | apply Kd.V_drew)); exact Kd.V_mono HO494.out (fun _ hk => ⟨hk.1.1, ⟨hk.1.2, hk.2⟩⟩)), (by (with_reducible repeat (first | apply Kd.V_alloc | apply Kd.V_drewN | apply Kd.V_drew)); exact HO503.out), (by (with_reducible repeat (first | refine blk_drewN ?_ _ | refine blk_drew ?_ | refine blk_alloc ?_ _)); exact BK478.out), (by (with_reducible repeat (first | refine blk_drewN ?_ _ | refine blk_drew ?_ | refine blk_alloc ?_ _)); exact BK485.out), (by (with_reducible repeat (first | refine blk_drewN ?_ _ | refine blk_drew ?_ | refine blk_alloc ?_ _)); exact BK504.out), GW504.out, GE504.out, NB478_504.out, NB504_478.out, NB485_504.out, NB504_485.out, (by repeat (first | (with_reducible first | exact HB.out | apply below_alloc | apply pw_below_drewN | apply below_drew1 | refine below_set ?_ GE478.out | refine below_set ?_ GE485.out | refine below_set ?_ GE504.out) | exact HB.out))⟩)
              · skip
                refine box_step ?hg (N := 9) ?hd (cs := #[.int .i64 0, .int .i64 0, .slice none 0 0]) (t := 41) ?hr ?_; (case hd => rfl); (case hg => rfl); (case hr => first | (go_simp; done) | (go_simp; rfl))
                intro gb504 hg w35 hbox hb
                have n0_ := Aside0.mk (Kd.V_below (Kd.V_elderB (by (with_reducible repeat (first | apply Kd.V_alloc | apply Kd.V_drewN | apply Kd.V_drew)); exact HO484.out) gb504 (Nat.le_of_eq hg.symm)) hb)
                have n1_ := Aside0.mk (blk_below (g := gb478) (o := .cells #[.int .i64 a0_0, .int .i64 a0_1, .slice A0_2 l0_2.length c0_2] 41 (0, 0)) (by (with_reducible repeat (first | refine blk_drewN ?_ _ | refine blk_drew ?_ | refine blk_alloc ?_ _)); exact BK478.out) hb)
                have n2_ := Aside0.mk (blk_below (g := gb485) (o := .cells #[.int .i64 t480, .int .i64 t481, .slice Ao30 t482.length co30] 41 (0, 0)) (by (with_reducible repeat (first | refine blk_drewN ?_ _ | refine blk_drew ?_ | refine blk_alloc ?_ _)); exact BK485.out) hb)
                have n3_ := Aside0.mk (below_step (by repeat (first | (with_reducible first | exact HB.out | apply below_alloc | apply pw_below_drewN | apply below_drew1 | refine below_set ?_ GE478.out | refine below_set ?_ GE485.out) | exact HB.out)) hb)
                have n4_ := Aside0.mk (hbox)
                have n5_ := Aside0.mk ((by rw [hg]; exact (below_size (by repeat (first | (with_reducible first | exact HB.out | apply below_alloc | apply pw_below_drewN | apply below_drew1 | refine below_set ?_ GE478.out | refine below_set ?_ GE485.out) | exact HB.out))) : w.heap.size ≤ gb504))
                have n6_ := Aside0.mk ((by rw [hg]; exact (below_size (by repeat (first | (with_reducible first | exact HB.out | apply below_alloc | apply pw_below_drewN | apply below_drew1 | refine below_set ?_ GE478.out | refine below_set ?_ GE485.out) | exact HB.out))) : w.heap.size ≤ gb504))
                have n7_ := Aside0.mk ((by rw [hg]; exact Nat.ne_of_lt (blk_lt (g := gb478) (o := .cells #[.int .i64 a0_0, .int .i64 a0_1, .slice A0_2 l0_2.length c0_2] 41 (0, 0)) (by (with_reducible repeat (first | refine blk_drewN ?_ _ | refine blk_drew ?_ | refine blk_alloc ?_ _)); exact BK478.out)) : gb478 ≠ gb504))
                have n8_ := Aside0.mk ((by rw [hg]; exact Nat.ne_of_gt (blk_lt (g := gb478) (o := .cells #[.int .i64 a0_0, .int .i64 a0_1, .slice A0_2 l0_2.length c0_2] 41 (0, 0)) (by (with_reducible repeat (first | refine blk_drewN ?_ _ | refine blk_drew ?_ | refine blk_alloc ?_ _)); exact BK478.out)) : gb504 ≠ gb478))
                have n9_ := Aside0.mk ((by rw [hg]; exact Nat.ne_of_lt (blk_lt (g := gb485) (o := .cells #[.int .i64 t480, .int .i64 t481, .slice Ao30 t482.length co30] 41 (0, 0)) (by (with_reducible repeat (first | refine blk_drewN ?_ _ | refine blk_drew ?_ | refine blk_alloc ?_ _)); exact BK485.out)) : gb485 ≠ gb504))
                have n10_ := Aside0.mk ((by rw [hg]; exact Nat.ne_of_gt (blk_lt (g := gb485) (o := .cells #[.int .i64 t480, .int .i64 t481, .slice Ao30 t482.length co30] 41 (0, 0)) (by (with_reducible repeat (first | refine blk_drewN ?_ _ | refine blk_drew ?_ | refine blk_alloc ?_ _)); exact BK485.out)) : gb504 ≠ gb485))
                clear HO484
                clear BK478
                clear BK485
                clear HB
                have HO484 := n0_
                have BK478 := n1_
                have BK485 := n2_
                have HB := n3_
                have BK504 := n4_
                have GW504 := n5_
                have GE504 := n6_
                have NB478_504 := n7_
                have NB504_478 := n8_
                have NB485_504 := n9_
                have NB504_485 := n10_
                clear n0_ n1_ n2_ n3_ n4_ n5_ n6_ n7_ n8_ n9_ n10_
                clear hb hbox hg
                refine hK.out _ _ ⟨(blk_cell BK478.out 0).trans rfl, (blk_cell BK478.out 1).trans rfl, (blk_cell BK478.out 2).trans rfl⟩ (fun hHeld => ?_)
                clear hK K
                refine norm_ (a' := ?_) ?_ ?_
                rotate_left
                · show Act.put _ (some 9) _ = _
                  simp only [Act.put, List.setIfInBounds_toArray, List.set_cons_zero, List.set_cons_succ, i64_w, i32_w]
                  rfl
                refine one_ (i := 4) (N := some 43) #[true, true, true, true, true, true, true, true, false, true, false] rfl rfl (one_of HT_.out (by kernel_rfl)) (by decide) (fun K hK => ?_)
                refine goes_ Try.func29 (by kernel_rfl) rfl #[.agg #[.int .i64 a0_0, .int .i64 a0_1, .slice A0_2 l0_2.length c0_2], .slice A1 y486.length c1] (by rfl) rfl rfl (by (try simp only [List.map_toArray, List.map_cons, List.map_nil]); first | done | rfl | (simp only [List.length_drop, List.length_take]; rfl)) ?_
                with_reducible refine (plan_Push.calls kj4 a0_0 a0_1 _ _ l0_2 _ _ y486 t490 t491 t492 _ ?side1 ?side2 ?side3 ?side4 A20.out).mono ?_
                (case side1 => repeat (first | exact (Kd.C_below HR0_2.out HB.out) | (with_reducible refine Kd.C_alloc ?_ _) | (with_reducible refine Kd.C_drewN ?_ _) | (with_reducible refine Kd.C_drew ?_)))
                (case side2 => exact HC0_2.out)
                (case side3 => repeat (first | exact (Kd.C_below HR489.out HB.out) | (with_reducible refine Kd.C_alloc ?_ _) | (with_reducible refine Kd.C_drewN ?_ _) | (with_reducible refine Kd.C_drew ?_)))
                (case side4 => exact HC489.out)
                rintro e w36 ⟨v493, rfl, ho0, hb⟩
                refine ⟨_, rfl, ?_⟩
                have n0_ := Aside0.mk (Kd.V_below (by (with_reducible repeat (first | apply Kd.V_alloc | apply Kd.V_drewN | apply Kd.V_drew)); exact HO484.out) hb)
                have n1_ := Aside0.mk (Kd.V_lower (Kd.V_mono (ok' := fun k_ => k_ ≠ gb478 ∧ k_ ≠ gb485 ∧ k_ ≠ gb504) ho0 (fun k_ hk_ => ⟨(Kd.freshB (g := gb478) (o := .cells #[.int .i64 a0_0, .int .i64 a0_1, .slice A0_2 l0_2.length c0_2] 41 (0, 0)) (by (with_reducible repeat (first | refine blk_drewN ?_ _ | refine blk_drew ?_ | refine blk_alloc ?_ _)); exact BK478.out) k_ hk_), (Kd.freshB (g := gb485) (o := .cells #[.int .i64 t480, .int .i64 t481, .slice Ao30 t482.length co30] 41 (0, 0)) (by (with_reducible repeat (first | refine blk_drewN ?_ _ | refine blk_drew ?_ | refine blk_alloc ?_ _)); exact BK485.out) k_ hk_), (Kd.freshB (g := gb504) (o := .cells #[.int .i64 0, .int .i64 0, .slice none 0 0] 41 (0, 0)) (by (with_reducible repeat (first | refine blk_drewN ?_ _ | refine blk_drew ?_ | refine blk_alloc ?_ _)); exact BK504.out) k_ hk_)⟩)) (below_size (by repeat (first | (with_reducible first | exact HB.out | apply below_alloc | apply pw_below_drewN | apply below_drew1 | refine below_set ?_ GE478.out | refine below_set ?_ GE485.out | refine below_set ?_ GE504.out) | exact HB.out))))
                have n2_ := Aside0.mk (blk_below (g := gb478) (o := .cells #[.int .i64 a0_0, .int .i64 a0_1, .slice A0_2 l0_2.length c0_2] 41 (0, 0)) (by (with_reducible repeat (first | refine blk_drewN ?_ _ | refine blk_drew ?_ | refine blk_alloc ?_ _)); exact BK478.out) hb)
                have n3_ := Aside0.mk (blk_below (g := gb485) (o := .cells #[.int .i64 t480, .int .i64 t481, .slice Ao30 t482.length co30] 41 (0, 0)) (by (with_reducible repeat (first | refine blk_drewN ?_ _ | refine blk_drew ?_ | refine blk_alloc ?_ _)); exact BK485.out) hb)
                have n4_ := Aside0.mk (blk_below (g := gb504) (o := .cells #[.int .i64 0, .int .i64 0, .slice none 0 0] 41 (0, 0)) (by (with_reducible repeat (first | refine blk_drewN ?_ _ | refine blk_drew ?_ | refine blk_alloc ?_ _)); exact BK504.out) hb)
                have n5_ := Aside0.mk (below_step (by repeat (first | (with_reducible first | exact HB.out | apply below_alloc | apply pw_below_drewN | apply below_drew1 | refine below_set ?_ GE478.out | refine below_set ?_ GE485.out | refine below_set ?_ GE504.out) | exact HB.out)) hb)
                clear HO484
                clear BK478
                clear BK485
                clear BK504
                clear HB
                have HO484 := n0_
                have HO494 := n1_
                have BK478 := n2_
                have BK485 := n3_
                have BK504 := n4_
                have HB := n5_
                clear n0_ n1_ n2_ n3_ n4_ n5_
                (try clear hb)
                (try clear hb2)
                (try clear hk)
                (try clear hi)
                (try clear ho0)
                obtain ⟨Ao37, co37, eo37⟩ := Kd.V_slice HO494.out
                (first | subst eo37 | (injection eo37 with f1_ f2_ f3_; have f4_ := f1_.symm; have f5_ := f3_.symm; clear f1_ f2_ f3_; subst f4_; subst f5_))
                refine hK.out _ _ ⟨(blk_cell BK478.out 0).trans rfl, (blk_cell BK478.out 1).trans rfl, (blk_cell BK478.out 2).trans rfl⟩ (fun hHeld => ?_)
                clear hK K
                refine norm_ (a' := ?_) ?_ ?_
                rotate_left
                · show Act.put _ (some 43) _ = _
                  simp only [Act.put, List.setIfInBounds_toArray, List.set_cons_zero, List.set_cons_succ, i64_w, i32_w]
                  rfl
                refine one_ (i := 8) (N := some 47) #[true, true, true, true, true, true, true, true, true, true, false] rfl rfl (one_of HT_.out (by kernel_rfl)) (by decide) (fun K hK => ?_)
                refine goes_ Try.func29 (by kernel_rfl) rfl #[.agg #[.int .i64 t490, .int .i64 t491, .slice Ao37 t492.length co37], .slice A34 y495.length c34] (by rfl) rfl rfl (by (try simp only [List.map_toArray, List.map_cons, List.map_nil]); first | done | rfl | (simp only [List.length_drop, List.length_take]; rfl)) ?_
                with_reducible refine (plan_Push.calls kj4 t490 t491 _ _ t492 _ _ y495 t499 t500 t501 _ ?side1 ?side2 ?side3 ?side4 A23.out).mono ?_
                (case side1 => repeat (first | exact (Kd.V_reads' HO494.out).2.2 | (with_reducible refine Kd.C_alloc ?_ _) | (with_reducible refine Kd.C_drewN ?_ _) | (with_reducible refine Kd.C_drew ?_)))
                (case side2 => exact (Kd.V_reads' HO494.out).2.1)
                (case side3 => repeat (first | exact (Kd.C_below HR498.out HB.out) | (with_reducible refine Kd.C_alloc ?_ _) | (with_reducible refine Kd.C_drewN ?_ _) | (with_reducible refine Kd.C_drew ?_)))
                (case side4 => exact HC498.out)
                rintro e w38 ⟨v502, rfl, ho0, hb⟩
                refine ⟨_, rfl, ?_⟩
                have n0_ := Aside0.mk (Kd.V_below (by (with_reducible repeat (first | apply Kd.V_alloc | apply Kd.V_drewN | apply Kd.V_drew)); exact HO484.out) hb)
                have n1_ := Aside0.mk (Kd.V_below (by (with_reducible repeat (first | apply Kd.V_alloc | apply Kd.V_drewN | apply Kd.V_drew)); exact HO494.out) hb)
                have n2_ := Aside0.mk (Kd.V_lower (Kd.V_mono (ok' := fun k_ => k_ ≠ gb478 ∧ k_ ≠ gb485 ∧ k_ ≠ gb504) ho0 (fun k_ hk_ => ⟨(Kd.freshB (g := gb478) (o := .cells #[.int .i64 a0_0, .int .i64 a0_1, .slice A0_2 l0_2.length c0_2] 41 (0, 0)) (by (with_reducible repeat (first | refine blk_drewN ?_ _ | refine blk_drew ?_ | refine blk_alloc ?_ _)); exact BK478.out) k_ hk_), (Kd.freshB (g := gb485) (o := .cells #[.int .i64 t480, .int .i64 t481, .slice Ao30 t482.length co30] 41 (0, 0)) (by (with_reducible repeat (first | refine blk_drewN ?_ _ | refine blk_drew ?_ | refine blk_alloc ?_ _)); exact BK485.out) k_ hk_), (Kd.freshB (g := gb504) (o := .cells #[.int .i64 0, .int .i64 0, .slice none 0 0] 41 (0, 0)) (by (with_reducible repeat (first | refine blk_drewN ?_ _ | refine blk_drew ?_ | refine blk_alloc ?_ _)); exact BK504.out) k_ hk_)⟩)) (below_size (by repeat (first | (with_reducible first | exact HB.out | apply below_alloc | apply pw_below_drewN | apply below_drew1 | refine below_set ?_ GE478.out | refine below_set ?_ GE485.out | refine below_set ?_ GE504.out) | exact HB.out))))
                have n3_ := Aside0.mk (blk_below (g := gb478) (o := .cells #[.int .i64 a0_0, .int .i64 a0_1, .slice A0_2 l0_2.length c0_2] 41 (0, 0)) (by (with_reducible repeat (first | refine blk_drewN ?_ _ | refine blk_drew ?_ | refine blk_alloc ?_ _)); exact BK478.out) hb)
                have n4_ := Aside0.mk (blk_below (g := gb485) (o := .cells #[.int .i64 t480, .int .i64 t481, .slice Ao30 t482.length co30] 41 (0, 0)) (by (with_reducible repeat (first | refine blk_drewN ?_ _ | refine blk_drew ?_ | refine blk_alloc ?_ _)); exact BK485.out) hb)
                have n5_ := Aside0.mk (blk_below (g := gb504) (o := .cells #[.int .i64 0, .int .i64 0, .slice none 0 0] 41 (0, 0)) (by (with_reducible repeat (first | refine blk_drewN ?_ _ | refine blk_drew ?_ | refine blk_alloc ?_ _)); exact BK504.out) hb)
                have n6_ := Aside0.mk (below_step (by repeat (first | (with_reducible first | exact HB.out | apply below_alloc | apply pw_below_drewN | apply below_drew1 | refine below_set ?_ GE478.out | refine below_set ?_ GE485.out | refine below_set ?_ GE504.out) | exact HB.out)) hb)
                clear HO484
                clear HO494
                clear BK478
                clear BK485
                clear BK504
                clear HB
                have HO484 := n0_
                have HO494 := n1_
                have HO503 := n2_
                have BK478 := n3_
                have BK485 := n4_
                have BK504 := n5_
                have HB := n6_
                clear n0_ n1_ n2_ n3_ n4_ n5_ n6_
                (try clear hb)
                (try clear hb2)
                (try clear hk)
                (try clear hi)
                (try clear ho0)
                refine hK.out _ _ ⟨(blk_cell BK478.out 0).trans rfl, (blk_cell BK478.out 1).trans rfl, (blk_cell BK478.out 2).trans rfl⟩ (fun hHeld => ?_)
                clear hK K
                refine norm_ (a' := ?_) ?_ ?_
                rotate_left
                · show Act.put _ (some 47) _ = _
                  simp only [Act.put, List.setIfInBounds_toArray, List.set_cons_zero, List.set_cons_succ, i64_w, i32_w]
                  rfl
                exact norm_ (by simp only [putAll, Act.put, List.setIfInBounds_toArray, List.set_cons_zero, List.set_cons_succ]) (hCont (.slice Ao37 t492.length co37, v502, gb504) _ ⟨hHeld, (by (with_reducible repeat (first | apply Kd.V_alloc | apply Kd.V_drewN | apply Kd.V_drew)); exact Kd.V_mono HO484.out (fun _ hk => ⟨hk.1.1, ⟨hk.1.2, hk.2⟩⟩)), (by (with_reducible repeat (first | apply Kd.V_alloc | apply Kd.V_drewN | apply Kd.V_drew)); exact HO494.out), (by (with_reducible repeat (first | apply Kd.V_alloc | apply Kd.V_drewN | apply Kd.V_drew)); exact HO503.out), (by (with_reducible repeat (first | refine blk_drewN ?_ _ | refine blk_drew ?_ | refine blk_alloc ?_ _)); exact BK478.out), (by (with_reducible repeat (first | refine blk_drewN ?_ _ | refine blk_drew ?_ | refine blk_alloc ?_ _)); exact BK485.out), (by (with_reducible repeat (first | refine blk_drewN ?_ _ | refine blk_drew ?_ | refine blk_alloc ?_ _)); exact BK504.out), GW504.out, GE504.out, NB478_504.out, NB504_478.out, NB485_504.out, NB504_485.out, (by repeat (first | (with_reducible first | exact HB.out | apply below_alloc | apply pw_below_drewN | apply below_drew1 | refine below_set ?_ GE478.out | refine below_set ?_ GE485.out | refine below_set ?_ GE504.out) | exact HB.out))⟩)
            rintro ⟨v493, v502, gb504⟩ w39 ⟨hS_, h0_, h1_, h2_, h3_, h4_, h5_, h6_, h7_, h8_, h9_, h10_, h11_, h12_⟩
            have n0_ : Aside0 (Kd.V k34 34 w39 w.heap.size (fun k_ => k_ ≠ gb478 ∧ k_ ≠ gb485 ∧ k_ ≠ gb504) (.slice Ao30 t482.length co30) t482) := ⟨h0_⟩
            have n1_ : Aside0 (Kd.V k34 34 w39 w.heap.size (fun k_ => k_ ≠ gb478 ∧ k_ ≠ gb485 ∧ k_ ≠ gb504) v493 t492) := ⟨h1_⟩
            have n2_ : Aside0 (Kd.V k34 34 w39 w.heap.size (fun k_ => k_ ≠ gb478 ∧ k_ ≠ gb485 ∧ k_ ≠ gb504) v502 t501) := ⟨h2_⟩
            have n3_ : Aside0 (w39.heap[gb478]? = some (.cells #[.int .i64 a0_0, .int .i64 a0_1, .slice A0_2 l0_2.length c0_2] 41 (0, 0))) := ⟨h3_⟩
            have n4_ : Aside0 (w39.heap[gb485]? = some (.cells #[.int .i64 t480, .int .i64 t481, .slice Ao30 t482.length co30] 41 (0, 0))) := ⟨h4_⟩
            have n5_ : Aside0 (w39.heap[gb504]? = some (.cells #[.int .i64 0, .int .i64 0, .slice none 0 0] 41 (0, 0))) := ⟨h5_⟩
            have n6_ : Aside0 (w.heap.size ≤ gb504) := ⟨h6_⟩
            have n7_ : Aside0 (w.heap.size ≤ gb504) := ⟨h7_⟩
            have n8_ : Aside0 (gb478 ≠ gb504) := ⟨h8_⟩
            have n9_ : Aside0 (gb504 ≠ gb478) := ⟨h9_⟩
            have n10_ : Aside0 (gb485 ≠ gb504) := ⟨h10_⟩
            have n11_ : Aside0 (gb504 ≠ gb485) := ⟨h11_⟩
            have n12_ : Aside0 (Below w.heap.size w w39) := ⟨h12_⟩
            clear HO484
            clear BK478
            clear BK485
            clear HB
            clear h0_ h1_ h2_ h3_ h4_ h5_ h6_ h7_ h8_ h9_ h10_ h11_ h12_
            have HO484 := n0_
            have HO494 := n1_
            have HO503 := n2_
            have BK478 := n3_
            have BK485 := n4_
            have BK504 := n5_
            have GW504 := n6_
            have GE504 := n7_
            have NB478_504 := n8_
            have NB504_478 := n9_
            have NB485_504 := n10_
            have NB504_485 := n11_
            have HB := n12_
            clear n0_ n1_ n2_ n3_ n4_ n5_ n6_ n7_ n8_ n9_ n10_ n11_ n12_
            have hHeld : w39.cell? ⟨gb478, 0, none⟩ = some (.int .i64 a0_0) ∧ w39.cell? ⟨gb478, 1, none⟩ = some (.int .i64 a0_1) ∧ w39.cell? ⟨gb478, 2, none⟩ = some (.slice A0_2 l0_2.length c0_2) := hS_
            obtain ⟨Ao42, co42, eo42⟩ := Kd.V_slice HO503.out
            (first | subst eo42 | (injection eo42 with f1_ f2_ f3_; have f4_ := f1_.symm; have f5_ := f3_.symm; clear f1_ f2_ f3_; subst f4_; subst f5_))
            refine norm_ (a' := ?_) ?_ ?_
            rotate_left
            · simp only [putAll, Act.put, List.setIfInBounds_toArray, List.set_cons_zero, List.set_cons_succ]
              rfl
            refine one_ (i := 10) (N := none) #[true, true, true, true, true, true, true, true, true, true, true] rfl rfl (one_of HT_.out (by kernel_rfl)) (by decide) (fun K hK => ?_)
            have hs40 : w39.cell? ⟨gb504, 0, none⟩ = some (.int .i64 0) := (blk_cell BK504.out 0).trans rfl
            have hfs40 := blk_frozen BK504.out 0
            have hns40_0 := NB478_504.out
            have hns40_1 := NB485_504.out
            have hms40_0 := NB504_478.out
            have hms40_1 := NB504_485.out
            have hs41 : w39.cell? ⟨gb504, 1, none⟩ = some (.int .i64 0) := (blk_cell BK504.out 1).trans rfl
            have hfs41 := blk_frozen BK504.out 1
            have hns41_0 := NB478_504.out
            have hns41_1 := NB485_504.out
            have hms41_0 := NB504_478.out
            have hms41_1 := NB504_485.out
            have hs43 : w39.cell? ⟨gb504, 2, none⟩ = some (.slice none 0 0) := (blk_cell BK504.out 2).trans rfl
            have hfs43 := blk_frozen BK504.out 2
            have hns43_0 := NB478_504.out
            have hns43_1 := NB485_504.out
            have hms43_0 := NB504_478.out
            have hms43_1 := NB504_485.out
            refine skip_ (w1 := ?_) (by rfl) rfl ?_ ?_
            rotate_left
            · go_simp
              rfl
            refine hK.out _ _ ⟨((cell_far (p := ⟨gb504, _, none⟩) NB478_504.out _).trans (((cell_far (p := ⟨gb504, _, none⟩) NB478_504.out _).trans (((cell_far (p := ⟨gb504, _, none⟩) NB478_504.out _).trans (hHeld.1)))))), ((cell_far (p := ⟨gb504, _, none⟩) NB478_504.out _).trans (((cell_far (p := ⟨gb504, _, none⟩) NB478_504.out _).trans (((cell_far (p := ⟨gb504, _, none⟩) NB478_504.out _).trans (hHeld.2.1)))))), ((cell_far (p := ⟨gb504, _, none⟩) NB478_504.out _).trans (((cell_far (p := ⟨gb504, _, none⟩) NB478_504.out _).trans (((cell_far (p := ⟨gb504, _, none⟩) NB478_504.out _).trans (hHeld.2.2))))))⟩ (fun hHeld => ?_)
            clear hK K
            refine done_ (done_of HT_.out (by kernel_rfl)) ?_
            have hnb44 := NB485_504.out
            have hnc44 := NB504_485.out
            have hcz45_0 : w39.cell? ⟨gb485, 0, none⟩ = some (.int .i64 t480) := (blk_cell BK485.out 0).trans rfl
            have hcz45_1 : w39.cell? ⟨gb485, 1, none⟩ = some (.int .i64 t481) := (blk_cell BK485.out 1).trans rfl
            have hcz45_2 : w39.cell? ⟨gb485, 2, none⟩ = some (.slice Ao30 t482.length co30) := (blk_cell BK485.out 2).trans rfl
            have hfz45_0 := blk_frozen BK485.out 0
            have hfz45_1 := blk_frozen BK485.out 1
            have hfz45_2 := blk_frozen BK485.out 2
            have hnb46 := NB504_478.out
            have hnc46 := NB478_504.out
            have hcz47_0 : w39.cell? ⟨gb504, 0, none⟩ = some (.int .i64 0) := (blk_cell BK504.out 0).trans rfl
            have hcz47_1 : w39.cell? ⟨gb504, 1, none⟩ = some (.int .i64 0) := (blk_cell BK504.out 1).trans rfl
            have hcz47_2 : w39.cell? ⟨gb504, 2, none⟩ = some (.slice none 0 0) := (blk_cell BK504.out 2).trans rfl
            have hfz47_0 := blk_frozen BK504.out 0
            have hfz47_1 := blk_frozen BK504.out 1
            have hfz47_2 := blk_frozen BK504.out 2
            try go_wp2_with (first | ((with_reducible refine gate_callee (f := 20) rfl ?_); refine goesL_ (some 50) rfl rfl Try.func20 (by kernel_rfl) rfl #[.agg #[.int .i64 t480, .int .i64 t481, .slice Ao30 t482.length co30], .agg #[.int .i64 t499, .int .i64 t500, .slice Ao42 t501.length co42]] rfl (by (try simp only [List.map_toArray, List.map_cons, List.map_nil]); first | done | rfl | (simp only [List.length_drop, List.length_take]; rfl)) ?_; (with_reducible refine (wayfinderref15_Same.calls kj4 t480 t481 _ _ t482 t499 t500 _ _ t501 t505 _ ?side1 ?side2 ?side3 ?side4 A24.out).mono ?_); (case side1 => refine (Kd.V_reads' (e := 34) (base := w.heap.size) (ok := fun k_ => (k_ ≠ gb478 ∧ (k_ ≠ gb485 ∧ k_ ≠ gb504))) (n := t482.length) (c := co30) ?_).2.2; exact (by (with_reducible repeat (first | apply Kd.V_alloc | apply Kd.V_drewN | apply Kd.V_drew)); exact (Kd.V_mono (Kd.V_far (p := ⟨gb504, 2, none⟩) (Kd.V_far (p := ⟨gb504, 1, none⟩) (Kd.V_far (p := ⟨gb504, 0, none⟩) (Kd.V_mono HO484.out (fun k_ hk => (⟨hk, hk.2.2⟩ : _ ∧ k_ ≠ gb504))) (fun _ hk => hk.2) (.int .i64 t499)) (fun _ hk => hk.2) (.int .i64 t500)) (fun _ hk => hk.2) (.slice Ao42 t501.length co42)) (fun _ h_ => h_.1)))); (case side2 => exact (Kd.V_reads' HO484.out).2.1); (case side3 => refine (Kd.V_reads' (e := 34) (base := w.heap.size) (ok := fun k_ => (k_ ≠ gb478 ∧ (k_ ≠ gb485 ∧ k_ ≠ gb504))) (n := t501.length) (c := co42) ?_).2.2; exact (by (with_reducible repeat (first | apply Kd.V_alloc | apply Kd.V_drewN | apply Kd.V_drew)); exact (Kd.V_mono (Kd.V_far (p := ⟨gb504, 2, none⟩) (Kd.V_far (p := ⟨gb504, 1, none⟩) (Kd.V_far (p := ⟨gb504, 0, none⟩) (Kd.V_mono HO503.out (fun k_ hk => (⟨hk, hk.2.2⟩ : _ ∧ k_ ≠ gb504))) (fun _ hk => hk.2) (.int .i64 t499)) (fun _ hk => hk.2) (.int .i64 t500)) (fun _ hk => hk.2) (.slice Ao42 t501.length co42)) (fun _ h_ => h_.1)))); (case side4 => exact (Kd.V_reads' HO503.out).2.1); rintro e w48 ⟨rfl, hb⟩; refine ⟨_, rfl, ?_⟩; have n0_ := Aside0.mk (Kd.V_below (by (with_reducible repeat (first | apply Kd.V_alloc | apply Kd.V_drewN | apply Kd.V_drew)); exact (Kd.V_mono (Kd.V_far (p := ⟨gb504, 2, none⟩) (Kd.V_far (p := ⟨gb504, 1, none⟩) (Kd.V_far (p := ⟨gb504, 0, none⟩) (Kd.V_mono HO484.out (fun k_ hk => (⟨hk, hk.2.2⟩ : _ ∧ k_ ≠ gb504))) (fun _ hk => hk.2) (.int .i64 t499)) (fun _ hk => hk.2) (.int .i64 t500)) (fun _ hk => hk.2) (.slice Ao42 t501.length co42)) (fun _ h_ => h_.1))) hb); have n1_ := Aside0.mk (Kd.V_below (by (with_reducible repeat (first | apply Kd.V_alloc | apply Kd.V_drewN | apply Kd.V_drew)); exact (Kd.V_mono (Kd.V_far (p := ⟨gb504, 2, none⟩) (Kd.V_far (p := ⟨gb504, 1, none⟩) (Kd.V_far (p := ⟨gb504, 0, none⟩) (Kd.V_mono HO494.out (fun k_ hk => (⟨hk, hk.2.2⟩ : _ ∧ k_ ≠ gb504))) (fun _ hk => hk.2) (.int .i64 t499)) (fun _ hk => hk.2) (.int .i64 t500)) (fun _ hk => hk.2) (.slice Ao42 t501.length co42)) (fun _ h_ => h_.1))) hb); have n2_ := Aside0.mk (Kd.V_below (by (with_reducible repeat (first | apply Kd.V_alloc | apply Kd.V_drewN | apply Kd.V_drew)); exact (Kd.V_mono (Kd.V_far (p := ⟨gb504, 2, none⟩) (Kd.V_far (p := ⟨gb504, 1, none⟩) (Kd.V_far (p := ⟨gb504, 0, none⟩) (Kd.V_mono HO503.out (fun k_ hk => (⟨hk, hk.2.2⟩ : _ ∧ k_ ≠ gb504))) (fun _ hk => hk.2) (.int .i64 t499)) (fun _ hk => hk.2) (.int .i64 t500)) (fun _ hk => hk.2) (.slice Ao42 t501.length co42)) (fun _ h_ => h_.1))) hb); have n3_ := Aside0.mk (blk_below (g := gb478) (o := .cells #[.int .i64 a0_0, .int .i64 a0_1, .slice A0_2 l0_2.length c0_2] 41 (0, 0)) (by (with_reducible repeat (first | refine blk_drewN ?_ _ | refine blk_drew ?_ | refine blk_alloc ?_ _)); refine blk_far ?_ NB478_504.out _; (with_reducible repeat (first | refine blk_drewN ?_ _ | refine blk_drew ?_ | refine blk_alloc ?_ _)); refine blk_far ?_ NB478_504.out _; (with_reducible repeat (first | refine blk_drewN ?_ _ | refine blk_drew ?_ | refine blk_alloc ?_ _)); refine blk_far ?_ NB478_504.out _; (with_reducible repeat (first | refine blk_drewN ?_ _ | refine blk_drew ?_ | refine blk_alloc ?_ _)); exact BK478.out) hb); have n4_ := Aside0.mk (blk_below (g := gb485) (o := .cells #[.int .i64 t480, .int .i64 t481, .slice Ao30 t482.length co30] 41 (0, 0)) (by (with_reducible repeat (first | refine blk_drewN ?_ _ | refine blk_drew ?_ | refine blk_alloc ?_ _)); refine blk_far ?_ NB485_504.out _; (with_reducible repeat (first | refine blk_drewN ?_ _ | refine blk_drew ?_ | refine blk_alloc ?_ _)); refine blk_far ?_ NB485_504.out _; (with_reducible repeat (first | refine blk_drewN ?_ _ | refine blk_drew ?_ | refine blk_alloc ?_ _)); refine blk_far ?_ NB485_504.out _; (with_reducible repeat (first | refine blk_drewN ?_ _ | refine blk_drew ?_ | refine blk_alloc ?_ _)); exact BK485.out) hb); have n5_ := Aside0.mk (blk_below (g := gb504) (o := .cells #[.int .i64 t499, .int .i64 t500, .slice Ao42 t501.length co42] 41 (0, 0)) (by (with_reducible repeat (first | refine blk_drewN ?_ _ | refine blk_drew ?_ | refine blk_alloc ?_ _)); refine blk_put (cs := #[.int .i64 t499, .int .i64 t500, .slice none 0 0]) ?_ 2 _ rfl; (with_reducible repeat (first | refine blk_drewN ?_ _ | refine blk_drew ?_ | refine blk_alloc ?_ _)); refine blk_put (cs := #[.int .i64 t499, .int .i64 0, .slice none 0 0]) ?_ 1 _ rfl; (with_reducible repeat (first | refine blk_drewN ?_ _ | refine blk_drew ?_ | refine blk_alloc ?_ _)); refine blk_put (cs := #[.int .i64 0, .int .i64 0, .slice none 0 0]) ?_ 0 _ rfl; (with_reducible repeat (first | refine blk_drewN ?_ _ | refine blk_drew ?_ | refine blk_alloc ?_ _)); exact BK504.out) hb); have n6_ := Aside0.mk (below_step (by repeat (first | (with_reducible first | exact HB.out | apply below_alloc | apply pw_below_drewN | apply below_drew1 | refine below_set ?_ GE478.out | refine below_set ?_ GE485.out | refine below_set ?_ GE504.out) | exact HB.out)) hb); clear HO484; clear HO494; clear HO503; clear BK478; clear BK485; clear BK504; clear HB; have HO484 := n0_; have HO494 := n1_; have HO503 := n2_; have BK478 := n3_; have BK485 := n4_; have BK504 := n5_; have HB := n6_; clear n0_ n1_ n2_ n3_ n4_ n5_ n6_; (try clear hb); (try clear hb2); (try clear hk); (try clear hi)))
            go_ret
            exact ⟨by first | rfl | (simp [errW_none, errW_some] <;> rfl) | (simp [*, errW_none, errW_some] <;> rfl), by repeat (first | (with_reducible first | exact HB.out | apply below_alloc | apply pw_below_drewN | apply below_drew1 | refine below_set ?_ GE478.out | refine below_set ?_ GE485.out | refine below_set ?_ GE504.out) | exact HB.out)⟩
          · rw [if_neg c19] at H
            exact absurd H (by simp)
        · rw [if_neg c18] at H
          exact absurd H (by simp)

def wayfinderlaw20_PlanParts.Pure : Prop := ∀ (a0_0 : Int) (a0_1 : Int) (l0_2 : List (S34)) (l1 : List (S34)) (a2 : Int), (Lit.int .i64 a0_0).wf = true → (Lit.int .i64 a0_1).wf = true → l0_2.length ≤ maxLen → (∀ x ∈ l0_2, wfT34 x) → l1.length ≤ maxLen → (∀ x ∈ l1, wfT34 x) → (Lit.int .i64 a2).wf = true → ∃ k, wayfinderlaw20_PlanParts.f k a0_0 a0_1 l0_2 l1 a2 = some true
theorem wayfinderlaw20_PlanParts.walk (P : wayfinderlaw20_PlanParts.Pure) (a0_0 : Int) (a0_1 : Int) (A0_2 : Option Addr) (c0_2 : Nat) (l0_2 : List (S34)) (A1 : Option Addr) (c1 : Nat) (l1 : List (S34)) (a2 : Int) (w : World) (hr0_2 : Kd.C k34 w A0_2 l0_2.length l0_2) (hc0_2 : l0_2.length ≤ c0_2) (hr1 : Kd.C k34 w A1 l1.length l1) (hc1 : l1.length ≤ c1) (w0 : (Lit.int .i64 a0_0).wf = true) (w1 : (Lit.int .i64 a0_1).wf = true) (w2 : l0_2.length ≤ maxLen) (w3 : (∀ x ∈ l0_2, wfT34 x)) (w4 : l1.length ≤ maxLen) (w5 : (∀ x ∈ l1, wfT34 x)) (w6 : (Lit.int .i64 a2).wf = true) :
    Calls Try.prog 11 #[.agg #[.int .i64 a0_0, .int .i64 a0_1, .slice A0_2 l0_2.length c0_2], .slice A1 l1.length c1, .int .i64 a2] w fun e w' => e = .returned (.bool true) ∧ Below w.heap.size w w' := by
  obtain ⟨k, h⟩ := P a0_0 a0_1 l0_2 l1 a2 w0 w1 w2 w3 w4 w5 w6
  refine (wayfinderlaw20_PlanParts.calls k a0_0 a0_1 A0_2 c0_2 l0_2 A1 c1 l1 a2 true w hr0_2 hc0_2 hr1 hc1 h).mono ?_
  rintro e w' ⟨rfl, hd⟩
  exact ⟨rfl, hd⟩

end Go.Proofs.Ytibkmiffibacbaa.Print
