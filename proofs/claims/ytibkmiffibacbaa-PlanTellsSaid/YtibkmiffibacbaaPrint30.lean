/- A text that a program of this session printed out of the translation: checked by Lean alone. -/
import Derived.Test.YtibkmiffibacbaaPrint0
import Derived.Test.YtibkmiffibacbaaPrint18
namespace Go.Proofs.Ytibkmiffibacbaa.Print
open Go.RowKit Go.Proofs.YtibkmiffibacbaaW.PrintWords Go.Proofs.YtibkmiffibacbaaW.PrintLast Go.Proofs.YtibkmiffibacbaaW.PrintMore
attribute [local go_sem] max2_int min2_int max_two min_two max_three min_three max_four min_four   -- for this text's walks alone
set_option linter.unusedVariables false
set_option linter.unusedSimpArgs false

/-! ### wayfinderref20_Push: function 30 -/
def wayfinderref20_Push.l0 : Nat → List (S34) → Int → Int → Int → List (S34) → Option (Int × Int × (List (S34)))
  | 0, _, _, _, _, _ => none
  | k + 1, x1, x5, x422000, x422001, x422002 => if x5 < (x1.length : Int) then (if 0 ≤ x5 then ((wayfinderref15_Push.f x422000 x422001 x422002 ((rd_T34 x1 x5).f0) ((rd_T34 x1 x5).f1) ((rd_T34 x1 x5).f2) ((rd_T34 x1 x5).f3) ((rd_T34 x1 x5).f4.f0.f0) ((rd_T34 x1 x5).f4.f0.f1) ((rd_T34 x1 x5).f4.f1) ((rd_T34 x1 x5).f4.f2) ((rd_T34 x1 x5).f4.f3.f0) ((rd_T34 x1 x5).f4.f3.f1)).bind fun bt424 => (if bt424.2.2.2 = 0 then (wayfinderref20_Push.l0 k x1 (wrap64 (x5 + 1)) bt424.1 bt424.2.1 bt424.2.2.1) else (some (x422000, x422001, x422002)))) else (none)) else (some (x422000, x422001, x422002))
def wayfinderref20_Push.f (k : Nat) (a0_0 : Int) (a0_1 : Int) (l0_2 : List (S34)) (l1 : List (S34)) : Option (Int × Int × (List (S34))) := wayfinderref20_Push.l0 k l1 0 a0_0 a0_1 l0_2
theorem wayfinderref20_Push.mono_l : ∀ k, (∀ y0 y1 y2 y3 y4, LeO (wayfinderref20_Push.l0 k y0 y1 y2 y3 y4) (wayfinderref20_Push.l0 (k + 1) y0 y1 y2 y3 y4))
  | 0 => fun _ _ _ _ _ r h => by simp [wayfinderref20_Push.l0] at h
  | k + 1 => by
    have ih0 := wayfinderref20_Push.mono_l k
    · intro y0 y1 y2 y3 y4
      unfold wayfinderref20_Push.l0
      repeat' first
      | (with_reducible exact ih0 _ _ _ _ _)
      | (with_reducible exact LeO.refl _)
      | (with_reducible exact LeO.none _)
      | (with_reducible refine LeO.ite ?_ ?_)
      | (with_reducible refine LeO.bind ?_ (fun _ => ?_))
      | exact ih0 _ _ _ _ _
      | exact LeO.none _
      | refine LeO.ite ?_ ?_
      | refine LeO.bind ?_ (fun _ => ?_)
theorem wayfinderref20_Push.mono : ∀ a0 a1 a2 a3 k, LeO (wayfinderref20_Push.f k a0 a1 a2 a3) (wayfinderref20_Push.f (k + 1) a0 a1 a2 a3) := by
  intro a0 a1 a2 a3 k
  have ih0 := wayfinderref20_Push.mono_l k
  unfold wayfinderref20_Push.f
  repeat' first
      | (with_reducible exact ih0 _ _ _ _ _)
      | (with_reducible exact LeO.refl _)
      | (with_reducible exact LeO.none _)
      | (with_reducible refine LeO.ite ?_ ?_)
      | (with_reducible refine LeO.bind ?_ (fun _ => ?_))
      | exact ih0 _ _ _ _ _
      | exact LeO.none _
      | refine LeO.ite ?_ ?_
      | refine LeO.bind ?_ (fun _ => ?_)
def wayfinderref20_Push.T4 : Bool × List (List Nat × List Nat) := (true, [([], []), ([], []), ([], []), ([1, 2], [1, 2]), ([3], [3]), ([0, 4], [0, 4]), ([5], [5]), ([6], [6]), ([6], [6]), ([], []), ([9, 7, 5, 0, 1, 2, 3, 4, 5, 6, 7, 9], [7, 9]), ([8, 10, 0, 1, 2, 3, 4, 5, 6, 7, 8, 9, 10], [8])])
def wayfinderref20_Push.B4 : List Nat := [0, 0, 0, 6, 14, 31, 63, 127, 127, 0, 767, 2047]
theorem wayfinderref20_Push.tab4 : rtab .any (opsOf Try.f30 4) = wayfinderref20_Push.T4 := by kernel_rfl
theorem wayfinderref20_Push.bits4 : waitsOk wayfinderref20_Push.T4.2 wayfinderref20_Push.B4 = true := by kernel_rfl
set_option maxHeartbeats 8000000 in
set_option maxRecDepth 100000 in
theorem wayfinderref20_Push.calls (k : Nat) (a0_0 : Int) (a0_1 : Int) (P0_2_ : Nat → Prop) (A0_2 : Option Addr) (c0_2 : Nat) (l0_2 : List (S34)) (A1 : Option Addr) (c1 : Nat) (l1 : List (S34)) (r1 : Int) (r2 : Int) (r3 : List (S34)) (w : World) (hs0_2 : Kd.V k34 34 w w.heap.size (fun k_ => P0_2_ k_) (.slice A0_2 l0_2.length c0_2) l0_2) (hr1 : Kd.C k34 w A1 l1.length l1) (hc1 : l1.length ≤ c1) (h : wayfinderref20_Push.f k a0_0 a0_1 l0_2 l1 = some (r1, r2, r3)) :
    Calls Try.prog 30 #[.agg #[.int .i64 a0_0, .int .i64 a0_1, .slice A0_2 l0_2.length c0_2], .slice A1 l1.length c1] w fun e w' => ∃ v2_ : Value, e = .returned (.agg #[.int .i64 r1, .int .i64 r2, v2_]) ∧ Kd.V k34 34 w' w.heap.size (fun k_ => (P0_2_ k_ ∨ w.heap.size ≤ k_)) v2_ r3 ∧ Below w.heap.size w w' := by
  have hu41 := Try.underlying41
  have hu34 := Try.underlying34
  have HO0_2 := Aside0.mk (show Kd.V k34 34 w w.heap.size (fun k_ => (P0_2_ k_ ∨ w.heap.size ≤ k_)) (.slice A0_2 l0_2.length c0_2) l0_2 from Kd.V_mono hs0_2 (fun k_ hk => .inl hk))
  have HR1 := Aside0.mk hr1
  have HC1 := Aside0.mk hc1
  clear hr1 hc1
  have HB := Aside0.mk (Below.refl w.heap.size w)
  have H : (wayfinderref20_Push.l0 k l1 0 a0_0 a0_1 l0_2) = some (r1, r2, r3) := h
  clear h
  have H' := Aside0.mk H
  clear H
  go_enter Try.func30, Try.ntmps30
  go_wp2_with (first | ((with_reducible refine gate_dst (N := 2) rfl ?_); refine box_event ?hg (N := 2) ?hd (cs := #[.int .i64 a0_0, .int .i64 a0_1, .slice A0_2 l0_2.length c0_2]) (t := 41) ?hr ?_; (case hd => rfl); (case hg => rfl); (case hr => first | (go_simp; done) | (go_simp; rfl)); intro gb421 hg w3 hbox hb; have n0_ := Aside0.mk (Kd.V_below (Kd.V_elderB (by (with_reducible repeat (first | apply Kd.V_alloc | apply Kd.V_drewN | apply Kd.V_drew)); exact HO0_2.out) gb421 (Nat.le_of_eq hg.symm)) hb); have n1_ := Aside0.mk (below_step (by repeat (first | (with_reducible first | exact HB.out | apply below_alloc | apply pw_below_drewN | apply below_drew1) | exact HB.out)) hb); have n2_ := Aside0.mk (hbox); have n3_ := Aside0.mk ((by rw [hg]; exact (below_size (by repeat (first | (with_reducible first | exact HB.out | apply below_alloc | apply pw_below_drewN | apply below_drew1) | exact HB.out))) : w.heap.size ≤ gb421)); have n4_ := Aside0.mk ((by rw [hg]; exact (below_size (by repeat (first | (with_reducible first | exact HB.out | apply below_alloc | apply pw_below_drewN | apply below_drew1) | exact HB.out))) : w.heap.size ≤ gb421)); clear HO0_2; clear HB; have HO0_2 := n0_; have HB := n1_; have BK421 := n2_; have GW421 := n3_; have GE421 := n4_; clear n0_ n1_ n2_ n3_ n4_; clear hb hbox hg) | ((with_reducible refine gate_dst (N := 4) rfl ?_); refine box_event ?hg (N := 4) ?hd (cs := #[.int .i64 0, .int .i64 0, .slice none 0 0]) (t := 41) ?hr ?_; (case hd => rfl); (case hg => rfl); (case hr => first | (go_simp; done) | (go_simp; rfl)); intro gb422 hg w4 hbox hb; have n0_ := Aside0.mk (Kd.V_below (Kd.V_elderB (by (with_reducible repeat (first | apply Kd.V_alloc | apply Kd.V_drewN | apply Kd.V_drew)); exact HO0_2.out) gb422 (Nat.le_of_eq hg.symm)) hb); have n1_ := Aside0.mk (blk_below (g := gb421) (o := .cells #[.int .i64 a0_0, .int .i64 a0_1, .slice A0_2 l0_2.length c0_2] 41 (0, 0)) (by (with_reducible repeat (first | refine blk_drewN ?_ _ | refine blk_drew ?_ | refine blk_alloc ?_ _)); exact BK421.out) hb); have n2_ := Aside0.mk (below_step (by repeat (first | (with_reducible first | exact HB.out | apply below_alloc | apply pw_below_drewN | apply below_drew1 | refine below_set ?_ GE421.out) | exact HB.out)) hb); have n3_ := Aside0.mk (hbox); have n4_ := Aside0.mk ((by rw [hg]; exact (below_size (by repeat (first | (with_reducible first | exact HB.out | apply below_alloc | apply pw_below_drewN | apply below_drew1 | refine below_set ?_ GE421.out) | exact HB.out))) : w.heap.size ≤ gb422)); have n5_ := Aside0.mk ((by rw [hg]; exact (below_size (by repeat (first | (with_reducible first | exact HB.out | apply below_alloc | apply pw_below_drewN | apply below_drew1 | refine below_set ?_ GE421.out) | exact HB.out))) : w.heap.size ≤ gb422)); have n6_ := Aside0.mk ((by rw [hg]; exact Nat.ne_of_lt (blk_lt (g := gb421) (o := .cells #[.int .i64 a0_0, .int .i64 a0_1, .slice A0_2 l0_2.length c0_2] 41 (0, 0)) (by (with_reducible repeat (first | refine blk_drewN ?_ _ | refine blk_drew ?_ | refine blk_alloc ?_ _)); exact BK421.out)) : gb421 ≠ gb422)); have n7_ := Aside0.mk ((by rw [hg]; exact Nat.ne_of_gt (blk_lt (g := gb421) (o := .cells #[.int .i64 a0_0, .int .i64 a0_1, .slice A0_2 l0_2.length c0_2] 41 (0, 0)) (by (with_reducible repeat (first | refine blk_drewN ?_ _ | refine blk_drew ?_ | refine blk_alloc ?_ _)); exact BK421.out)) : gb422 ≠ gb421)); clear HO0_2; clear BK421; clear HB; have HO0_2 := n0_; have BK421 := n1_; have HB := n2_; have BK422 := n3_; have GW422 := n4_; have GE422 := n5_; have NB421_422 := n6_; have NB422_421 := n7_; clear n0_ n1_ n2_ n3_ n4_ n5_ n6_ n7_; clear hb hbox hg))
  go_loopg [5] k (fun kq v5 w' => ∃ (x5_1 : Int) (x422000_1 : Int) (x422001_1 : Int) (x422002_1 : List (S34)) (x423000_1 : Int) (x423001_1 : Int) (u422002 : Value), v5 = .int .i64 x5_1 ∧ Aside0 (wayfinderref20_Push.l0 kq l1 x5_1 x422000_1 x422001_1 x422002_1 = some (r1, r2, r3)) ∧ Aside0 (kq ≤ k) ∧ Aside0 (Kd.V k34 34 w' w.heap.size (fun k_ => (P0_2_ k_ ∨ w.heap.size ≤ k_) ∧ k_ ≠ gb421 ∧ k_ ≠ gb422) u422002 x422002_1) ∧ Aside0 (w'.heap[gb421]? = some (.cells #[.int .i64 x422000_1, .int .i64 x422001_1, u422002] 41 (0, 0))) ∧ Aside0 (w'.heap[gb422]? = some (.cells #[.int .i64 x423000_1, .int .i64 x423001_1, (.slice none 0 0)] 41 (0, 0))) ∧ Aside0 (Below w.heap.size w w'))
  case atStart => exact ⟨(0), (a0_0), (a0_1), (l0_2), (0), (0), (.slice A0_2 l0_2.length c0_2), (by first | rfl | (simp; done) | (simp [*]; done)), H', ⟨Nat.le_refl _⟩, ⟨by (with_reducible repeat (first | apply Kd.V_alloc | apply Kd.V_drewN | apply Kd.V_drew)); exact Kd.V_mono HO0_2.out (fun _ hk => ⟨hk.1.1, ⟨hk.1.2, hk.2⟩⟩)⟩, ⟨by (with_reducible repeat (first | refine blk_drewN ?_ _ | refine blk_drew ?_ | refine blk_alloc ?_ _)); exact BK421.out⟩, ⟨by (with_reducible repeat (first | refine blk_drewN ?_ _ | refine blk_drew ?_ | refine blk_alloc ?_ _)); exact BK422.out⟩, ⟨by repeat (first | (with_reducible first | exact HB.out | apply below_alloc | apply pw_below_drewN | apply below_drew1 | refine below_set ?_ GE421.out | refine below_set ?_ GE422.out) | exact HB.out)⟩⟩
  case round =>
    clear H'
    try clear c1
    try clear p2
    try clear c3
    obtain ⟨x5_1, x422000_1, x422001_1, x422002_1, x423000_1, x423001_1, u422002, rfl, HA, HK1, HO_422002, BK421, BK422, HB⟩ := hrel
    cases gk with
    | zero => exact absurd HA.out (by simp [wayfinderref20_Push.l0])
    | succ k1 =>
      have H := HA.out
      clear HA
      simp only [wayfinderref20_Push.l0] at H
      by_cases c5 : x5_1 < (l1.length : Int)
      · rw [if_pos c5] at H
        have c5b0 : decide (x5_1 < (l1.length : Int)) = true := decide_eq_true c5
        clear c5
        by_cases c6 : 0 ≤ x5_1
        · rw [if_pos c6] at H
          have c6b0 : decide (0 ≤ x5_1) = true := decide_eq_true c6
          clear c6
          replace H := Option.bind_eq_some_iff.mp H
          obtain ⟨⟨t424, t425, t426, t429⟩, A70, H⟩ := H
          replace H : (if t429 = 0 then (wayfinderref20_Push.l0 k1 l1 (wrap64 (x5_1 + 1)) t424 t425 t426) else (some (x422000_1, x422001_1, x422002_1))) = some (r1, r2, r3) := H
          have A7 := Aside0.mk A70
          clear A70
          by_cases c8 : t429 = 0
          · rw [if_pos c8] at H
            have c8b0 : (t429 == 0) = true := beq_iff_eq.mpr c8
            have c8b1 : (t429 != 0) = false := bne_eq_false_iff_eq.mpr c8
            clear c8
            have H' := Aside0.mk H
            clear H
            obtain ⟨Ao9, co9, eo9⟩ := Kd.V_slice HO_422002.out
            subst eo9
            try go_wp2
            have n0_ := Aside0.mk (Kd.V_drew HO_422002.out)
            have n1_ := Aside0.mk (blk_drew BK421.out)
            have n2_ := Aside0.mk (blk_drew BK422.out)
            have n3_ := Aside0.mk (below_drew1 HB.out)
            clear HO_422002
            clear BK421
            clear BK422
            clear HB
            have HO_422002 := n0_
            have BK421 := n1_
            have BK422 := n2_
            have HB := n3_
            clear n0_ n1_ n2_ n3_
            have p423 : 0 ≤ (x5_1 : Int) := of_decide_eq_true (by first | (with_reducible assumption) | assumption)
            have q423 : x5_1 < (l1.length : Int) := of_decide_eq_true (by first | (with_reducible assumption) | assumption)
            obtain ⟨ad423, e423, hx423_0, hx423_1, hx423_2, hx423_3, hx423_4, hx423_5, hx423_6, hx423_7, hx423_8, hx423_9⟩ := at_T34 HR1.out x5_1 p423 q423
            have hw423_9 := hx423_9
            have hw423_8 := hx423_8
            have hw423_7 := hx423_7
            have hw423_6 := hx423_6
            have hw423_5 := hx423_5
            have hw423_4 := hx423_4
            have hw423_3 := hx423_3
            have hw423_2 := hx423_2
            have hw423_1 := hx423_1
            have hw423_0 := hx423_0
            cases e423
            replace hx423_0 := (HB.out.cell (World.block_lt_of_cell? w _ hx423_0)).trans hx423_0
            replace hx423_1 := (HB.out.cell (World.block_lt_of_cell? w _ hx423_1)).trans hx423_1
            replace hx423_2 := (HB.out.cell (World.block_lt_of_cell? w _ hx423_2)).trans hx423_2
            replace hx423_3 := (HB.out.cell (World.block_lt_of_cell? w _ hx423_3)).trans hx423_3
            replace hx423_4 := (HB.out.cell (World.block_lt_of_cell? w _ hx423_4)).trans hx423_4
            replace hx423_5 := (HB.out.cell (World.block_lt_of_cell? w _ hx423_5)).trans hx423_5
            replace hx423_6 := (HB.out.cell (World.block_lt_of_cell? w _ hx423_6)).trans hx423_6
            replace hx423_7 := (HB.out.cell (World.block_lt_of_cell? w _ hx423_7)).trans hx423_7
            replace hx423_8 := (HB.out.cell (World.block_lt_of_cell? w _ hx423_8)).trans hx423_8
            replace hx423_9 := (HB.out.cell (World.block_lt_of_cell? w _ hx423_9)).trans hx423_9
            replace p423 := eq_true p423
            replace q423 := eq_true q423
            refine start_ (n := 12) (S := fun w' => w'.cell? ⟨gb421, 0, none⟩ = some (.int .i64 x422000_1) ∧ w'.cell? ⟨gb421, 1, none⟩ = some (.int .i64 x422001_1) ∧ w'.cell? ⟨gb421, 2, none⟩ = some (.slice Ao9 x422002_1.length co9) ∧ w'.cell? (ad423.add ((x5_1).toNat * 10)) = some (.int .i64 ((rd_T34 l1 x5_1).f0)) ∧ w'.cell? ⟨(ad423.add ((x5_1).toNat * 10)).block, (ad423.add ((x5_1).toNat * 10)).off + 1, none⟩ = some (.int .i64 ((rd_T34 l1 x5_1).f1)) ∧ w'.cell? ⟨(ad423.add ((x5_1).toNat * 10)).block, (ad423.add ((x5_1).toNat * 10)).off + 2, none⟩ = some (.int .i64 ((rd_T34 l1 x5_1).f2)) ∧ w'.cell? ⟨(ad423.add ((x5_1).toNat * 10)).block, (ad423.add ((x5_1).toNat * 10)).off + 3, none⟩ = some (.int .i64 ((rd_T34 l1 x5_1).f3)) ∧ w'.cell? ⟨(ad423.add ((x5_1).toNat * 10)).block, (ad423.add ((x5_1).toNat * 10)).off + 4, none⟩ = some (.int .i64 ((rd_T34 l1 x5_1).f4.f0.f0)) ∧ w'.cell? ⟨(ad423.add ((x5_1).toNat * 10)).block, (ad423.add ((x5_1).toNat * 10)).off + 5, none⟩ = some (.int .i64 ((rd_T34 l1 x5_1).f4.f0.f1)) ∧ w'.cell? ⟨(ad423.add ((x5_1).toNat * 10)).block, (ad423.add ((x5_1).toNat * 10)).off + 6, none⟩ = some (.int .i64 ((rd_T34 l1 x5_1).f4.f1)) ∧ w'.cell? ⟨(ad423.add ((x5_1).toNat * 10)).block, (ad423.add ((x5_1).toNat * 10)).off + 7, none⟩ = some (.int .i64 ((rd_T34 l1 x5_1).f4.f2)) ∧ w'.cell? ⟨(ad423.add ((x5_1).toNat * 10)).block, (ad423.add ((x5_1).toNat * 10)).off + 8, none⟩ = some (.int .i64 ((rd_T34 l1 x5_1).f4.f3.f0)) ∧ w'.cell? ⟨(ad423.add ((x5_1).toNat * 10)).block, (ad423.add ((x5_1).toNat * 10)).off + 9, none⟩ = some (.int .i64 ((rd_T34 l1 x5_1).f4.f3.f1))) (ds := []) #[false, false, false, false, false, false, false, false, false, false, false, false] (by kernel_rfl) rfl rfl ⟨(blk_cell BK421.out 0).trans rfl, (blk_cell BK421.out 1).trans rfl, (blk_cell BK421.out 2).trans rfl, ((HB.out.cell (World.block_lt_of_cell? w _ hw423_0)).trans hw423_0), ((HB.out.cell (World.block_lt_of_cell? w _ hw423_1)).trans hw423_1), ((HB.out.cell (World.block_lt_of_cell? w _ hw423_2)).trans hw423_2), ((HB.out.cell (World.block_lt_of_cell? w _ hw423_3)).trans hw423_3), ((HB.out.cell (World.block_lt_of_cell? w _ hw423_4)).trans hw423_4), ((HB.out.cell (World.block_lt_of_cell? w _ hw423_5)).trans hw423_5), ((HB.out.cell (World.block_lt_of_cell? w _ hw423_6)).trans hw423_6), ((HB.out.cell (World.block_lt_of_cell? w _ hw423_7)).trans hw423_7), ((HB.out.cell (World.block_lt_of_cell? w _ hw423_8)).trans hw423_8), ((HB.out.cell (World.block_lt_of_cell? w _ hw423_9)).trans hw423_9)⟩ (fun hHeld => ?_); refine with_tabW wayfinderref20_Push.tab4 wayfinderref20_Push.bits4 (fun HT_ HW_ => ?_)
            generalize wr.drew = w10 at HO_422002 BK421 BK422 HB hx423_0 hx423_1 hx423_2 hx423_3 hx423_4 hx423_5 hx423_6 hx423_7 hx423_8 hx423_9 hHeld ⊢
            refine pure_ (i := 1) (N := some 16) (v := ?_) (a' := ?_) #[false, true, false, false, false, false, false, false, false, false, false, false] rfl rfl (any_of HT_.out (by kernel_rfl)) (fun _ _ _ h => h) (Or.inl ⟨by rfl, ?_⟩) ?_ ?_
            rotate_left
            · intro w'
              go_simp
              with_reducible rfl
            rotate_left
            · simp only [Act.put, List.setIfInBounds_toArray, List.set_cons_zero, List.set_cons_succ, i64_w, i32_w]
              rfl
            refine pure_ (i := 2) (N := some 17) (v := ?_) (a' := ?_) #[false, true, true, false, false, false, false, false, false, false, false, false] rfl rfl (any_of HT_.out (by kernel_rfl)) (fun _ _ _ h => h) (Or.inl ⟨by rfl, ?_⟩) ?_ ?_
            rotate_left
            · intro w'
              go_simp
              with_reducible rfl
            rotate_left
            · simp only [Act.put, List.setIfInBounds_toArray, List.set_cons_zero, List.set_cons_succ, i64_w, i32_w]
              rfl
            refine pure_ (i := 3) (N := some 18) (v := ?_) (a' := ?_) #[false, true, true, true, false, false, false, false, false, false, false, false] rfl rfl (any_of HT_.out (by kernel_rfl)) (fun _ _ _ h => h) (Or.inl ⟨by rfl, ?_⟩) ?_ ?_
            rotate_left
            · intro w'
              go_simp
              with_reducible rfl
            rotate_left
            · simp only [Act.put, List.setIfInBounds_toArray, List.set_cons_zero, List.set_cons_succ, i64_w, i32_w]
              rfl
            refine take_ (i := 0) (N := some 15) (v := ?_) (a' := ?_) #[true, true, true, true, false, false, false, false, false, false, false, false] rfl rfl (take_ofW HT_.out HW_.out (by kernel_rfl)) (fun _ _ _ h => h) (Or.inl ⟨by rfl, ?_⟩) hHeld ?_ ?_
            rotate_left
            · rintro w' ⟨s0, s1, s2, s3, s4, s5, s6, s7, s8, s9, s10, s11, s12⟩
              go_simp
              with_reducible rfl
            rotate_left
            · simp only [Act.put, List.setIfInBounds_toArray, List.set_cons_zero, List.set_cons_succ, i64_w, i32_w]
              rfl
            refine take_ (i := 4) (N := some 19) (v := ?_) (a' := ?_) #[true, true, true, true, true, false, false, false, false, false, false, false] rfl rfl (take_ofW HT_.out HW_.out (by kernel_rfl)) (fun _ _ _ h => h) (Or.inl ⟨by rfl, ?_⟩) hHeld ?_ ?_
            rotate_left
            · rintro w' ⟨s0, s1, s2, s3, s4, s5, s6, s7, s8, s9, s10, s11, s12⟩
              go_simp
              with_reducible rfl
            rotate_left
            · simp only [Act.put, List.setIfInBounds_toArray, List.set_cons_zero, List.set_cons_succ, i64_w, i32_w]
              rfl
            refine join_ (σ := Value × Nat) 2 #[true, true, true, true, true, true, true, true, true, true, false, false] (fun s_ => [(20, .tuple #[.agg #[.int .i64 t424, .int .i64 t425, s_.1], .int .i64 t429]), (6, .pointer (some ⟨s_.2, 0, none⟩)), (14, .tuple #[.agg #[.int .i64 t424, .int .i64 t425, s_.1], .int .i64 t429]), (21, .agg #[.int .i64 t424, .int .i64 t425, s_.1]), (22, .int .i64 t429)]) (fun s_ w' => (w'.cell? ⟨gb421, 0, none⟩ = some (.int .i64 x422000_1) ∧ w'.cell? ⟨gb421, 1, none⟩ = some (.int .i64 x422001_1) ∧ w'.cell? ⟨gb421, 2, none⟩ = some (.slice Ao9 x422002_1.length co9) ∧ w'.cell? (ad423.add ((x5_1).toNat * 10)) = some (.int .i64 ((rd_T34 l1 x5_1).f0)) ∧ w'.cell? ⟨(ad423.add ((x5_1).toNat * 10)).block, (ad423.add ((x5_1).toNat * 10)).off + 1, none⟩ = some (.int .i64 ((rd_T34 l1 x5_1).f1)) ∧ w'.cell? ⟨(ad423.add ((x5_1).toNat * 10)).block, (ad423.add ((x5_1).toNat * 10)).off + 2, none⟩ = some (.int .i64 ((rd_T34 l1 x5_1).f2)) ∧ w'.cell? ⟨(ad423.add ((x5_1).toNat * 10)).block, (ad423.add ((x5_1).toNat * 10)).off + 3, none⟩ = some (.int .i64 ((rd_T34 l1 x5_1).f3)) ∧ w'.cell? ⟨(ad423.add ((x5_1).toNat * 10)).block, (ad423.add ((x5_1).toNat * 10)).off + 4, none⟩ = some (.int .i64 ((rd_T34 l1 x5_1).f4.f0.f0)) ∧ w'.cell? ⟨(ad423.add ((x5_1).toNat * 10)).block, (ad423.add ((x5_1).toNat * 10)).off + 5, none⟩ = some (.int .i64 ((rd_T34 l1 x5_1).f4.f0.f1)) ∧ w'.cell? ⟨(ad423.add ((x5_1).toNat * 10)).block, (ad423.add ((x5_1).toNat * 10)).off + 6, none⟩ = some (.int .i64 ((rd_T34 l1 x5_1).f4.f1)) ∧ w'.cell? ⟨(ad423.add ((x5_1).toNat * 10)).block, (ad423.add ((x5_1).toNat * 10)).off + 7, none⟩ = some (.int .i64 ((rd_T34 l1 x5_1).f4.f2)) ∧ w'.cell? ⟨(ad423.add ((x5_1).toNat * 10)).block, (ad423.add ((x5_1).toNat * 10)).off + 8, none⟩ = some (.int .i64 ((rd_T34 l1 x5_1).f4.f3.f0)) ∧ w'.cell? ⟨(ad423.add ((x5_1).toNat * 10)).block, (ad423.add ((x5_1).toNat * 10)).off + 9, none⟩ = some (.int .i64 ((rd_T34 l1 x5_1).f4.f3.f1))) ∧ (Kd.V k34 34 w' w.heap.size (fun k_ => (P0_2_ k_ ∨ w.heap.size ≤ k_) ∧ k_ ≠ gb421 ∧ k_ ≠ gb422 ∧ k_ ≠ s_.2) s_.1 t426) ∧ (Kd.V k34 34 w' w.heap.size (fun k_ => (P0_2_ k_ ∨ w.heap.size ≤ k_) ∧ k_ ≠ gb421 ∧ k_ ≠ gb422 ∧ k_ ≠ s_.2) (.slice Ao9 x422002_1.length co9) x422002_1) ∧ (w'.heap[gb421]? = some (.cells #[.int .i64 x422000_1, .int .i64 x422001_1, .slice Ao9 x422002_1.length co9] 41 (0, 0))) ∧ (w'.heap[gb422]? = some (.cells #[.int .i64 x423000_1, .int .i64 x423001_1, .slice none 0 0] 41 (0, 0))) ∧ (w'.heap[s_.2]? = some (.cells #[.int .i64 0, .int .i64 0, .slice none 0 0] 41 (0, 0))) ∧ (w.heap.size ≤ s_.2) ∧ (w.heap.size ≤ s_.2) ∧ (gb421 ≠ s_.2) ∧ (s_.2 ≠ gb421) ∧ (gb422 ≠ s_.2) ∧ (s_.2 ≠ gb422) ∧ (Below w.heap.size w w')) ?_ ?_
            rotate_left
            · intro hCont
              refine two_ (i := 5) (j := 9) (Ni := some 20) (Nj := some 6) #[true, true, true, true, true, true, false, false, false, false, false, false] #[true, true, true, true, true, false, false, false, false, true, false, false] rfl rfl rfl rfl (two_of HT_.out (by kernel_rfl)) (by decide) (by decide) (fun K hK => ?_) (fun K hK => ?_)
              · skip
                refine goes_ Try.func21 (by kernel_rfl) rfl #[.agg #[.int .i64 x422000_1, .int .i64 x422001_1, .slice Ao9 x422002_1.length co9], .agg #[.int .i64 ((rd_T34 l1 x5_1).f0), .int .i64 ((rd_T34 l1 x5_1).f1), .int .i64 ((rd_T34 l1 x5_1).f2), .int .i64 ((rd_T34 l1 x5_1).f3), .int .i64 ((rd_T34 l1 x5_1).f4.f0.f0), .int .i64 ((rd_T34 l1 x5_1).f4.f0.f1), .int .i64 ((rd_T34 l1 x5_1).f4.f1), .int .i64 ((rd_T34 l1 x5_1).f4.f2), .int .i64 ((rd_T34 l1 x5_1).f4.f3.f0), .int .i64 ((rd_T34 l1 x5_1).f4.f3.f1)]] (by rfl) rfl rfl (by (try simp only [List.map_toArray, List.map_cons, List.map_nil]); first | done | rfl | (simp only [List.length_drop, List.length_take]; rfl)) ?_
                with_reducible refine (wayfinderref15_Push.calls x422000_1 x422001_1 (fun k_ => ((P0_2_ k_ ∨ w.heap.size ≤ k_) ∧ (k_ ≠ gb421 ∧ k_ ≠ gb422))) _ _ x422002_1 ((rd_T34 l1 x5_1).f0) ((rd_T34 l1 x5_1).f1) ((rd_T34 l1 x5_1).f2) ((rd_T34 l1 x5_1).f3) ((rd_T34 l1 x5_1).f4.f0.f0) ((rd_T34 l1 x5_1).f4.f0.f1) ((rd_T34 l1 x5_1).f4.f1) ((rd_T34 l1 x5_1).f4.f2) ((rd_T34 l1 x5_1).f4.f3.f0) ((rd_T34 l1 x5_1).f4.f3.f1) t424 t425 t426 t429 _ ?side1 A7.out).mono ?_
                (case side1 => exact HO_422002.out)
                rintro e w11 ⟨v427, rfl, ho0, hb⟩
                refine ⟨_, rfl, ?_⟩
                have n0_ := Aside0.mk (Kd.V_below (by (with_reducible repeat (first | apply Kd.V_alloc | apply Kd.V_drewN | apply Kd.V_drew)); exact HO_422002.out) hb)
                have n1_ := Aside0.mk (Kd.V_lower (Kd.V_mono (ok' := fun k_ => (P0_2_ k_ ∨ w.heap.size ≤ k_) ∧ k_ ≠ gb421 ∧ k_ ≠ gb422) ho0 (fun k_ hk_ => ⟨Or.elim hk_ (fun hs_ => hs_.1) (fun hn_ => (.inr (Nat.le_trans (below_size (by repeat (first | (with_reducible first | exact HB.out | apply below_alloc | apply pw_below_drewN | apply below_drew1 | refine below_set ?_ GE421.out | refine below_set ?_ GE422.out) | exact HB.out))) hn_))), Or.elim hk_ (fun hs_ => hs_.2.1) (fun hn_ => (Kd.freshB (g := gb421) (o := .cells #[.int .i64 x422000_1, .int .i64 x422001_1, .slice Ao9 x422002_1.length co9] 41 (0, 0)) (by (with_reducible repeat (first | refine blk_drewN ?_ _ | refine blk_drew ?_ | refine blk_alloc ?_ _)); exact BK421.out) k_ hn_)), Or.elim hk_ (fun hs_ => hs_.2.2) (fun hn_ => (Kd.freshB (g := gb422) (o := .cells #[.int .i64 x423000_1, .int .i64 x423001_1, .slice none 0 0] 41 (0, 0)) (by (with_reducible repeat (first | refine blk_drewN ?_ _ | refine blk_drew ?_ | refine blk_alloc ?_ _)); exact BK422.out) k_ hn_))⟩)) (below_size (by repeat (first | (with_reducible first | exact HB.out | apply below_alloc | apply pw_below_drewN | apply below_drew1 | refine below_set ?_ GE421.out | refine below_set ?_ GE422.out) | exact HB.out))))
                have n2_ := Aside0.mk (blk_below (g := gb421) (o := .cells #[.int .i64 x422000_1, .int .i64 x422001_1, .slice Ao9 x422002_1.length co9] 41 (0, 0)) (by (with_reducible repeat (first | refine blk_drewN ?_ _ | refine blk_drew ?_ | refine blk_alloc ?_ _)); exact BK421.out) hb)
                have n3_ := Aside0.mk (blk_below (g := gb422) (o := .cells #[.int .i64 x423000_1, .int .i64 x423001_1, .slice none 0 0] 41 (0, 0)) (by (with_reducible repeat (first | refine blk_drewN ?_ _ | refine blk_drew ?_ | refine blk_alloc ?_ _)); exact BK422.out) hb)
                have n4_ := Aside0.mk (below_step (by repeat (first | (with_reducible first | exact HB.out | apply below_alloc | apply pw_below_drewN | apply below_drew1 | refine below_set ?_ GE421.out | refine below_set ?_ GE422.out) | exact HB.out)) hb)
                clear HO_422002
                clear BK421
                clear BK422
                clear HB
                have HO_422002 := n0_
                have HO428 := n1_
                have BK421 := n2_
                have BK422 := n3_
                have HB := n4_
                clear n0_ n1_ n2_ n3_ n4_
                (try clear hb)
                (try clear hb2)
                (try clear hk)
                (try clear hi)
                (try clear ho0)
                refine hK.out _ _ ⟨(blk_cell BK421.out 0).trans rfl, (blk_cell BK421.out 1).trans rfl, (blk_cell BK421.out 2).trans rfl, ((HB.out.cell (World.block_lt_of_cell? w _ hw423_0)).trans hw423_0), ((HB.out.cell (World.block_lt_of_cell? w _ hw423_1)).trans hw423_1), ((HB.out.cell (World.block_lt_of_cell? w _ hw423_2)).trans hw423_2), ((HB.out.cell (World.block_lt_of_cell? w _ hw423_3)).trans hw423_3), ((HB.out.cell (World.block_lt_of_cell? w _ hw423_4)).trans hw423_4), ((HB.out.cell (World.block_lt_of_cell? w _ hw423_5)).trans hw423_5), ((HB.out.cell (World.block_lt_of_cell? w _ hw423_6)).trans hw423_6), ((HB.out.cell (World.block_lt_of_cell? w _ hw423_7)).trans hw423_7), ((HB.out.cell (World.block_lt_of_cell? w _ hw423_8)).trans hw423_8), ((HB.out.cell (World.block_lt_of_cell? w _ hw423_9)).trans hw423_9)⟩ (fun hHeld => ?_)
                clear hK K
                refine norm_ (a' := ?_) ?_ ?_
                rotate_left
                · show Act.put _ (some 20) _ = _
                  simp only [Act.put, List.setIfInBounds_toArray, List.set_cons_zero, List.set_cons_succ, i64_w, i32_w]
                  rfl
                refine pure_ (i := 6) (N := some 14) (v := ?_) (a' := ?_) #[true, true, true, true, true, true, true, false, false, false, false, false] rfl rfl (any_of HT_.out (by kernel_rfl)) (fun _ _ _ h => h) (Or.inl ⟨by rfl, ?_⟩) ?_ ?_
                rotate_left
                · intro w'
                  go_simp
                  with_reducible rfl
                rotate_left
                · simp only [Act.put, List.setIfInBounds_toArray, List.set_cons_zero, List.set_cons_succ, i64_w, i32_w]
                  rfl
                refine pure_ (i := 7) (N := some 21) (v := ?_) (a' := ?_) #[true, true, true, true, true, true, true, true, false, false, false, false] rfl rfl (any_of HT_.out (by kernel_rfl)) (fun _ _ _ h => h) (Or.inl ⟨by rfl, ?_⟩) ?_ ?_
                rotate_left
                · intro w'
                  go_simp
                  with_reducible rfl
                rotate_left
                · simp only [Act.put, List.setIfInBounds_toArray, List.set_cons_zero, List.set_cons_succ, i64_w, i32_w]
                  rfl
                refine pure_ (i := 8) (N := some 22) (v := ?_) (a' := ?_) #[true, true, true, true, true, true, true, true, true, false, false, false] rfl rfl (any_of HT_.out (by kernel_rfl)) (fun _ _ _ h => h) (Or.inl ⟨by rfl, ?_⟩) ?_ ?_
                rotate_left
                · intro w'
                  go_simp
                  with_reducible rfl
                rotate_left
                · simp only [Act.put, List.setIfInBounds_toArray, List.set_cons_zero, List.set_cons_succ, i64_w, i32_w]
                  rfl
                refine one_ (i := 9) (N := some 6) #[true, true, true, true, true, true, true, true, true, true, false, false] rfl rfl (one_of HT_.out (by kernel_rfl)) (by decide) (fun K hK => ?_)
                refine box_step ?hg (N := 6) ?hd (cs := #[.int .i64 0, .int .i64 0, .slice none 0 0]) (t := 41) ?hr ?_; (case hd => rfl); (case hg => rfl); (case hr => first | (go_simp; done) | (go_simp; rfl))
                intro gb430 hg w12 hbox hb
                have n0_ := Aside0.mk (Kd.V_below (Kd.V_elderB (by (with_reducible repeat (first | apply Kd.V_alloc | apply Kd.V_drewN | apply Kd.V_drew)); exact HO_422002.out) gb430 (Nat.le_of_eq hg.symm)) hb)
                have n1_ := Aside0.mk (Kd.V_below (Kd.V_elderB (by (with_reducible repeat (first | apply Kd.V_alloc | apply Kd.V_drewN | apply Kd.V_drew)); exact HO428.out) gb430 (Nat.le_of_eq hg.symm)) hb)
                have n2_ := Aside0.mk (blk_below (g := gb421) (o := .cells #[.int .i64 x422000_1, .int .i64 x422001_1, .slice Ao9 x422002_1.length co9] 41 (0, 0)) (by (with_reducible repeat (first | refine blk_drewN ?_ _ | refine blk_drew ?_ | refine blk_alloc ?_ _)); exact BK421.out) hb)
                have n3_ := Aside0.mk (blk_below (g := gb422) (o := .cells #[.int .i64 x423000_1, .int .i64 x423001_1, .slice none 0 0] 41 (0, 0)) (by (with_reducible repeat (first | refine blk_drewN ?_ _ | refine blk_drew ?_ | refine blk_alloc ?_ _)); exact BK422.out) hb)
                have n4_ := Aside0.mk (below_step (by repeat (first | (with_reducible first | exact HB.out | apply below_alloc | apply pw_below_drewN | apply below_drew1 | refine below_set ?_ GE421.out | refine below_set ?_ GE422.out) | exact HB.out)) hb)
                have n5_ := Aside0.mk (hbox)
                have n6_ := Aside0.mk ((by rw [hg]; exact (below_size (by repeat (first | (with_reducible first | exact HB.out | apply below_alloc | apply pw_below_drewN | apply below_drew1 | refine below_set ?_ GE421.out | refine below_set ?_ GE422.out) | exact HB.out))) : w.heap.size ≤ gb430))
                have n7_ := Aside0.mk ((by rw [hg]; exact (below_size (by repeat (first | (with_reducible first | exact HB.out | apply below_alloc | apply pw_below_drewN | apply below_drew1 | refine below_set ?_ GE421.out | refine below_set ?_ GE422.out) | exact HB.out))) : w.heap.size ≤ gb430))
                have n8_ := Aside0.mk ((by rw [hg]; exact Nat.ne_of_lt (blk_lt (g := gb421) (o := .cells #[.int .i64 x422000_1, .int .i64 x422001_1, .slice Ao9 x422002_1.length co9] 41 (0, 0)) (by (with_reducible repeat (first | refine blk_drewN ?_ _ | refine blk_drew ?_ | refine blk_alloc ?_ _)); exact BK421.out)) : gb421 ≠ gb430))
                have n9_ := Aside0.mk ((by rw [hg]; exact Nat.ne_of_gt (blk_lt (g := gb421) (o := .cells #[.int .i64 x422000_1, .int .i64 x422001_1, .slice Ao9 x422002_1.length co9] 41 (0, 0)) (by (with_reducible repeat (first | refine blk_drewN ?_ _ | refine blk_drew ?_ | refine blk_alloc ?_ _)); exact BK421.out)) : gb430 ≠ gb421))
                have n10_ := Aside0.mk ((by rw [hg]; exact Nat.ne_of_lt (blk_lt (g := gb422) (o := .cells #[.int .i64 x423000_1, .int .i64 x423001_1, .slice none 0 0] 41 (0, 0)) (by (with_reducible repeat (first | refine blk_drewN ?_ _ | refine blk_drew ?_ | refine blk_alloc ?_ _)); exact BK422.out)) : gb422 ≠ gb430))
                have n11_ := Aside0.mk ((by rw [hg]; exact Nat.ne_of_gt (blk_lt (g := gb422) (o := .cells #[.int .i64 x423000_1, .int .i64 x423001_1, .slice none 0 0] 41 (0, 0)) (by (with_reducible repeat (first | refine blk_drewN ?_ _ | refine blk_drew ?_ | refine blk_alloc ?_ _)); exact BK422.out)) : gb430 ≠ gb422))
                clear HO_422002
                clear HO428
                clear BK421
                clear BK422
                clear HB
                have HO_422002 := n0_
                have HO428 := n1_
                have BK421 := n2_
                have BK422 := n3_
                have HB := n4_
                have BK430 := n5_
                have GW430 := n6_
                have GE430 := n7_
                have NB421_430 := n8_
                have NB430_421 := n9_
                have NB422_430 := n10_
                have NB430_422 := n11_
                clear n0_ n1_ n2_ n3_ n4_ n5_ n6_ n7_ n8_ n9_ n10_ n11_
                clear hb hbox hg
                refine hK.out _ _ ⟨(blk_cell BK421.out 0).trans rfl, (blk_cell BK421.out 1).trans rfl, (blk_cell BK421.out 2).trans rfl, ((HB.out.cell (World.block_lt_of_cell? w _ hw423_0)).trans hw423_0), ((HB.out.cell (World.block_lt_of_cell? w _ hw423_1)).trans hw423_1), ((HB.out.cell (World.block_lt_of_cell? w _ hw423_2)).trans hw423_2), ((HB.out.cell (World.block_lt_of_cell? w _ hw423_3)).trans hw423_3), ((HB.out.cell (World.block_lt_of_cell? w _ hw423_4)).trans hw423_4), ((HB.out.cell (World.block_lt_of_cell? w _ hw423_5)).trans hw423_5), ((HB.out.cell (World.block_lt_of_cell? w _ hw423_6)).trans hw423_6), ((HB.out.cell (World.block_lt_of_cell? w _ hw423_7)).trans hw423_7), ((HB.out.cell (World.block_lt_of_cell? w _ hw423_8)).trans hw423_8), ((HB.out.cell (World.block_lt_of_cell? w _ hw423_9)).trans hw423_9)⟩ (fun hHeld => ?_)
                clear hK K
                refine norm_ (a' := ?_) ?_ ?_
                rotate_left
                · show Act.put _ (some 6) _ = _
                  simp only [Act.put, List.setIfInBounds_toArray, List.set_cons_zero, List.set_cons_succ, i64_w, i32_w]
                  rfl
                exact norm_ (by simp only [putAll, Act.put, List.setIfInBounds_toArray, List.set_cons_zero, List.set_cons_succ]) (hCont (v427, gb430) _ ⟨hHeld, (by (with_reducible repeat (first | apply Kd.V_alloc | apply Kd.V_drewN | apply Kd.V_drew)); exact Kd.V_mono HO428.out (fun _ hk => ⟨hk.1.1, ⟨hk.1.2.1, ⟨hk.1.2.2, hk.2⟩⟩⟩)), (by (with_reducible repeat (first | apply Kd.V_alloc | apply Kd.V_drewN | apply Kd.V_drew)); exact Kd.V_mono HO_422002.out (fun _ hk => ⟨hk.1.1, ⟨hk.1.2.1, ⟨hk.1.2.2, hk.2⟩⟩⟩)), (by (with_reducible repeat (first | refine blk_drewN ?_ _ | refine blk_drew ?_ | refine blk_alloc ?_ _)); exact BK421.out), (by (with_reducible repeat (first | refine blk_drewN ?_ _ | refine blk_drew ?_ | refine blk_alloc ?_ _)); exact BK422.out), (by (with_reducible repeat (first | refine blk_drewN ?_ _ | refine blk_drew ?_ | refine blk_alloc ?_ _)); exact BK430.out), GW430.out, GE430.out, NB421_430.out, NB430_421.out, NB422_430.out, NB430_422.out, (by repeat (first | (with_reducible first | exact HB.out | apply below_alloc | apply pw_below_drewN | apply below_drew1 | refine below_set ?_ GE421.out | refine below_set ?_ GE422.out | refine below_set ?_ GE430.out) | exact HB.out))⟩)
              · skip
                refine box_step ?hg (N := 6) ?hd (cs := #[.int .i64 0, .int .i64 0, .slice none 0 0]) (t := 41) ?hr ?_; (case hd => rfl); (case hg => rfl); (case hr => first | (go_simp; done) | (go_simp; rfl))
                intro gb430 hg w11 hbox hb
                have n0_ := Aside0.mk (Kd.V_below (Kd.V_elderB (by (with_reducible repeat (first | apply Kd.V_alloc | apply Kd.V_drewN | apply Kd.V_drew)); exact HO_422002.out) gb430 (Nat.le_of_eq hg.symm)) hb)
                have n1_ := Aside0.mk (blk_below (g := gb421) (o := .cells #[.int .i64 x422000_1, .int .i64 x422001_1, .slice Ao9 x422002_1.length co9] 41 (0, 0)) (by (with_reducible repeat (first | refine blk_drewN ?_ _ | refine blk_drew ?_ | refine blk_alloc ?_ _)); exact BK421.out) hb)
                have n2_ := Aside0.mk (blk_below (g := gb422) (o := .cells #[.int .i64 x423000_1, .int .i64 x423001_1, .slice none 0 0] 41 (0, 0)) (by (with_reducible repeat (first | refine blk_drewN ?_ _ | refine blk_drew ?_ | refine blk_alloc ?_ _)); exact BK422.out) hb)
                have n3_ := Aside0.mk (below_step (by repeat (first | (with_reducible first | exact HB.out | apply below_alloc | apply pw_below_drewN | apply below_drew1 | refine below_set ?_ GE421.out | refine below_set ?_ GE422.out) | exact HB.out)) hb)
                have n4_ := Aside0.mk (hbox)
                have n5_ := Aside0.mk ((by rw [hg]; exact (below_size (by repeat (first | (with_reducible first | exact HB.out | apply below_alloc | apply pw_below_drewN | apply below_drew1 | refine below_set ?_ GE421.out | refine below_set ?_ GE422.out) | exact HB.out))) : w.heap.size ≤ gb430))
                have n6_ := Aside0.mk ((by rw [hg]; exact (below_size (by repeat (first | (with_reducible first | exact HB.out | apply below_alloc | apply pw_below_drewN | apply below_drew1 | refine below_set ?_ GE421.out | refine below_set ?_ GE422.out) | exact HB.out))) : w.heap.size ≤ gb430))
                have n7_ := Aside0.mk ((by rw [hg]; exact Nat.ne_of_lt (blk_lt (g := gb421) (o := .cells #[.int .i64 x422000_1, .int .i64 x422001_1, .slice Ao9 x422002_1.length co9] 41 (0, 0)) (by (with_reducible repeat (first | refine blk_drewN ?_ _ | refine blk_drew ?_ | refine blk_alloc ?_ _)); exact BK421.out)) : gb421 ≠ gb430))
                have n8_ := Aside0.mk ((by rw [hg]; exact Nat.ne_of_gt (blk_lt (g := gb421) (o := .cells #[.int .i64 x422000_1, .int .i64 x422001_1, .slice Ao9 x422002_1.length co9] 41 (0, 0)) (by (with_reducible repeat (first | refine blk_drewN ?_ _ | refine blk_drew ?_ | refine blk_alloc ?_ _)); exact BK421.out)) : gb430 ≠ gb421))
                have n9_ := Aside0.mk ((by rw [hg]; exact Nat.ne_of_lt (blk_lt (g := gb422) (o := .cells #[.int .i64 x423000_1, .int .i64 x423001_1, .slice none 0 0] 41 (0, 0)) (by (with_reducible repeat (first | refine blk_drewN ?_ _ | refine blk_drew ?_ | refine blk_alloc ?_ _)); exact BK422.out)) : gb422 ≠ gb430))
                have n10_ := Aside0.mk ((by rw [hg]; exact Nat.ne_of_gt (blk_lt (g := gb422) (o := .cells #[.int .i64 x423000_1, .int .i64 x423001_1, .slice none 0 0] 41 (0, 0)) (by (with_reducible repeat (first | refine blk_drewN ?_ _ | refine blk_drew ?_ | refine blk_alloc ?_ _)); exact BK422.out)) : gb430 ≠ gb422))
                clear HO_422002
                clear BK421
                clear BK422
                clear HB
                have HO_422002 := n0_
                have BK421 := n1_
                have BK422 := n2_
                have HB := n3_
                have BK430 := n4_
                have GW430 := n5_
                have GE430 := n6_
                have NB421_430 := n7_
                have NB430_421 := n8_
                have NB422_430 := n9_
                have NB430_422 := n10_
                clear n0_ n1_ n2_ n3_ n4_ n5_ n6_ n7_ n8_ n9_ n10_
                clear hb hbox hg
                refine hK.out _ _ ⟨(blk_cell BK421.out 0).trans rfl, (blk_cell BK421.out 1).trans rfl, (blk_cell BK421.out 2).trans rfl, ((HB.out.cell (World.block_lt_of_cell? w _ hw423_0)).trans hw423_0), ((HB.out.cell (World.block_lt_of_cell? w _ hw423_1)).trans hw423_1), ((HB.out.cell (World.block_lt_of_cell? w _ hw423_2)).trans hw423_2), ((HB.out.cell (World.block_lt_of_cell? w _ hw423_3)).trans hw423_3), ((HB.out.cell (World.block_lt_of_cell? w _ hw423_4)).trans hw423_4), ((HB.out.cell (World.block_lt_of_cell? w _ hw423_5)).trans hw423_5), ((HB.out.cell (World.block_lt_of_cell? w _ hw423_6)).trans hw423_6), ((HB.out.cell (World.block_lt_of_cell? w _ hw423_7)).trans hw423_7), ((HB.out.cell (World.block_lt_of_cell? w _ hw423_8)).trans hw423_8), ((HB.out.cell (World.block_lt_of_cell? w _ hw423_9)).trans hw423_9)⟩ (fun hHeld => ?_)
                clear hK K
                refine norm_ (a' := ?_) ?_ ?_
                rotate_left
                · show Act.put _ (some 6) _ = _
                  simp only [Act.put, List.setIfInBounds_toArray, List.set_cons_zero, List.set_cons_succ, i64_w, i32_w]
                  rfl
                refine one_ (i := 5) (N := some 20) #[true, true, true, true, true, true, false, false, false, true, false, false] rfl rfl (one_of HT_.out (by kernel_rfl)) (by decide) (fun K hK => ?_)
                refine goes_ Try.func21 (by kernel_rfl) rfl #[.agg #[.int .i64 x422000_1, .int .i64 x422001_1, .slice Ao9 x422002_1.length co9], .agg #[.int .i64 ((rd_T34 l1 x5_1).f0), .int .i64 ((rd_T34 l1 x5_1).f1), .int .i64 ((rd_T34 l1 x5_1).f2), .int .i64 ((rd_T34 l1 x5_1).f3), .int .i64 ((rd_T34 l1 x5_1).f4.f0.f0), .int .i64 ((rd_T34 l1 x5_1).f4.f0.f1), .int .i64 ((rd_T34 l1 x5_1).f4.f1), .int .i64 ((rd_T34 l1 x5_1).f4.f2), .int .i64 ((rd_T34 l1 x5_1).f4.f3.f0), .int .i64 ((rd_T34 l1 x5_1).f4.f3.f1)]] (by rfl) rfl rfl (by (try simp only [List.map_toArray, List.map_cons, List.map_nil]); first | done | rfl | (simp only [List.length_drop, List.length_take]; rfl)) ?_
                with_reducible refine (wayfinderref15_Push.calls x422000_1 x422001_1 (fun k_ => (((P0_2_ k_ ∨ w.heap.size ≤ k_) ∧ (k_ ≠ gb421 ∧ k_ ≠ gb422)) ∧ k_ ≠ gb430)) _ _ x422002_1 ((rd_T34 l1 x5_1).f0) ((rd_T34 l1 x5_1).f1) ((rd_T34 l1 x5_1).f2) ((rd_T34 l1 x5_1).f3) ((rd_T34 l1 x5_1).f4.f0.f0) ((rd_T34 l1 x5_1).f4.f0.f1) ((rd_T34 l1 x5_1).f4.f1) ((rd_T34 l1 x5_1).f4.f2) ((rd_T34 l1 x5_1).f4.f3.f0) ((rd_T34 l1 x5_1).f4.f3.f1) t424 t425 t426 t429 _ ?side1 A7.out).mono ?_
                (case side1 => exact HO_422002.out)
                rintro e w12 ⟨v427, rfl, ho0, hb⟩
                refine ⟨_, rfl, ?_⟩
                have n0_ := Aside0.mk (Kd.V_below (by (with_reducible repeat (first | apply Kd.V_alloc | apply Kd.V_drewN | apply Kd.V_drew)); exact HO_422002.out) hb)
                have n1_ := Aside0.mk (Kd.V_lower (Kd.V_mono (ok' := fun k_ => (P0_2_ k_ ∨ w.heap.size ≤ k_) ∧ k_ ≠ gb421 ∧ k_ ≠ gb422 ∧ k_ ≠ gb430) ho0 (fun k_ hk_ => ⟨Or.elim hk_ (fun hs_ => hs_.1.1) (fun hn_ => (.inr (Nat.le_trans (below_size (by repeat (first | (with_reducible first | exact HB.out | apply below_alloc | apply pw_below_drewN | apply below_drew1 | refine below_set ?_ GE421.out | refine below_set ?_ GE422.out | refine below_set ?_ GE430.out) | exact HB.out))) hn_))), Or.elim hk_ (fun hs_ => hs_.1.2.1) (fun hn_ => (Kd.freshB (g := gb421) (o := .cells #[.int .i64 x422000_1, .int .i64 x422001_1, .slice Ao9 x422002_1.length co9] 41 (0, 0)) (by (with_reducible repeat (first | refine blk_drewN ?_ _ | refine blk_drew ?_ | refine blk_alloc ?_ _)); exact BK421.out) k_ hn_)), Or.elim hk_ (fun hs_ => hs_.1.2.2) (fun hn_ => (Kd.freshB (g := gb422) (o := .cells #[.int .i64 x423000_1, .int .i64 x423001_1, .slice none 0 0] 41 (0, 0)) (by (with_reducible repeat (first | refine blk_drewN ?_ _ | refine blk_drew ?_ | refine blk_alloc ?_ _)); exact BK422.out) k_ hn_)), Or.elim hk_ (fun hs_ => hs_.2) (fun hn_ => (Kd.freshB (g := gb430) (o := .cells #[.int .i64 0, .int .i64 0, .slice none 0 0] 41 (0, 0)) (by (with_reducible repeat (first | refine blk_drewN ?_ _ | refine blk_drew ?_ | refine blk_alloc ?_ _)); exact BK430.out) k_ hn_))⟩)) (below_size (by repeat (first | (with_reducible first | exact HB.out | apply below_alloc | apply pw_below_drewN | apply below_drew1 | refine below_set ?_ GE421.out | refine below_set ?_ GE422.out | refine below_set ?_ GE430.out) | exact HB.out))))
                have n2_ := Aside0.mk (blk_below (g := gb421) (o := .cells #[.int .i64 x422000_1, .int .i64 x422001_1, .slice Ao9 x422002_1.length co9] 41 (0, 0)) (by (with_reducible repeat (first | refine blk_drewN ?_ _ | refine blk_drew ?_ | refine blk_alloc ?_ _)); exact BK421.out) hb)
                have n3_ := Aside0.mk (blk_below (g := gb422) (o := .cells #[.int .i64 x423000_1, .int .i64 x423001_1, .slice none 0 0] 41 (0, 0)) (by (with_reducible repeat (first | refine blk_drewN ?_ _ | refine blk_drew ?_ | refine blk_alloc ?_ _)); exact BK422.out) hb)
                have n4_ := Aside0.mk (blk_below (g := gb430) (o := .cells #[.int .i64 0, .int .i64 0, .slice none 0 0] 41 (0, 0)) (by (with_reducible repeat (first | refine blk_drewN ?_ _ | refine blk_drew ?_ | refine blk_alloc ?_ _)); exact BK430.out) hb)
                have n5_ := Aside0.mk (below_step (by repeat (first | (with_reducible first | exact HB.out | apply below_alloc | apply pw_below_drewN | apply below_drew1 | refine below_set ?_ GE421.out | refine below_set ?_ GE422.out | refine below_set ?_ GE430.out) | exact HB.out)) hb)
                clear HO_422002
                clear BK421
                clear BK422
                clear BK430
                clear HB
                have HO_422002 := n0_
                have HO428 := n1_
                have BK421 := n2_
                have BK422 := n3_
                have BK430 := n4_
                have HB := n5_
                clear n0_ n1_ n2_ n3_ n4_ n5_
                (try clear hb)
                (try clear hb2)
                (try clear hk)
                (try clear hi)
                (try clear ho0)
                refine hK.out _ _ ⟨(blk_cell BK421.out 0).trans rfl, (blk_cell BK421.out 1).trans rfl, (blk_cell BK421.out 2).trans rfl, ((HB.out.cell (World.block_lt_of_cell? w _ hw423_0)).trans hw423_0), ((HB.out.cell (World.block_lt_of_cell? w _ hw423_1)).trans hw423_1), ((HB.out.cell (World.block_lt_of_cell? w _ hw423_2)).trans hw423_2), ((HB.out.cell (World.block_lt_of_cell? w _ hw423_3)).trans hw423_3), ((HB.out.cell (World.block_lt_of_cell? w _ hw423_4)).trans hw423_4), ((HB.out.cell (World.block_lt_of_cell? w _ hw423_5)).trans hw423_5), ((HB.out.cell (World.block_lt_of_cell? w _ hw423_6)).trans hw423_6), ((HB.out.cell (World.block_lt_of_cell? w _ hw423_7)).trans hw423_7), ((HB.out.cell (World.block_lt_of_cell? w _ hw423_8)).trans hw423_8), ((HB.out.cell (World.block_lt_of_cell? w _ hw423_9)).trans hw423_9)⟩ (fun hHeld => ?_)
                clear hK K
                refine norm_ (a' := ?_) ?_ ?_
                rotate_left
                · show Act.put _ (some 20) _ = _
                  simp only [Act.put, List.setIfInBounds_toArray, List.set_cons_zero, List.set_cons_succ, i64_w, i32_w]
                  rfl
                refine pure_ (i := 6) (N := some 14) (v := ?_) (a' := ?_) #[true, true, true, true, true, true, true, false, false, true, false, false] rfl rfl (any_of HT_.out (by kernel_rfl)) (fun _ _ _ h => h) (Or.inl ⟨by rfl, ?_⟩) ?_ ?_
                rotate_left
                · intro w'
                  go_simp
                  with_reducible rfl
                rotate_left
                · simp only [Act.put, List.setIfInBounds_toArray, List.set_cons_zero, List.set_cons_succ, i64_w, i32_w]
                  rfl
                refine pure_ (i := 7) (N := some 21) (v := ?_) (a' := ?_) #[true, true, true, true, true, true, true, true, false, true, false, false] rfl rfl (any_of HT_.out (by kernel_rfl)) (fun _ _ _ h => h) (Or.inl ⟨by rfl, ?_⟩) ?_ ?_
                rotate_left
                · intro w'
                  go_simp
                  with_reducible rfl
                rotate_left
                · simp only [Act.put, List.setIfInBounds_toArray, List.set_cons_zero, List.set_cons_succ, i64_w, i32_w]
                  rfl
                refine pure_ (i := 8) (N := some 22) (v := ?_) (a' := ?_) #[true, true, true, true, true, true, true, true, true, true, false, false] rfl rfl (any_of HT_.out (by kernel_rfl)) (fun _ _ _ h => h) (Or.inl ⟨by rfl, ?_⟩) ?_ ?_
                rotate_left
                · intro w'
                  go_simp
                  with_reducible rfl
                rotate_left
                · simp only [Act.put, List.setIfInBounds_toArray, List.set_cons_zero, List.set_cons_succ, i64_w, i32_w]
                  rfl
                exact norm_ (by simp only [putAll, Act.put, List.setIfInBounds_toArray, List.set_cons_zero, List.set_cons_succ]) (hCont (v427, gb430) _ ⟨hHeld, (by (with_reducible repeat (first | apply Kd.V_alloc | apply Kd.V_drewN | apply Kd.V_drew)); exact HO428.out), (by (with_reducible repeat (first | apply Kd.V_alloc | apply Kd.V_drewN | apply Kd.V_drew)); exact Kd.V_mono HO_422002.out (fun _ hk => ⟨hk.1.1, ⟨hk.1.2.1, ⟨hk.1.2.2, hk.2⟩⟩⟩)), (by (with_reducible repeat (first | refine blk_drewN ?_ _ | refine blk_drew ?_ | refine blk_alloc ?_ _)); exact BK421.out), (by (with_reducible repeat (first | refine blk_drewN ?_ _ | refine blk_drew ?_ | refine blk_alloc ?_ _)); exact BK422.out), (by (with_reducible repeat (first | refine blk_drewN ?_ _ | refine blk_drew ?_ | refine blk_alloc ?_ _)); exact BK430.out), GW430.out, GE430.out, NB421_430.out, NB430_421.out, NB422_430.out, NB430_422.out, (by repeat (first | (with_reducible first | exact HB.out | apply below_alloc | apply pw_below_drewN | apply below_drew1 | refine below_set ?_ GE421.out | refine below_set ?_ GE422.out | refine below_set ?_ GE430.out) | exact HB.out))⟩)
            rintro ⟨v427, gb430⟩ w13 ⟨hS_, h0_, h1_, h2_, h3_, h4_, h5_, h6_, h7_, h8_, h9_, h10_, h11_⟩
            have n0_ : Aside0 (Kd.V k34 34 w13 w.heap.size (fun k_ => (P0_2_ k_ ∨ w.heap.size ≤ k_) ∧ k_ ≠ gb421 ∧ k_ ≠ gb422 ∧ k_ ≠ gb430) v427 t426) := ⟨h0_⟩
            have n1_ : Aside0 (Kd.V k34 34 w13 w.heap.size (fun k_ => (P0_2_ k_ ∨ w.heap.size ≤ k_) ∧ k_ ≠ gb421 ∧ k_ ≠ gb422 ∧ k_ ≠ gb430) (.slice Ao9 x422002_1.length co9) x422002_1) := ⟨h1_⟩
            have n2_ : Aside0 (w13.heap[gb421]? = some (.cells #[.int .i64 x422000_1, .int .i64 x422001_1, .slice Ao9 x422002_1.length co9] 41 (0, 0))) := ⟨h2_⟩
            have n3_ : Aside0 (w13.heap[gb422]? = some (.cells #[.int .i64 x423000_1, .int .i64 x423001_1, .slice none 0 0] 41 (0, 0))) := ⟨h3_⟩
            have n4_ : Aside0 (w13.heap[gb430]? = some (.cells #[.int .i64 0, .int .i64 0, .slice none 0 0] 41 (0, 0))) := ⟨h4_⟩
            have n5_ : Aside0 (w.heap.size ≤ gb430) := ⟨h5_⟩
            have n6_ : Aside0 (w.heap.size ≤ gb430) := ⟨h6_⟩
            have n7_ : Aside0 (gb421 ≠ gb430) := ⟨h7_⟩
            have n8_ : Aside0 (gb430 ≠ gb421) := ⟨h8_⟩
            have n9_ : Aside0 (gb422 ≠ gb430) := ⟨h9_⟩
            have n10_ : Aside0 (gb430 ≠ gb422) := ⟨h10_⟩
            have n11_ : Aside0 (Below w.heap.size w w13) := ⟨h11_⟩
            clear HO_422002
            clear BK421
            clear BK422
            clear HB
            clear h0_ h1_ h2_ h3_ h4_ h5_ h6_ h7_ h8_ h9_ h10_ h11_
            have HO428 := n0_
            have HO_422002 := n1_
            have BK421 := n2_
            have BK422 := n3_
            have BK430 := n4_
            have GW430 := n5_
            have GE430 := n6_
            have NB421_430 := n7_
            have NB430_421 := n8_
            have NB422_430 := n9_
            have NB430_422 := n10_
            have HB := n11_
            clear n0_ n1_ n2_ n3_ n4_ n5_ n6_ n7_ n8_ n9_ n10_ n11_
            have hHeld : w13.cell? ⟨gb421, 0, none⟩ = some (.int .i64 x422000_1) ∧ w13.cell? ⟨gb421, 1, none⟩ = some (.int .i64 x422001_1) ∧ w13.cell? ⟨gb421, 2, none⟩ = some (.slice Ao9 x422002_1.length co9) ∧ w13.cell? (ad423.add ((x5_1).toNat * 10)) = some (.int .i64 ((rd_T34 l1 x5_1).f0)) ∧ w13.cell? ⟨(ad423.add ((x5_1).toNat * 10)).block, (ad423.add ((x5_1).toNat * 10)).off + 1, none⟩ = some (.int .i64 ((rd_T34 l1 x5_1).f1)) ∧ w13.cell? ⟨(ad423.add ((x5_1).toNat * 10)).block, (ad423.add ((x5_1).toNat * 10)).off + 2, none⟩ = some (.int .i64 ((rd_T34 l1 x5_1).f2)) ∧ w13.cell? ⟨(ad423.add ((x5_1).toNat * 10)).block, (ad423.add ((x5_1).toNat * 10)).off + 3, none⟩ = some (.int .i64 ((rd_T34 l1 x5_1).f3)) ∧ w13.cell? ⟨(ad423.add ((x5_1).toNat * 10)).block, (ad423.add ((x5_1).toNat * 10)).off + 4, none⟩ = some (.int .i64 ((rd_T34 l1 x5_1).f4.f0.f0)) ∧ w13.cell? ⟨(ad423.add ((x5_1).toNat * 10)).block, (ad423.add ((x5_1).toNat * 10)).off + 5, none⟩ = some (.int .i64 ((rd_T34 l1 x5_1).f4.f0.f1)) ∧ w13.cell? ⟨(ad423.add ((x5_1).toNat * 10)).block, (ad423.add ((x5_1).toNat * 10)).off + 6, none⟩ = some (.int .i64 ((rd_T34 l1 x5_1).f4.f1)) ∧ w13.cell? ⟨(ad423.add ((x5_1).toNat * 10)).block, (ad423.add ((x5_1).toNat * 10)).off + 7, none⟩ = some (.int .i64 ((rd_T34 l1 x5_1).f4.f2)) ∧ w13.cell? ⟨(ad423.add ((x5_1).toNat * 10)).block, (ad423.add ((x5_1).toNat * 10)).off + 8, none⟩ = some (.int .i64 ((rd_T34 l1 x5_1).f4.f3.f0)) ∧ w13.cell? ⟨(ad423.add ((x5_1).toNat * 10)).block, (ad423.add ((x5_1).toNat * 10)).off + 9, none⟩ = some (.int .i64 ((rd_T34 l1 x5_1).f4.f3.f1)) := hS_
            obtain ⟨Ao16, co16, eo16⟩ := Kd.V_slice HO428.out
            (first | subst eo16 | (injection eo16 with f1_ f2_ f3_; have f4_ := f1_.symm; have f5_ := f3_.symm; clear f1_ f2_ f3_; subst f4_; subst f5_))
            refine norm_ (a' := ?_) ?_ ?_
            rotate_left
            · simp only [putAll, Act.put, List.setIfInBounds_toArray, List.set_cons_zero, List.set_cons_succ]
              rfl
            refine one_ (i := 10) (N := none) #[true, true, true, true, true, true, true, true, true, true, true, false] rfl rfl (one_of HT_.out (by kernel_rfl)) (by decide) (fun K hK => ?_)
            have hs14 : w13.cell? ⟨gb430, 0, none⟩ = some (.int .i64 0) := (blk_cell BK430.out 0).trans rfl
            have hfs14 := blk_frozen BK430.out 0
            have hns14_0 := NB421_430.out
            have hns14_1 := NB422_430.out
            have hms14_0 := NB430_421.out
            have hms14_1 := NB430_422.out
            have hs15 : w13.cell? ⟨gb430, 1, none⟩ = some (.int .i64 0) := (blk_cell BK430.out 1).trans rfl
            have hfs15 := blk_frozen BK430.out 1
            have hns15_0 := NB421_430.out
            have hns15_1 := NB422_430.out
            have hms15_0 := NB430_421.out
            have hms15_1 := NB430_422.out
            have hs17 : w13.cell? ⟨gb430, 2, none⟩ = some (.slice none 0 0) := (blk_cell BK430.out 2).trans rfl
            have hfs17 := blk_frozen BK430.out 2
            have hns17_0 := NB421_430.out
            have hns17_1 := NB422_430.out
            have hms17_0 := NB430_421.out
            have hms17_1 := NB430_422.out
            refine skip_ (w1 := ?_) (by rfl) rfl ?_ ?_
            rotate_left
            · go_simp
              rfl
            refine hK.out _ _ ⟨((cell_far (p := ⟨gb430, _, none⟩) NB421_430.out _).trans (((cell_far (p := ⟨gb430, _, none⟩) NB421_430.out _).trans (((cell_far (p := ⟨gb430, _, none⟩) NB421_430.out _).trans (hHeld.1)))))), ((cell_far (p := ⟨gb430, _, none⟩) NB421_430.out _).trans (((cell_far (p := ⟨gb430, _, none⟩) NB421_430.out _).trans (((cell_far (p := ⟨gb430, _, none⟩) NB421_430.out _).trans (hHeld.2.1)))))), ((cell_far (p := ⟨gb430, _, none⟩) NB421_430.out _).trans (((cell_far (p := ⟨gb430, _, none⟩) NB421_430.out _).trans (((cell_far (p := ⟨gb430, _, none⟩) NB421_430.out _).trans (hHeld.2.2.1)))))), ((cell_far (p := ⟨gb430, _, none⟩) (by first | exact Nat.ne_of_lt (Nat.lt_of_lt_of_le (by have := World.block_lt_of_cell? _ _ hw423_0; first | rwa [add_block] at this | exact this) GW430.out) | (rw [add_block]; exact Nat.ne_of_lt (Nat.lt_of_lt_of_le (by have := World.block_lt_of_cell? _ _ hw423_0; first | rwa [add_block] at this | exact this) GW430.out)) | (show (Addr.add _ _).block ≠ _; rw [add_block]; exact Nat.ne_of_lt (Nat.lt_of_lt_of_le (by have := World.block_lt_of_cell? _ _ hw423_0; first | rwa [add_block] at this | exact this) GW430.out)) | (dsimp only; exact Nat.ne_of_lt (Nat.lt_of_lt_of_le (by have := World.block_lt_of_cell? _ _ hw423_0; first | rwa [add_block] at this | exact this) GW430.out))) _).trans (((cell_far (p := ⟨gb430, _, none⟩) (by first | exact Nat.ne_of_lt (Nat.lt_of_lt_of_le (by have := World.block_lt_of_cell? _ _ hw423_0; first | rwa [add_block] at this | exact this) GW430.out) | (rw [add_block]; exact Nat.ne_of_lt (Nat.lt_of_lt_of_le (by have := World.block_lt_of_cell? _ _ hw423_0; first | rwa [add_block] at this | exact this) GW430.out)) | (show (Addr.add _ _).block ≠ _; rw [add_block]; exact Nat.ne_of_lt (Nat.lt_of_lt_of_le (by have := World.block_lt_of_cell? _ _ hw423_0; first | rwa [add_block] at this | exact this) GW430.out)) | (dsimp only; exact Nat.ne_of_lt (Nat.lt_of_lt_of_le (by have := World.block_lt_of_cell? _ _ hw423_0; first | rwa [add_block] at this | exact this) GW430.out))) _).trans (((cell_far (p := ⟨gb430, _, none⟩) (by first | exact Nat.ne_of_lt (Nat.lt_of_lt_of_le (by have := World.block_lt_of_cell? _ _ hw423_0; first | rwa [add_block] at this | exact this) GW430.out) | (rw [add_block]; exact Nat.ne_of_lt (Nat.lt_of_lt_of_le (by have := World.block_lt_of_cell? _ _ hw423_0; first | rwa [add_block] at this | exact this) GW430.out)) | (show (Addr.add _ _).block ≠ _; rw [add_block]; exact Nat.ne_of_lt (Nat.lt_of_lt_of_le (by have := World.block_lt_of_cell? _ _ hw423_0; first | rwa [add_block] at this | exact this) GW430.out)) | (dsimp only; exact Nat.ne_of_lt (Nat.lt_of_lt_of_le (by have := World.block_lt_of_cell? _ _ hw423_0; first | rwa [add_block] at this | exact this) GW430.out))) _).trans (hHeld.2.2.2.1)))))), ((cell_far (p := ⟨gb430, _, none⟩) (by first | exact Nat.ne_of_lt (Nat.lt_of_lt_of_le (by have := World.block_lt_of_cell? _ _ hw423_1; first | rwa [add_block] at this | exact this) GW430.out) | (rw [add_block]; exact Nat.ne_of_lt (Nat.lt_of_lt_of_le (by have := World.block_lt_of_cell? _ _ hw423_1; first | rwa [add_block] at this | exact this) GW430.out)) | (show (Addr.add _ _).block ≠ _; rw [add_block]; exact Nat.ne_of_lt (Nat.lt_of_lt_of_le (by have := World.block_lt_of_cell? _ _ hw423_1; first | rwa [add_block] at this | exact this) GW430.out)) | (dsimp only; exact Nat.ne_of_lt (Nat.lt_of_lt_of_le (by have := World.block_lt_of_cell? _ _ hw423_1; first | rwa [add_block] at this | exact this) GW430.out))) _).trans (((cell_far (p := ⟨gb430, _, none⟩) (by first | exact Nat.ne_of_lt (Nat.lt_of_lt_of_le (by have := World.block_lt_of_cell? _ _ hw423_1; first | rwa [add_block] at this | exact this) GW430.out) | (rw [add_block]; exact Nat.ne_of_lt (Nat.lt_of_lt_of_le (by have := World.block_lt_of_cell? _ _ hw423_1; first | rwa [add_block] at this | exact this) GW430.out)) | (show (Addr.add _ _).block ≠ _; rw [add_block]; exact Nat.ne_of_lt (Nat.lt_of_lt_of_le (by have := World.block_lt_of_cell? _ _ hw423_1; first | rwa [add_block] at this | exact this) GW430.out)) | (dsimp only; exact Nat.ne_of_lt (Nat.lt_of_lt_of_le (by have := World.block_lt_of_cell? _ _ hw423_1; first | rwa [add_block] at this | exact this) GW430.out))) _).trans (((cell_far (p := ⟨gb430, _, none⟩) (by first | exact Nat.ne_of_lt (Nat.lt_of_lt_of_le (by have := World.block_lt_of_cell? _ _ hw423_1; first | rwa [add_block] at this | exact this) GW430.out) | (rw [add_block]; exact Nat.ne_of_lt (Nat.lt_of_lt_of_le (by have := World.block_lt_of_cell? _ _ hw423_1; first | rwa [add_block] at this | exact this) GW430.out)) | (show (Addr.add _ _).block ≠ _; rw [add_block]; exact Nat.ne_of_lt (Nat.lt_of_lt_of_le (by have := World.block_lt_of_cell? _ _ hw423_1; first | rwa [add_block] at this | exact this) GW430.out)) | (dsimp only; exact Nat.ne_of_lt (Nat.lt_of_lt_of_le (by have := World.block_lt_of_cell? _ _ hw423_1; first | rwa [add_block] at this | exact this) GW430.out))) _).trans (hHeld.2.2.2.2.1)))))), ((cell_far (p := ⟨gb430, _, none⟩) (by first | exact Nat.ne_of_lt (Nat.lt_of_lt_of_le (by have := World.block_lt_of_cell? _ _ hw423_2; first | rwa [add_block] at this | exact this) GW430.out) | (rw [add_block]; exact Nat.ne_of_lt (Nat.lt_of_lt_of_le (by have := World.block_lt_of_cell? _ _ hw423_2; first | rwa [add_block] at this | exact this) GW430.out)) | (show (Addr.add _ _).block ≠ _; rw [add_block]; exact Nat.ne_of_lt (Nat.lt_of_lt_of_le (by have := World.block_lt_of_cell? _ _ hw423_2; first | rwa [add_block] at this | exact this) GW430.out)) | (dsimp only; exact Nat.ne_of_lt (Nat.lt_of_lt_of_le (by have := World.block_lt_of_cell? _ _ hw423_2; first | rwa [add_block] at this | exact this) GW430.out))) _).trans (((cell_far (p := ⟨gb430, _, none⟩) (by first | exact Nat.ne_of_lt (Nat.lt_of_lt_of_le (by have := World.block_lt_of_cell? _ _ hw423_2; first | rwa [add_block] at this | exact this) GW430.out) | (rw [add_block]; exact Nat.ne_of_lt (Nat.lt_of_lt_of_le (by have := World.block_lt_of_cell? _ _ hw423_2; first | rwa [add_block] at this | exact this) GW430.out)) | (show (Addr.add _ _).block ≠ _; rw [add_block]; exact Nat.ne_of_lt (Nat.lt_of_lt_of_le (by have := World.block_lt_of_cell? _ _ hw423_2; first | rwa [add_block] at this | exact this) GW430.out)) | (dsimp only; exact Nat.ne_of_lt (Nat.lt_of_lt_of_le (by have := World.block_lt_of_cell? _ _ hw423_2; first | rwa [add_block] at this | exact this) GW430.out))) _).trans (((cell_far (p := ⟨gb430, _, none⟩) (by first | exact Nat.ne_of_lt (Nat.lt_of_lt_of_le (by have := World.block_lt_of_cell? _ _ hw423_2; first | rwa [add_block] at this | exact this) GW430.out) | (rw [add_block]; exact Nat.ne_of_lt (Nat.lt_of_lt_of_le (by have := World.block_lt_of_cell? _ _ hw423_2; first | rwa [add_block] at this | exact this) GW430.out)) | (show (Addr.add _ _).block ≠ _; rw [add_block]; exact Nat.ne_of_lt (Nat.lt_of_lt_of_le (by have := World.block_lt_of_cell? _ _ hw423_2; first | rwa [add_block] at this | exact this) GW430.out)) | (dsimp only; exact Nat.ne_of_lt (Nat.lt_of_lt_of_le (by have := World.block_lt_of_cell? _ _ hw423_2; first | rwa [add_block] at this | exact this) GW430.out))) _).trans (hHeld.2.2.2.2.2.1)))))), ((cell_far (p := ⟨gb430, _, none⟩) (by first | exact Nat.ne_of_lt (Nat.lt_of_lt_of_le (by have := World.block_lt_of_cell? _ _ hw423_3; first | rwa [add_block] at this | exact this) GW430.out) | (rw [add_block]; exact Nat.ne_of_lt (Nat.lt_of_lt_of_le (by have := World.block_lt_of_cell? _ _ hw423_3; first | rwa [add_block] at this | exact this) GW430.out)) | (show (Addr.add _ _).block ≠ _; rw [add_block]; exact Nat.ne_of_lt (Nat.lt_of_lt_of_le (by have := World.block_lt_of_cell? _ _ hw423_3; first | rwa [add_block] at this | exact this) GW430.out)) | (dsimp only; exact Nat.ne_of_lt (Nat.lt_of_lt_of_le (by have := World.block_lt_of_cell? _ _ hw423_3; first | rwa [add_block] at this | exact this) GW430.out))) _).trans (((cell_far (p := ⟨gb430, _, none⟩) (by first | exact Nat.ne_of_lt (Nat.lt_of_lt_of_le (by have := World.block_lt_of_cell? _ _ hw423_3; first | rwa [add_block] at this | exact this) GW430.out) | (rw [add_block]; exact Nat.ne_of_lt (Nat.lt_of_lt_of_le (by have := World.block_lt_of_cell? _ _ hw423_3; first | rwa [add_block] at this | exact this) GW430.out)) | (show (Addr.add _ _).block ≠ _; rw [add_block]; exact Nat.ne_of_lt (Nat.lt_of_lt_of_le (by have := World.block_lt_of_cell? _ _ hw423_3; first | rwa [add_block] at this | exact this) GW430.out)) | (dsimp only; exact Nat.ne_of_lt (Nat.lt_of_lt_of_le (by have := World.block_lt_of_cell? _ _ hw423_3; first | rwa [add_block] at this | exact this) GW430.out))) _).trans (((cell_far (p := ⟨gb430, _, none⟩) (by first | exact Nat.ne_of_lt (Nat.lt_of_lt_of_le (by have := World.block_lt_of_cell? _ _ hw423_3; first | rwa [add_block] at this | exact this) GW430.out) | (rw [add_block]; exact Nat.ne_of_lt (Nat.lt_of_lt_of_le (by have := World.block_lt_of_cell? _ _ hw423_3; first | rwa [add_block] at this | exact this) GW430.out)) | (show (Addr.add _ _).block ≠ _; rw [add_block]; exact Nat.ne_of_lt (Nat.lt_of_lt_of_le (by have := World.block_lt_of_cell? _ _ hw423_3; first | rwa [add_block] at this | exact this) GW430.out)) | (dsimp only; exact Nat.ne_of_lt (Nat.lt_of_lt_of_le (by have := World.block_lt_of_cell? _ _ hw423_3; first | rwa [add_block] at this | exact this) GW430.out))) _).trans (hHeld.2.2.2.2.2.2.1)))))), ((cell_far (p := ⟨gb430, _, none⟩) (by first | exact Nat.ne_of_lt (Nat.lt_of_lt_of_le (by have := World.block_lt_of_cell? _ _ hw423_4; first | rwa [add_block] at this | exact this) GW430.out) | (rw [add_block]; exact Nat.ne_of_lt (Nat.lt_of_lt_of_le (by have := World.block_lt_of_cell? _ _ hw423_4; first | rwa [add_block] at this | exact this) GW430.out)) | (show (Addr.add _ _).block ≠ _; rw [add_block]; exact Nat.ne_of_lt (Nat.lt_of_lt_of_le (by have := World.block_lt_of_cell? _ _ hw423_4; first | rwa [add_block] at this | exact this) GW430.out)) | (dsimp only; exact Nat.ne_of_lt (Nat.lt_of_lt_of_le (by have := World.block_lt_of_cell? _ _ hw423_4; first | rwa [add_block] at this | exact this) GW430.out))) _).trans (((cell_far (p := ⟨gb430, _, none⟩) (by first | exact Nat.ne_of_lt (Nat.lt_of_lt_of_le (by have := World.block_lt_of_cell? _ _ hw423_4; first | rwa [add_block] at this | exact this) GW430.out) | (rw [add_block]; exact Nat.ne_of_lt (Nat.lt_of_lt_of_le (by have := World.block_lt_of_cell? _ _ hw423_4; first | rwa [add_block] at this | exact this) GW430.out)) | (show (Addr.add _ _).block ≠ _; rw [add_block]; exact Nat.ne_of_lt (Nat.lt_of_lt_of_le (by have := World.block_lt_of_cell? _ _ hw423_4; first | rwa [add_block] at this | exact this) GW430.out)) | (dsimp only; exact Nat.ne_of_lt (Nat.lt_of_lt_of_le (by have := World.block_lt_of_cell? _ _ hw423_4; first | rwa [add_block] at this | exact this) GW430.out))) _).trans (((cell_far (p := ⟨gb430, _, none⟩) (by first | exact Nat.ne_of_lt (Nat.lt_of_lt_of_le (by have := World.block_lt_of_cell? _ _ hw423_4; first | rwa [add_block] at this | exact this) GW430.out) | (rw [add_block]; exact Nat.ne_of_lt (Nat.lt_of_lt_of_le (by have := World.block_lt_of_cell? _ _ hw423_4; first | rwa [add_block] at this | exact this) GW430.out)) | (show (Addr.add _ _).block ≠ _; rw [add_block]; exact Nat.ne_of_lt (Nat.lt_of_lt_of_le (by have := World.block_lt_of_cell? _ _ hw423_4; first | rwa [add_block] at this | exact this) GW430.out)) | (dsimp only; exact Nat.ne_of_lt (Nat.lt_of_lt_of_le (by have := World.block_lt_of_cell? _ _ hw423_4; first | rwa [add_block] at this | exact this) GW430.out))) _).trans (hHeld.2.2.2.2.2.2.2.1)))))), ((cell_far (p := ⟨gb430, _, none⟩) (by first | exact Nat.ne_of_lt (Nat.lt_of_lt_of_le (by have := World.block_lt_of_cell? _ _ hw423_5; first | rwa [add_block] at this | exact this) GW430.out) | (rw [add_block]; exact Nat.ne_of_lt (Nat.lt_of_lt_of_le (by have := World.block_lt_of_cell? _ _ hw423_5; first | rwa [add_block] at this | exact this) GW430.out)) | (show (Addr.add _ _).block ≠ _; rw [add_block]; exact Nat.ne_of_lt (Nat.lt_of_lt_of_le (by have := World.block_lt_of_cell? _ _ hw423_5; first | rwa [add_block] at this | exact this) GW430.out)) | (dsimp only; exact Nat.ne_of_lt (Nat.lt_of_lt_of_le (by have := World.block_lt_of_cell? _ _ hw423_5; first | rwa [add_block] at this | exact this) GW430.out))) _).trans (((cell_far (p := ⟨gb430, _, none⟩) (by first | exact Nat.ne_of_lt (Nat.lt_of_lt_of_le (by have := World.block_lt_of_cell? _ _ hw423_5; first | rwa [add_block] at this | exact this) GW430.out) | (rw [add_block]; exact Nat.ne_of_lt (Nat.lt_of_lt_of_le (by have := World.block_lt_of_cell? _ _ hw423_5; first | rwa [add_block] at this | exact this) GW430.out)) | (show (Addr.add _ _).block ≠ _; rw [add_block]; exact Nat.ne_of_lt (Nat.lt_of_lt_of_le (by have := World.block_lt_of_cell? _ _ hw423_5; first | rwa [add_block] at this | exact this) GW430.out)) | (dsimp only; exact Nat.ne_of_lt (Nat.lt_of_lt_of_le (by have := World.block_lt_of_cell? _ _ hw423_5; first | rwa [add_block] at this | exact this) GW430.out))) _).trans (((cell_far (p := ⟨gb430, _, none⟩) (by first | exact Nat.ne_of_lt (Nat.lt_of_lt_of_le (by have := World.block_lt_of_cell? _ _ hw423_5; first | rwa [add_block] at this | exact this) GW430.out) | (rw [add_block]; exact Nat.ne_of_lt (Nat.lt_of_lt_of_le (by have := World.block_lt_of_cell? _ _ hw423_5; first | rwa [add_block] at this | exact this) GW430.out)) | (show (Addr.add _ _).block ≠ _; rw [add_block]; exact Nat.ne_of_lt (Nat.lt_of_lt_of_le (by have := World.block_lt_of_cell? _ _ hw423_5; first | rwa [add_block] at this | exact this) GW430.out)) | (dsimp only; exact Nat.ne_of_lt (Nat.lt_of_lt_of_le (by have := World.block_lt_of_cell? _ _ hw423_5; first | rwa [add_block] at this | exact this) GW430.out))) _).trans (hHeld.2.2.2.2.2.2.2.2.1)))))), ((cell_far (p := ⟨gb430, _, none⟩) (by first | exact Nat.ne_of_lt (Nat.lt_of_lt_of_le (by have := World.block_lt_of_cell? _ _ hw423_6; first | rwa [add_block] at this | exact this) GW430.out) | (rw [add_block]; exact Nat.ne_of_lt (Nat.lt_of_lt_of_le (by have := World.block_lt_of_cell? _ _ hw423_6; first | rwa [add_block] at this | exact this) GW430.out)) | (show (Addr.add _ _).block ≠ _; rw [add_block]; exact Nat.ne_of_lt (Nat.lt_of_lt_of_le (by have := World.block_lt_of_cell? _ _ hw423_6; first | rwa [add_block] at this | exact this) GW430.out)) | (dsimp only; exact Nat.ne_of_lt (Nat.lt_of_lt_of_le (by have := World.block_lt_of_cell? _ _ hw423_6; first | rwa [add_block] at this | exact this) GW430.out))) _).trans (((cell_far (p := ⟨gb430, _, none⟩) (by first | exact Nat.ne_of_lt (Nat.lt_of_lt_of_le (by have := World.block_lt_of_cell? _ _ hw423_6; first | rwa [add_block] at this | exact this) GW430.out) | (rw [add_block]; exact Nat.ne_of_lt (Nat.lt_of_lt_of_le (by have := World.block_lt_of_cell? _ _ hw423_6; first | rwa [add_block] at this | exact this) GW430.out)) | (show (Addr.add _ _).block ≠ _; rw [add_block]; exact Nat.ne_of_lt (Nat.lt_of_lt_of_le (by have := World.block_lt_of_cell? _ _ hw423_6; first | rwa [add_block] at this | exact this) GW430.out)) | (dsimp only; exact Nat.ne_of_lt (Nat.lt_of_lt_of_le (by have := World.block_lt_of_cell? _ _ hw423_6; first | rwa [add_block] at this | exact this) GW430.out))) _).trans (((cell_far (p := ⟨gb430, _, none⟩) (by first | exact Nat.ne_of_lt (Nat.lt_of_lt_of_le (by have := World.block_lt_of_cell? _ _ hw423_6; first | rwa [add_block] at this | exact this) GW430.out) | (rw [add_block]; exact Nat.ne_of_lt (Nat.lt_of_lt_of_le (by have := World.block_lt_of_cell? _ _ hw423_6; first | rwa [add_block] at this | exact this) GW430.out)) | (show (Addr.add _ _).block ≠ _; rw [add_block]; exact Nat.ne_of_lt (Nat.lt_of_lt_of_le (by have := World.block_lt_of_cell? _ _ hw423_6; first | rwa [add_block] at this | exact this) GW430.out)) | (dsimp only; exact Nat.ne_of_lt (Nat.lt_of_lt_of_le (by have := World.block_lt_of_cell? _ _ hw423_6; first | rwa [add_block] at this | exact this) GW430.out))) _).trans (hHeld.2.2.2.2.2.2.2.2.2.1)))))), ((cell_far (p := ⟨gb430, _, none⟩) (by first | exact Nat.ne_of_lt (Nat.lt_of_lt_of_le (by have := World.block_lt_of_cell? _ _ hw423_7; first | rwa [add_block] at this | exact this) GW430.out) | (rw [add_block]; exact Nat.ne_of_lt (Nat.lt_of_lt_of_le (by have := World.block_lt_of_cell? _ _ hw423_7; first | rwa [add_block] at this | exact this) GW430.out)) | (show (Addr.add _ _).block ≠ _; rw [add_block]; exact Nat.ne_of_lt (Nat.lt_of_lt_of_le (by have := World.block_lt_of_cell? _ _ hw423_7; first | rwa [add_block] at this | exact this) GW430.out)) | (dsimp only; exact Nat.ne_of_lt (Nat.lt_of_lt_of_le (by have := World.block_lt_of_cell? _ _ hw423_7; first | rwa [add_block] at this | exact this) GW430.out))) _).trans (((cell_far (p := ⟨gb430, _, none⟩) (by first | exact Nat.ne_of_lt (Nat.lt_of_lt_of_le (by have := World.block_lt_of_cell? _ _ hw423_7; first | rwa [add_block] at this | exact this) GW430.out) | (rw [add_block]; exact Nat.ne_of_lt (Nat.lt_of_lt_of_le (by have := World.block_lt_of_cell? _ _ hw423_7; first | rwa [add_block] at this | exact this) GW430.out)) | (show (Addr.add _ _).block ≠ _; rw [add_block]; exact Nat.ne_of_lt (Nat.lt_of_lt_of_le (by have := World.block_lt_of_cell? _ _ hw423_7; first | rwa [add_block] at this | exact this) GW430.out)) | (dsimp only; exact Nat.ne_of_lt (Nat.lt_of_lt_of_le (by have := World.block_lt_of_cell? _ _ hw423_7; first | rwa [add_block] at this | exact this) GW430.out))) _).trans (((cell_far (p := ⟨gb430, _, none⟩) (by first | exact Nat.ne_of_lt (Nat.lt_of_lt_of_le (by have := World.block_lt_of_cell? _ _ hw423_7; first | rwa [add_block] at this | exact this) GW430.out) | (rw [add_block]; exact Nat.ne_of_lt (Nat.lt_of_lt_of_le (by have := World.block_lt_of_cell? _ _ hw423_7; first | rwa [add_block] at this | exact this) GW430.out)) | (show (Addr.add _ _).block ≠ _; rw [add_block]; exact Nat.ne_of_lt (Nat.lt_of_lt_of_le (by have := World.block_lt_of_cell? _ _ hw423_7; first | rwa [add_block] at this | exact this) GW430.out)) | (dsimp only; exact Nat.ne_of_lt (Nat.lt_of_lt_of_le (by have := World.block_lt_of_cell? _ _ hw423_7; first | rwa [add_block] at this | exact this) GW430.out))) _).trans (hHeld.2.2.2.2.2.2.2.2.2.2.1)))))), ((cell_far (p := ⟨gb430, _, none⟩) (by first | exact Nat.ne_of_lt (Nat.lt_of_lt_of_le (by have := World.block_lt_of_cell? _ _ hw423_8; first | rwa [add_block] at this | exact this) GW430.out) | (rw [add_block]; exact Nat.ne_of_lt (Nat.lt_of_lt_of_le (by have := World.block_lt_of_cell? _ _ hw423_8; first | rwa [add_block] at this | exact this) GW430.out)) | (show (Addr.add _ _).block ≠ _; rw [add_block]; exact Nat.ne_of_lt (Nat.lt_of_lt_of_le (by have := World.block_lt_of_cell? _ _ hw423_8; first | rwa [add_block] at this | exact this) GW430.out)) | (dsimp only; exact Nat.ne_of_lt (Nat.lt_of_lt_of_le (by have := World.block_lt_of_cell? _ _ hw423_8; first | rwa [add_block] at this | exact this) GW430.out))) _).trans (((cell_far (p := ⟨gb430, _, none⟩) (by first | exact Nat.ne_of_lt (Nat.lt_of_lt_of_le (by have := World.block_lt_of_cell? _ _ hw423_8; first | rwa [add_block] at this | exact this) GW430.out) | (rw [add_block]; exact Nat.ne_of_lt (Nat.lt_of_lt_of_le (by have := World.block_lt_of_cell? _ _ hw423_8; first | rwa [add_block] at this | exact this) GW430.out)) | (show (Addr.add _ _).block ≠ _; rw [add_block]; exact Nat.ne_of_lt (Nat.lt_of_lt_of_le (by have := World.block_lt_of_cell? _ _ hw423_8; first | rwa [add_block] at this | exact this) GW430.out)) | (dsimp only; exact Nat.ne_of_lt (Nat.lt_of_lt_of_le (by have := World.block_lt_of_cell? _ _ hw423_8; first | rwa [add_block] at this | exact this) GW430.out))) _).trans (((cell_far (p := ⟨gb430, _, none⟩) (by first | exact Nat.ne_of_lt (Nat.lt_of_lt_of_le (by have := World.block_lt_of_cell? _ _ hw423_8; first | rwa [add_block] at this | exact this) GW430.out) | (rw [add_block]; exact Nat.ne_of_lt (Nat.lt_of_lt_of_le (by have := World.block_lt_of_cell? _ _ hw423_8; first | rwa [add_block] at this | exact this) GW430.out)) | (show (Addr.add _ _).block ≠ _; rw [add_block]; exact Nat.ne_of_lt (Nat.lt_of_lt_of_le (by have := World.block_lt_of_cell? _ _ hw423_8; first | rwa [add_block] at this | exact this) GW430.out)) | (dsimp only; exact Nat.ne_of_lt (Nat.lt_of_lt_of_le (by have := World.block_lt_of_cell? _ _ hw423_8; first | rwa [add_block] at this | exact this) GW430.out))) _).trans (hHeld.2.2.2.2.2.2.2.2.2.2.2.1)))))), ((cell_far (p := ⟨gb430, _, none⟩) (by first | exact Nat.ne_of_lt (Nat.lt_of_lt_of_le (by have := World.block_lt_of_cell? _ _ hw423_9; first | rwa [add_block] at this | exact this) GW430.out) | (rw [add_block]; exact Nat.ne_of_lt (Nat.lt_of_lt_of_le (by have := World.block_lt_of_cell? _ _ hw423_9; first | rwa [add_block] at this | exact this) GW430.out)) | (show (Addr.add _ _).block ≠ _; rw [add_block]; exact Nat.ne_of_lt (Nat.lt_of_lt_of_le (by have := World.block_lt_of_cell? _ _ hw423_9; first | rwa [add_block] at this | exact this) GW430.out)) | (dsimp only; exact Nat.ne_of_lt (Nat.lt_of_lt_of_le (by have := World.block_lt_of_cell? _ _ hw423_9; first | rwa [add_block] at this | exact this) GW430.out))) _).trans (((cell_far (p := ⟨gb430, _, none⟩) (by first | exact Nat.ne_of_lt (Nat.lt_of_lt_of_le (by have := World.block_lt_of_cell? _ _ hw423_9; first | rwa [add_block] at this | exact this) GW430.out) | (rw [add_block]; exact Nat.ne_of_lt (Nat.lt_of_lt_of_le (by have := World.block_lt_of_cell? _ _ hw423_9; first | rwa [add_block] at this | exact this) GW430.out)) | (show (Addr.add _ _).block ≠ _; rw [add_block]; exact Nat.ne_of_lt (Nat.lt_of_lt_of_le (by have := World.block_lt_of_cell? _ _ hw423_9; first | rwa [add_block] at this | exact this) GW430.out)) | (dsimp only; exact Nat.ne_of_lt (Nat.lt_of_lt_of_le (by have := World.block_lt_of_cell? _ _ hw423_9; first | rwa [add_block] at this | exact this) GW430.out))) _).trans (((cell_far (p := ⟨gb430, _, none⟩) (by first | exact Nat.ne_of_lt (Nat.lt_of_lt_of_le (by have := World.block_lt_of_cell? _ _ hw423_9; first | rwa [add_block] at this | exact this) GW430.out) | (rw [add_block]; exact Nat.ne_of_lt (Nat.lt_of_lt_of_le (by have := World.block_lt_of_cell? _ _ hw423_9; first | rwa [add_block] at this | exact this) GW430.out)) | (show (Addr.add _ _).block ≠ _; rw [add_block]; exact Nat.ne_of_lt (Nat.lt_of_lt_of_le (by have := World.block_lt_of_cell? _ _ hw423_9; first | rwa [add_block] at this | exact this) GW430.out)) | (dsimp only; exact Nat.ne_of_lt (Nat.lt_of_lt_of_le (by have := World.block_lt_of_cell? _ _ hw423_9; first | rwa [add_block] at this | exact this) GW430.out))) _).trans (hHeld.2.2.2.2.2.2.2.2.2.2.2.2))))))⟩ (fun hHeld => ?_)
            clear hK K
            refine pure_ (i := 11) (N := some 7) (v := ?_) (a' := ?_) #[true, true, true, true, true, true, true, true, true, true, true, true] rfl rfl (any_of HT_.out (by kernel_rfl)) (fun _ _ _ h => h) (Or.inl ⟨by rfl, ?_⟩) ?_ ?_
            rotate_left
            · intro w'
              go_simp
              with_reducible rfl
            rotate_left
            · simp only [Act.put, List.setIfInBounds_toArray, List.set_cons_zero, List.set_cons_succ, i64_w, i32_w]
              rfl
            refine done_ (done_of HT_.out (by kernel_rfl)) ?_
            have hnb18 := NB430_421.out
            have hnc18 := NB421_430.out
            have hnb19 := NB430_422.out
            have hnc19 := NB422_430.out
            have hcz20_0 : w13.cell? ⟨gb430, 0, none⟩ = some (.int .i64 0) := (blk_cell BK430.out 0).trans rfl
            have hcz20_1 : w13.cell? ⟨gb430, 1, none⟩ = some (.int .i64 0) := (blk_cell BK430.out 1).trans rfl
            have hcz20_2 : w13.cell? ⟨gb430, 2, none⟩ = some (.slice none 0 0) := (blk_cell BK430.out 2).trans rfl
            have hfz20_0 := blk_frozen BK430.out 0
            have hfz20_1 := blk_frozen BK430.out 1
            have hfz20_2 := blk_frozen BK430.out 2
            have hnb21 := NB421_422.out
            have hnc21 := NB422_421.out
            have hcz22_0 : w13.cell? ⟨gb421, 0, none⟩ = some (.int .i64 x422000_1) := (blk_cell BK421.out 0).trans rfl
            have hcz22_1 : w13.cell? ⟨gb421, 1, none⟩ = some (.int .i64 x422001_1) := (blk_cell BK421.out 1).trans rfl
            have hcz22_2 : w13.cell? ⟨gb421, 2, none⟩ = some (.slice Ao9 x422002_1.length co9) := (blk_cell BK421.out 2).trans rfl
            have hfz22_0 := blk_frozen BK421.out 0
            have hfz22_1 := blk_frozen BK421.out 1
            have hfz22_2 := blk_frozen BK421.out 2
            try go_wp2
            go_roundg k1
            case measure => have := HK1.out; omega
            case rel => exact ⟨(wrap64 (x5_1 + 1)), (t424), (t425), (t426), (x423000_1), (x423001_1), (.slice Ao16 t426.length co16), (by first | rfl | (simp; done) | (simp [*]; done)), H', ⟨by have := HK1.out; omega⟩, ⟨by (with_reducible repeat (first | apply Kd.V_alloc | apply Kd.V_drewN | apply Kd.V_drew)); exact Kd.V_mono (Kd.V_far (p := ⟨gb421, 2, none⟩) (Kd.V_far (p := ⟨gb421, 1, none⟩) (Kd.V_far (p := ⟨gb421, 0, none⟩) (Kd.V_far (p := ⟨gb430, 2, none⟩) (Kd.V_far (p := ⟨gb430, 1, none⟩) (Kd.V_far (p := ⟨gb430, 0, none⟩) (Kd.V_mono (Kd.V_mono HO428.out (fun k_ hk => (⟨hk, hk.2.2.2⟩ : _ ∧ k_ ≠ gb430))) (fun k_ hk => (⟨hk, hk.1.2.1⟩ : _ ∧ k_ ≠ gb421))) (fun _ hk => hk.1.2) (.int .i64 t424)) (fun _ hk => hk.1.2) (.int .i64 t425)) (fun _ hk => hk.1.2) (.slice Ao16 t426.length co16)) (fun _ hk => hk.2) (.int .i64 t424)) (fun _ hk => hk.2) (.int .i64 t425)) (fun _ hk => hk.2) (.slice Ao16 t426.length co16)) (fun _ hk => ⟨hk.1.1.1, ⟨hk.1.1.2.1, hk.1.1.2.2.1⟩⟩)⟩, ⟨by (with_reducible repeat (first | refine blk_drewN ?_ _ | refine blk_drew ?_ | refine blk_alloc ?_ _)); refine blk_put (cs := #[.int .i64 t424, .int .i64 t425, .slice Ao9 x422002_1.length co9]) ?_ 2 _ rfl; (with_reducible repeat (first | refine blk_drewN ?_ _ | refine blk_drew ?_ | refine blk_alloc ?_ _)); refine blk_put (cs := #[.int .i64 t424, .int .i64 x422001_1, .slice Ao9 x422002_1.length co9]) ?_ 1 _ rfl; (with_reducible repeat (first | refine blk_drewN ?_ _ | refine blk_drew ?_ | refine blk_alloc ?_ _)); refine blk_put (cs := #[.int .i64 x422000_1, .int .i64 x422001_1, .slice Ao9 x422002_1.length co9]) ?_ 0 _ rfl; (with_reducible repeat (first | refine blk_drewN ?_ _ | refine blk_drew ?_ | refine blk_alloc ?_ _)); refine blk_far ?_ NB421_430.out _; (with_reducible repeat (first | refine blk_drewN ?_ _ | refine blk_drew ?_ | refine blk_alloc ?_ _)); refine blk_far ?_ NB421_430.out _; (with_reducible repeat (first | refine blk_drewN ?_ _ | refine blk_drew ?_ | refine blk_alloc ?_ _)); refine blk_far ?_ NB421_430.out _; (with_reducible repeat (first | refine blk_drewN ?_ _ | refine blk_drew ?_ | refine blk_alloc ?_ _)); exact BK421.out⟩, ⟨by (with_reducible repeat (first | refine blk_drewN ?_ _ | refine blk_drew ?_ | refine blk_alloc ?_ _)); refine blk_far ?_ NB422_421.out _; (with_reducible repeat (first | refine blk_drewN ?_ _ | refine blk_drew ?_ | refine blk_alloc ?_ _)); refine blk_far ?_ NB422_421.out _; (with_reducible repeat (first | refine blk_drewN ?_ _ | refine blk_drew ?_ | refine blk_alloc ?_ _)); refine blk_far ?_ NB422_421.out _; (with_reducible repeat (first | refine blk_drewN ?_ _ | refine blk_drew ?_ | refine blk_alloc ?_ _)); refine blk_far ?_ NB422_430.out _; (with_reducible repeat (first | refine blk_drewN ?_ _ | refine blk_drew ?_ | refine blk_alloc ?_ _)); refine blk_far ?_ NB422_430.out _; (with_reducible repeat (first | refine blk_drewN ?_ _ | refine blk_drew ?_ | refine blk_alloc ?_ _)); refine blk_far ?_ NB422_430.out _; (with_reducible repeat (first | refine blk_drewN ?_ _ | refine blk_drew ?_ | refine blk_alloc ?_ _)); exact BK422.out⟩, ⟨by repeat (first | (with_reducible first | exact HB.out | apply below_alloc | apply pw_below_drewN | apply below_drew1 | refine below_set ?_ GE421.out | refine below_set ?_ GE422.out | refine below_set ?_ GE430.out) | exact HB.out)⟩⟩
          · rw [if_neg c8] at H
            have c8b0 : (t429 == 0) = false := beq_eq_false_iff_ne.mpr c8
            have c8b1 : (t429 != 0) = true := bne_iff_ne.mpr c8
            simp only [Option.some.injEq, Prod.mk.injEq] at H
            obtain ⟨rfl, rfl, rfl⟩ := H
            obtain ⟨Ao23, co23, eo23⟩ := Kd.V_slice HO_422002.out
            subst eo23
            try go_wp2
            have n0_ := Aside0.mk (Kd.V_drew HO_422002.out)
            have n1_ := Aside0.mk (blk_drew BK421.out)
            have n2_ := Aside0.mk (blk_drew BK422.out)
            have n3_ := Aside0.mk (below_drew1 HB.out)
            clear HO_422002
            clear BK421
            clear BK422
            clear HB
            have HO_422002 := n0_
            have BK421 := n1_
            have BK422 := n2_
            have HB := n3_
            clear n0_ n1_ n2_ n3_
            have p423 : 0 ≤ (x5_1 : Int) := of_decide_eq_true (by first | (with_reducible assumption) | assumption)
            have q423 : x5_1 < (l1.length : Int) := of_decide_eq_true (by first | (with_reducible assumption) | assumption)
            obtain ⟨ad423, e423, hx423_0, hx423_1, hx423_2, hx423_3, hx423_4, hx423_5, hx423_6, hx423_7, hx423_8, hx423_9⟩ := at_T34 HR1.out x5_1 p423 q423
            have hw423_9 := hx423_9
            have hw423_8 := hx423_8
            have hw423_7 := hx423_7
            have hw423_6 := hx423_6
            have hw423_5 := hx423_5
            have hw423_4 := hx423_4
            have hw423_3 := hx423_3
            have hw423_2 := hx423_2
            have hw423_1 := hx423_1
            have hw423_0 := hx423_0
            cases e423
            replace hx423_0 := (HB.out.cell (World.block_lt_of_cell? w _ hx423_0)).trans hx423_0
            replace hx423_1 := (HB.out.cell (World.block_lt_of_cell? w _ hx423_1)).trans hx423_1
            replace hx423_2 := (HB.out.cell (World.block_lt_of_cell? w _ hx423_2)).trans hx423_2
            replace hx423_3 := (HB.out.cell (World.block_lt_of_cell? w _ hx423_3)).trans hx423_3
            replace hx423_4 := (HB.out.cell (World.block_lt_of_cell? w _ hx423_4)).trans hx423_4
            replace hx423_5 := (HB.out.cell (World.block_lt_of_cell? w _ hx423_5)).trans hx423_5
            replace hx423_6 := (HB.out.cell (World.block_lt_of_cell? w _ hx423_6)).trans hx423_6
            replace hx423_7 := (HB.out.cell (World.block_lt_of_cell? w _ hx423_7)).trans hx423_7
            replace hx423_8 := (HB.out.cell (World.block_lt_of_cell? w _ hx423_8)).trans hx423_8
            replace hx423_9 := (HB.out.cell (World.block_lt_of_cell? w _ hx423_9)).trans hx423_9
            replace p423 := eq_true p423
            replace q423 := eq_true q423
            refine start_ (n := 12) (S := fun w' => w'.cell? ⟨gb421, 0, none⟩ = some (.int .i64 x422000_1) ∧ w'.cell? ⟨gb421, 1, none⟩ = some (.int .i64 x422001_1) ∧ w'.cell? ⟨gb421, 2, none⟩ = some (.slice Ao23 x422002_1.length co23) ∧ w'.cell? (ad423.add ((x5_1).toNat * 10)) = some (.int .i64 ((rd_T34 l1 x5_1).f0)) ∧ w'.cell? ⟨(ad423.add ((x5_1).toNat * 10)).block, (ad423.add ((x5_1).toNat * 10)).off + 1, none⟩ = some (.int .i64 ((rd_T34 l1 x5_1).f1)) ∧ w'.cell? ⟨(ad423.add ((x5_1).toNat * 10)).block, (ad423.add ((x5_1).toNat * 10)).off + 2, none⟩ = some (.int .i64 ((rd_T34 l1 x5_1).f2)) ∧ w'.cell? ⟨(ad423.add ((x5_1).toNat * 10)).block, (ad423.add ((x5_1).toNat * 10)).off + 3, none⟩ = some (.int .i64 ((rd_T34 l1 x5_1).f3)) ∧ w'.cell? ⟨(ad423.add ((x5_1).toNat * 10)).block, (ad423.add ((x5_1).toNat * 10)).off + 4, none⟩ = some (.int .i64 ((rd_T34 l1 x5_1).f4.f0.f0)) ∧ w'.cell? ⟨(ad423.add ((x5_1).toNat * 10)).block, (ad423.add ((x5_1).toNat * 10)).off + 5, none⟩ = some (.int .i64 ((rd_T34 l1 x5_1).f4.f0.f1)) ∧ w'.cell? ⟨(ad423.add ((x5_1).toNat * 10)).block, (ad423.add ((x5_1).toNat * 10)).off + 6, none⟩ = some (.int .i64 ((rd_T34 l1 x5_1).f4.f1)) ∧ w'.cell? ⟨(ad423.add ((x5_1).toNat * 10)).block, (ad423.add ((x5_1).toNat * 10)).off + 7, none⟩ = some (.int .i64 ((rd_T34 l1 x5_1).f4.f2)) ∧ w'.cell? ⟨(ad423.add ((x5_1).toNat * 10)).block, (ad423.add ((x5_1).toNat * 10)).off + 8, none⟩ = some (.int .i64 ((rd_T34 l1 x5_1).f4.f3.f0)) ∧ w'.cell? ⟨(ad423.add ((x5_1).toNat * 10)).block, (ad423.add ((x5_1).toNat * 10)).off + 9, none⟩ = some (.int .i64 ((rd_T34 l1 x5_1).f4.f3.f1))) (ds := []) #[false, false, false, false, false, false, false, false, false, false, false, false] (by kernel_rfl) rfl rfl ⟨(blk_cell BK421.out 0).trans rfl, (blk_cell BK421.out 1).trans rfl, (blk_cell BK421.out 2).trans rfl, ((HB.out.cell (World.block_lt_of_cell? w _ hw423_0)).trans hw423_0), ((HB.out.cell (World.block_lt_of_cell? w _ hw423_1)).trans hw423_1), ((HB.out.cell (World.block_lt_of_cell? w _ hw423_2)).trans hw423_2), ((HB.out.cell (World.block_lt_of_cell? w _ hw423_3)).trans hw423_3), ((HB.out.cell (World.block_lt_of_cell? w _ hw423_4)).trans hw423_4), ((HB.out.cell (World.block_lt_of_cell? w _ hw423_5)).trans hw423_5), ((HB.out.cell (World.block_lt_of_cell? w _ hw423_6)).trans hw423_6), ((HB.out.cell (World.block_lt_of_cell? w _ hw423_7)).trans hw423_7), ((HB.out.cell (World.block_lt_of_cell? w _ hw423_8)).trans hw423_8), ((HB.out.cell (World.block_lt_of_cell? w _ hw423_9)).trans hw423_9)⟩ (fun hHeld => ?_); refine with_tabW wayfinderref20_Push.tab4 wayfinderref20_Push.bits4 (fun HT_ HW_ => ?_)
            generalize wr.drew = w24 at HO_422002 BK421 BK422 HB hx423_0 hx423_1 hx423_2 hx423_3 hx423_4 hx423_5 hx423_6 hx423_7 hx423_8 hx423_9 hHeld ⊢
            refine pure_ (i := 1) (N := some 16) (v := ?_) (a' := ?_) #[false, true, false, false, false, false, false, false, false, false, false, false] rfl rfl (any_of HT_.out (by kernel_rfl)) (fun _ _ _ h => h) (Or.inl ⟨by rfl, ?_⟩) ?_ ?_
            rotate_left
            · intro w'
              go_simp
              with_reducible rfl
            rotate_left
            · simp only [Act.put, List.setIfInBounds_toArray, List.set_cons_zero, List.set_cons_succ, i64_w, i32_w]
              rfl
            refine pure_ (i := 2) (N := some 17) (v := ?_) (a' := ?_) #[false, true, true, false, false, false, false, false, false, false, false, false] rfl rfl (any_of HT_.out (by kernel_rfl)) (fun _ _ _ h => h) (Or.inl ⟨by rfl, ?_⟩) ?_ ?_
            rotate_left
            · intro w'
              go_simp
              with_reducible rfl
            rotate_left
            · simp only [Act.put, List.setIfInBounds_toArray, List.set_cons_zero, List.set_cons_succ, i64_w, i32_w]
              rfl
            refine pure_ (i := 3) (N := some 18) (v := ?_) (a' := ?_) #[false, true, true, true, false, false, false, false, false, false, false, false] rfl rfl (any_of HT_.out (by kernel_rfl)) (fun _ _ _ h => h) (Or.inl ⟨by rfl, ?_⟩) ?_ ?_
            rotate_left
            · intro w'
              go_simp
              with_reducible rfl
            rotate_left
            · simp only [Act.put, List.setIfInBounds_toArray, List.set_cons_zero, List.set_cons_succ, i64_w, i32_w]
              rfl
            refine take_ (i := 0) (N := some 15) (v := ?_) (a' := ?_) #[true, true, true, true, false, false, false, false, false, false, false, false] rfl rfl (take_ofW HT_.out HW_.out (by kernel_rfl)) (fun _ _ _ h => h) (Or.inl ⟨by rfl, ?_⟩) hHeld ?_ ?_
            rotate_left
            · rintro w' ⟨s0, s1, s2, s3, s4, s5, s6, s7, s8, s9, s10, s11, s12⟩
              go_simp
              with_reducible rfl
            rotate_left
            · simp only [Act.put, List.setIfInBounds_toArray, List.set_cons_zero, List.set_cons_succ, i64_w, i32_w]
              rfl
            refine take_ (i := 4) (N := some 19) (v := ?_) (a' := ?_) #[true, true, true, true, true, false, false, false, false, false, false, false] rfl rfl (take_ofW HT_.out HW_.out (by kernel_rfl)) (fun _ _ _ h => h) (Or.inl ⟨by rfl, ?_⟩) hHeld ?_ ?_
            rotate_left
            · rintro w' ⟨s0, s1, s2, s3, s4, s5, s6, s7, s8, s9, s10, s11, s12⟩
              go_simp
              with_reducible rfl
            rotate_left
            · simp only [Act.put, List.setIfInBounds_toArray, List.set_cons_zero, List.set_cons_succ, i64_w, i32_w]
              rfl
            refine join_ (σ := Value × Nat) 2 #[true, true, true, true, true, true, true, true, true, true, false, false] (fun s_ => [(20, .tuple #[.agg #[.int .i64 t424, .int .i64 t425, s_.1], .int .i64 t429]), (6, .pointer (some ⟨s_.2, 0, none⟩)), (14, .tuple #[.agg #[.int .i64 t424, .int .i64 t425, s_.1], .int .i64 t429]), (21, .agg #[.int .i64 t424, .int .i64 t425, s_.1]), (22, .int .i64 t429)]) (fun s_ w' => (w'.cell? ⟨gb421, 0, none⟩ = some (.int .i64 x422000_1) ∧ w'.cell? ⟨gb421, 1, none⟩ = some (.int .i64 x422001_1) ∧ w'.cell? ⟨gb421, 2, none⟩ = some (.slice Ao23 x422002_1.length co23) ∧ w'.cell? (ad423.add ((x5_1).toNat * 10)) = some (.int .i64 ((rd_T34 l1 x5_1).f0)) ∧ w'.cell? ⟨(ad423.add ((x5_1).toNat * 10)).block, (ad423.add ((x5_1).toNat * 10)).off + 1, none⟩ = some (.int .i64 ((rd_T34 l1 x5_1).f1)) ∧ w'.cell? ⟨(ad423.add ((x5_1).toNat * 10)).block, (ad423.add ((x5_1).toNat * 10)).off + 2, none⟩ = some (.int .i64 ((rd_T34 l1 x5_1).f2)) ∧ w'.cell? ⟨(ad423.add ((x5_1).toNat * 10)).block, (ad423.add ((x5_1).toNat * 10)).off + 3, none⟩ = some (.int .i64 ((rd_T34 l1 x5_1).f3)) ∧ w'.cell? ⟨(ad423.add ((x5_1).toNat * 10)).block, (ad423.add ((x5_1).toNat * 10)).off + 4, none⟩ = some (.int .i64 ((rd_T34 l1 x5_1).f4.f0.f0)) ∧ w'.cell? ⟨(ad423.add ((x5_1).toNat * 10)).block, (ad423.add ((x5_1).toNat * 10)).off + 5, none⟩ = some (.int .i64 ((rd_T34 l1 x5_1).f4.f0.f1)) ∧ w'.cell? ⟨(ad423.add ((x5_1).toNat * 10)).block, (ad423.add ((x5_1).toNat * 10)).off + 6, none⟩ = some (.int .i64 ((rd_T34 l1 x5_1).f4.f1)) ∧ w'.cell? ⟨(ad423.add ((x5_1).toNat * 10)).block, (ad423.add ((x5_1).toNat * 10)).off + 7, none⟩ = some (.int .i64 ((rd_T34 l1 x5_1).f4.f2)) ∧ w'.cell? ⟨(ad423.add ((x5_1).toNat * 10)).block, (ad423.add ((x5_1).toNat * 10)).off + 8, none⟩ = some (.int .i64 ((rd_T34 l1 x5_1).f4.f3.f0)) ∧ w'.cell? ⟨(ad423.add ((x5_1).toNat * 10)).block, (ad423.add ((x5_1).toNat * 10)).off + 9, none⟩ = some (.int .i64 ((rd_T34 l1 x5_1).f4.f3.f1))) ∧ (Kd.V k34 34 w' w.heap.size (fun k_ => (P0_2_ k_ ∨ w.heap.size ≤ k_) ∧ k_ ≠ gb421 ∧ k_ ≠ gb422 ∧ k_ ≠ s_.2) s_.1 t426) ∧ (Kd.V k34 34 w' w.heap.size (fun k_ => (P0_2_ k_ ∨ w.heap.size ≤ k_) ∧ k_ ≠ gb421 ∧ k_ ≠ gb422 ∧ k_ ≠ s_.2) (.slice Ao23 x422002_1.length co23) x422002_1) ∧ (w'.heap[gb421]? = some (.cells #[.int .i64 x422000_1, .int .i64 x422001_1, .slice Ao23 x422002_1.length co23] 41 (0, 0))) ∧ (w'.heap[gb422]? = some (.cells #[.int .i64 x423000_1, .int .i64 x423001_1, .slice none 0 0] 41 (0, 0))) ∧ (w'.heap[s_.2]? = some (.cells #[.int .i64 0, .int .i64 0, .slice none 0 0] 41 (0, 0))) ∧ (w.heap.size ≤ s_.2) ∧ (w.heap.size ≤ s_.2) ∧ (gb421 ≠ s_.2) ∧ (s_.2 ≠ gb421) ∧ (gb422 ≠ s_.2) ∧ (s_.2 ≠ gb422) ∧ (Below w.heap.size w w')) ?_ ?_
            rotate_left
            · intro hCont
              refine two_ (i := 5) (j := 9) (Ni := some 20) (Nj := some 6) #[true, true, true, true, true, true, false, false, false, false, false, false] #[true, true, true, true, true, false, false, false, false, true, false, false] rfl rfl rfl rfl (two_of HT_.out (by kernel_rfl)) (by decide) (by decide) (fun K hK => ?_) (fun K hK => ?_)
              · skip
                refine goes_ Try.func21 (by kernel_rfl) rfl #[.agg #[.int .i64 x422000_1, .int .i64 x422001_1, .slice Ao23 x422002_1.length co23], .agg #[.int .i64 ((rd_T34 l1 x5_1).f0), .int .i64 ((rd_T34 l1 x5_1).f1), .int .i64 ((rd_T34 l1 x5_1).f2), .int .i64 ((rd_T34 l1 x5_1).f3), .int .i64 ((rd_T34 l1 x5_1).f4.f0.f0), .int .i64 ((rd_T34 l1 x5_1).f4.f0.f1), .int .i64 ((rd_T34 l1 x5_1).f4.f1), .int .i64 ((rd_T34 l1 x5_1).f4.f2), .int .i64 ((rd_T34 l1 x5_1).f4.f3.f0), .int .i64 ((rd_T34 l1 x5_1).f4.f3.f1)]] (by rfl) rfl rfl (by (try simp only [List.map_toArray, List.map_cons, List.map_nil]); first | done | rfl | (simp only [List.length_drop, List.length_take]; rfl)) ?_
                with_reducible refine (wayfinderref15_Push.calls x422000_1 x422001_1 (fun k_ => ((P0_2_ k_ ∨ w.heap.size ≤ k_) ∧ (k_ ≠ gb421 ∧ k_ ≠ gb422))) _ _ x422002_1 ((rd_T34 l1 x5_1).f0) ((rd_T34 l1 x5_1).f1) ((rd_T34 l1 x5_1).f2) ((rd_T34 l1 x5_1).f3) ((rd_T34 l1 x5_1).f4.f0.f0) ((rd_T34 l1 x5_1).f4.f0.f1) ((rd_T34 l1 x5_1).f4.f1) ((rd_T34 l1 x5_1).f4.f2) ((rd_T34 l1 x5_1).f4.f3.f0) ((rd_T34 l1 x5_1).f4.f3.f1) t424 t425 t426 t429 _ ?side1 A7.out).mono ?_
                (case side1 => exact HO_422002.out)
                rintro e w25 ⟨v427, rfl, ho0, hb⟩
                refine ⟨_, rfl, ?_⟩
                have n0_ := Aside0.mk (Kd.V_below (by (with_reducible repeat (first | apply Kd.V_alloc | apply Kd.V_drewN | apply Kd.V_drew)); exact HO_422002.out) hb)
                have n1_ := Aside0.mk (Kd.V_lower (Kd.V_mono (ok' := fun k_ => (P0_2_ k_ ∨ w.heap.size ≤ k_) ∧ k_ ≠ gb421 ∧ k_ ≠ gb422) ho0 (fun k_ hk_ => ⟨Or.elim hk_ (fun hs_ => hs_.1) (fun hn_ => (.inr (Nat.le_trans (below_size (by repeat (first | (with_reducible first | exact HB.out | apply below_alloc | apply pw_below_drewN | apply below_drew1 | refine below_set ?_ GE421.out | refine below_set ?_ GE422.out) | exact HB.out))) hn_))), Or.elim hk_ (fun hs_ => hs_.2.1) (fun hn_ => (Kd.freshB (g := gb421) (o := .cells #[.int .i64 x422000_1, .int .i64 x422001_1, .slice Ao23 x422002_1.length co23] 41 (0, 0)) (by (with_reducible repeat (first | refine blk_drewN ?_ _ | refine blk_drew ?_ | refine blk_alloc ?_ _)); exact BK421.out) k_ hn_)), Or.elim hk_ (fun hs_ => hs_.2.2) (fun hn_ => (Kd.freshB (g := gb422) (o := .cells #[.int .i64 x423000_1, .int .i64 x423001_1, .slice none 0 0] 41 (0, 0)) (by (with_reducible repeat (first | refine blk_drewN ?_ _ | refine blk_drew ?_ | refine blk_alloc ?_ _)); exact BK422.out) k_ hn_))⟩)) (below_size (by repeat (first | (with_reducible first | exact HB.out | apply below_alloc | apply pw_below_drewN | apply below_drew1 | refine below_set ?_ GE421.out | refine below_set ?_ GE422.out) | exact HB.out))))
                have n2_ := Aside0.mk (blk_below (g := gb421) (o := .cells #[.int .i64 x422000_1, .int .i64 x422001_1, .slice Ao23 x422002_1.length co23] 41 (0, 0)) (by (with_reducible repeat (first | refine blk_drewN ?_ _ | refine blk_drew ?_ | refine blk_alloc ?_ _)); exact BK421.out) hb)
                have n3_ := Aside0.mk (blk_below (g := gb422) (o := .cells #[.int .i64 x423000_1, .int .i64 x423001_1, .slice none 0 0] 41 (0, 0)) (by (with_reducible repeat (first | refine blk_drewN ?_ _ | refine blk_drew ?_ | refine blk_alloc ?_ _)); exact BK422.out) hb)
                have n4_ := Aside0.mk (below_step (by repeat (first | (with_reducible first | exact HB.out | apply below_alloc | apply pw_below_drewN | apply below_drew1 | refine below_set ?_ GE421.out | refine below_set ?_ GE422.out) | exact HB.out)) hb)
                clear HO_422002
                clear BK421
                clear BK422
                clear HB
                have HO_422002 := n0_
                have HO428 := n1_
                have BK421 := n2_
                have BK422 := n3_
                have HB := n4_
                clear n0_ n1_ n2_ n3_ n4_
                (try clear hb)
                (try clear hb2)
                (try clear hk)
                (try clear hi)
                (try clear ho0)
                refine hK.out _ _ ⟨(blk_cell BK421.out 0).trans rfl, (blk_cell BK421.out 1).trans rfl, (blk_cell BK421.out 2).trans rfl, ((HB.out.cell (World.block_lt_of_cell? w _ hw423_0)).trans hw423_0), ((HB.out.cell (World.block_lt_of_cell? w _ hw423_1)).trans hw423_1), ((HB.out.cell (World.block_lt_of_cell? w _ hw423_2)).trans hw423_2), ((HB.out.cell (World.block_lt_of_cell? w _ hw423_3)).trans hw423_3), ((HB.out.cell (World.block_lt_of_cell? w _ hw423_4)).trans hw423_4), ((HB.out.cell (World.block_lt_of_cell? w _ hw423_5)).trans hw423_5), ((HB.out.cell (World.block_lt_of_cell? w _ hw423_6)).trans hw423_6), ((HB.out.cell (World.block_lt_of_cell? w _ hw423_7)).trans hw423_7), ((HB.out.cell (World.block_lt_of_cell? w _ hw423_8)).trans hw423_8), ((HB.out.cell (World.block_lt_of_cell? w _ hw423_9)).trans hw423_9)⟩ (fun hHeld => ?_)
                clear hK K
                refine norm_ (a' := ?_) ?_ ?_
                rotate_left
                · show Act.put _ (some 20) _ = _
                  simp only [Act.put, List.setIfInBounds_toArray, List.set_cons_zero, List.set_cons_succ, i64_w, i32_w]
                  rfl
                refine pure_ (i := 6) (N := some 14) (v := ?_) (a' := ?_) #[true, true, true, true, true, true, true, false, false, false, false, false] rfl rfl (any_of HT_.out (by kernel_rfl)) (fun _ _ _ h => h) (Or.inl ⟨by rfl, ?_⟩) ?_ ?_
                rotate_left
                · intro w'
                  go_simp
                  with_reducible rfl
                rotate_left
                · simp only [Act.put, List.setIfInBounds_toArray, List.set_cons_zero, List.set_cons_succ, i64_w, i32_w]
                  rfl
                refine pure_ (i := 7) (N := some 21) (v := ?_) (a' := ?_) #[true, true, true, true, true, true, true, true, false, false, false, false] rfl rfl (any_of HT_.out (by kernel_rfl)) (fun _ _ _ h => h) (Or.inl ⟨by rfl, ?_⟩) ?_ ?_
                rotate_left
                · intro w'
                  go_simp
                  with_reducible rfl
                rotate_left
                · simp only [Act.put, List.setIfInBounds_toArray, List.set_cons_zero, List.set_cons_succ, i64_w, i32_w]
                  rfl
                refine pure_ (i := 8) (N := some 22) (v := ?_) (a' := ?_) #[true, true, true, true, true, true, true, true, true, false, false, false] rfl rfl (any_of HT_.out (by kernel_rfl)) (fun _ _ _ h => h) (Or.inl ⟨by rfl, ?_⟩) ?_ ?_
                rotate_left
                · intro w'
                  go_simp
                  with_reducible rfl
                rotate_left
                · simp only [Act.put, List.setIfInBounds_toArray, List.set_cons_zero, List.set_cons_succ, i64_w, i32_w]
                  rfl
                refine one_ (i := 9) (N := some 6) #[true, true, true, true, true, true, true, true, true, true, false, false] rfl rfl (one_of HT_.out (by kernel_rfl)) (by decide) (fun K hK => ?_)
                refine box_step ?hg (N := 6) ?hd (cs := #[.int .i64 0, .int .i64 0, .slice none 0 0]) (t := 41) ?hr ?_; (case hd => rfl); (case hg => rfl); (case hr => first | (go_simp; done) | (go_simp; rfl))
                intro gb430 hg w26 hbox hb
                have n0_ := Aside0.mk (Kd.V_below (Kd.V_elderB (by (with_reducible repeat (first | apply Kd.V_alloc | apply Kd.V_drewN | apply Kd.V_drew)); exact HO_422002.out) gb430 (Nat.le_of_eq hg.symm)) hb)
                have n1_ := Aside0.mk (Kd.V_below (Kd.V_elderB (by (with_reducible repeat (first | apply Kd.V_alloc | apply Kd.V_drewN | apply Kd.V_drew)); exact HO428.out) gb430 (Nat.le_of_eq hg.symm)) hb)
                have n2_ := Aside0.mk (blk_below (g := gb421) (o := .cells #[.int .i64 x422000_1, .int .i64 x422001_1, .slice Ao23 x422002_1.length co23] 41 (0, 0)) (by (with_reducible repeat (first | refine blk_drewN ?_ _ | refine blk_drew ?_ | refine blk_alloc ?_ _)); exact BK421.out) hb)
                have n3_ := Aside0.mk (blk_below (g := gb422) (o := .cells #[.int .i64 x423000_1, .int .i64 x423001_1, .slice none 0 0] 41 (0, 0)) (by (with_reducible repeat (first | refine blk_drewN ?_ _ | refine blk_drew ?_ | refine blk_alloc ?_ _)); exact BK422.out) hb)
                have n4_ := Aside0.mk (below_step (by repeat (first | (with_reducible first | exact HB.out | apply below_alloc | apply pw_below_drewN | apply below_drew1 | refine below_set ?_ GE421.out | refine below_set ?_ GE422.out) | exact HB.out)) hb)
                have n5_ := Aside0.mk (hbox)
                have n6_ := Aside0.mk ((by rw [hg]; exact (below_size (by repeat (first | (with_reducible first | exact HB.out | apply below_alloc | apply pw_below_drewN | apply below_drew1 | refine below_set ?_ GE421.out | refine below_set ?_ GE422.out) | exact HB.out))) : w.heap.size ≤ gb430))
                have n7_ := Aside0.mk ((by rw [hg]; exact (below_size (by repeat (first | (with_reducible first | exact HB.out | apply below_alloc | apply pw_below_drewN | apply below_drew1 | refine below_set ?_ GE421.out | refine below_set ?_ GE422.out) | exact HB.out))) : w.heap.size ≤ gb430))
                have n8_ := Aside0.mk ((by rw [hg]; exact Nat.ne_of_lt (blk_lt (g := gb421) (o := .cells #[.int .i64 x422000_1, .int .i64 x422001_1, .slice Ao23 x422002_1.length co23] 41 (0, 0)) (by (with_reducible repeat (first | refine blk_drewN ?_ _ | refine blk_drew ?_ | refine blk_alloc ?_ _)); exact BK421.out)) : gb421 ≠ gb430))
                have n9_ := Aside0.mk ((by rw [hg]; exact Nat.ne_of_gt (blk_lt (g := gb421) (o := .cells #[.int .i64 x422000_1, .int .i64 x422001_1, .slice Ao23 x422002_1.length co23] 41 (0, 0)) (by (with_reducible repeat (first | refine blk_drewN ?_ _ | refine blk_drew ?_ | refine blk_alloc ?_ _)); exact BK421.out)) : gb430 ≠ gb421))
                have n10_ := Aside0.mk ((by rw [hg]; exact Nat.ne_of_lt (blk_lt (g := gb422) (o := .cells #[.int .i64 x423000_1, .int .i64 x423001_1, .slice none 0 0] 41 (0, 0)) (by (with_reducible repeat (first | refine blk_drewN ?_ _ | refine blk_drew ?_ | refine blk_alloc ?_ _)); exact BK422.out)) : gb422 ≠ gb430))
                have n11_ := Aside0.mk ((by rw [hg]; exact Nat.ne_of_gt (blk_lt (g := gb422) (o := .cells #[.int .i64 x423000_1, .int .i64 x423001_1, .slice none 0 0] 41 (0, 0)) (by (with_reducible repeat (first | refine blk_drewN ?_ _ | refine blk_drew ?_ | refine blk_alloc ?_ _)); exact BK422.out)) : gb430 ≠ gb422))
                clear HO_422002
                clear HO428
                clear BK421
                clear BK422
                clear HB
                have HO_422002 := n0_
                have HO428 := n1_
                have BK421 := n2_
                have BK422 := n3_
                have HB := n4_
                have BK430 := n5_
                have GW430 := n6_
                have GE430 := n7_
                have NB421_430 := n8_
                have NB430_421 := n9_
                have NB422_430 := n10_
                have NB430_422 := n11_
                clear n0_ n1_ n2_ n3_ n4_ n5_ n6_ n7_ n8_ n9_ n10_ n11_
                clear hb hbox hg
                refine hK.out _ _ ⟨(blk_cell BK421.out 0).trans rfl, (blk_cell BK421.out 1).trans rfl, (blk_cell BK421.out 2).trans rfl, ((HB.out.cell (World.block_lt_of_cell? w _ hw423_0)).trans hw423_0), ((HB.out.cell (World.block_lt_of_cell? w _ hw423_1)).trans hw423_1), ((HB.out.cell (World.block_lt_of_cell? w _ hw423_2)).trans hw423_2), ((HB.out.cell (World.block_lt_of_cell? w _ hw423_3)).trans hw423_3), ((HB.out.cell (World.block_lt_of_cell? w _ hw423_4)).trans hw423_4), ((HB.out.cell (World.block_lt_of_cell? w _ hw423_5)).trans hw423_5), ((HB.out.cell (World.block_lt_of_cell? w _ hw423_6)).trans hw423_6), ((HB.out.cell (World.block_lt_of_cell? w _ hw423_7)).trans hw423_7), ((HB.out.cell (World.block_lt_of_cell? w _ hw423_8)).trans hw423_8), ((HB.out.cell (World.block_lt_of_cell? w _ hw423_9)).trans hw423_9)⟩ (fun hHeld => ?_)
                clear hK K
                refine norm_ (a' := ?_) ?_ ?_
                rotate_left
                · show Act.put _ (some 6) _ = _
                  simp only [Act.put, List.setIfInBounds_toArray, List.set_cons_zero, List.set_cons_succ, i64_w, i32_w]
                  rfl
                exact norm_ (by simp only [putAll, Act.put, List.setIfInBounds_toArray, List.set_cons_zero, List.set_cons_succ]) (hCont (v427, gb430) _ ⟨hHeld, (by (with_reducible repeat (first | apply Kd.V_alloc | apply Kd.V_drewN | apply Kd.V_drew)); exact Kd.V_mono HO428.out (fun _ hk => ⟨hk.1.1, ⟨hk.1.2.1, ⟨hk.1.2.2, hk.2⟩⟩⟩)), (by (with_reducible repeat (first | apply Kd.V_alloc | apply Kd.V_drewN | apply Kd.V_drew)); exact Kd.V_mono HO_422002.out (fun _ hk => ⟨hk.1.1, ⟨hk.1.2.1, ⟨hk.1.2.2, hk.2⟩⟩⟩)), (by (with_reducible repeat (first | refine blk_drewN ?_ _ | refine blk_drew ?_ | refine blk_alloc ?_ _)); exact BK421.out), (by (with_reducible repeat (first | refine blk_drewN ?_ _ | refine blk_drew ?_ | refine blk_alloc ?_ _)); exact BK422.out), (by (with_reducible repeat (first | refine blk_drewN ?_ _ | refine blk_drew ?_ | refine blk_alloc ?_ _)); exact BK430.out), GW430.out, GE430.out, NB421_430.out, NB430_421.out, NB422_430.out, NB430_422.out, (by repeat (first | (with_reducible first | exact HB.out | apply below_alloc | apply pw_below_drewN | apply below_drew1 | refine below_set ?_ GE421.out | refine below_set ?_ GE422.out | refine below_set ?_ GE430.out) | exact HB.out))⟩)
              · skip
                refine box_step ?hg (N := 6) ?hd (cs := #[.int .i64 0, .int .i64 0, .slice none 0 0]) (t := 41) ?hr ?_; (case hd => rfl); (case hg => rfl); (case hr => first | (go_simp; done) | (go_simp; rfl))
                intro gb430 hg w25 hbox hb
                have n0_ := Aside0.mk (Kd.V_below (Kd.V_elderB (by (with_reducible repeat (first | apply Kd.V_alloc | apply Kd.V_drewN | apply Kd.V_drew)); exact HO_422002.out) gb430 (Nat.le_of_eq hg.symm)) hb)
                have n1_ := Aside0.mk (blk_below (g := gb421) (o := .cells #[.int .i64 x422000_1, .int .i64 x422001_1, .slice Ao23 x422002_1.length co23] 41 (0, 0)) (by (with_reducible repeat (first | refine blk_drewN ?_ _ | refine blk_drew ?_ | refine blk_alloc ?_ _)); exact BK421.out) hb)
                have n2_ := Aside0.mk (blk_below (g := gb422) (o := .cells #[.int .i64 x423000_1, .int .i64 x423001_1, .slice none 0 0] 41 (0, 0)) (by (with_reducible repeat (first | refine blk_drewN ?_ _ | refine blk_drew ?_ | refine blk_alloc ?_ _)); exact BK422.out) hb)
                have n3_ := Aside0.mk (below_step (by repeat (first | (with_reducible first | exact HB.out | apply below_alloc | apply pw_below_drewN | apply below_drew1 | refine below_set ?_ GE421.out | refine below_set ?_ GE422.out) | exact HB.out)) hb)
                have n4_ := Aside0.mk (hbox)
                have n5_ := Aside0.mk ((by rw [hg]; exact (below_size (by repeat (first | (with_reducible first | exact HB.out | apply below_alloc | apply pw_below_drewN | apply below_drew1 | refine below_set ?_ GE421.out | refine below_set ?_ GE422.out) | exact HB.out))) : w.heap.size ≤ gb430))
                have n6_ := Aside0.mk ((by rw [hg]; exact (below_size (by repeat (first | (with_reducible first | exact HB.out | apply below_alloc | apply pw_below_drewN | apply below_drew1 | refine below_set ?_ GE421.out | refine below_set ?_ GE422.out) | exact HB.out))) : w.heap.size ≤ gb430))
                have n7_ := Aside0.mk ((by rw [hg]; exact Nat.ne_of_lt (blk_lt (g := gb421) (o := .cells #[.int .i64 x422000_1, .int .i64 x422001_1, .slice Ao23 x422002_1.length co23] 41 (0, 0)) (by (with_reducible repeat (first | refine blk_drewN ?_ _ | refine blk_drew ?_ | refine blk_alloc ?_ _)); exact BK421.out)) : gb421 ≠ gb430))
                have n8_ := Aside0.mk ((by rw [hg]; exact Nat.ne_of_gt (blk_lt (g := gb421) (o := .cells #[.int .i64 x422000_1, .int .i64 x422001_1, .slice Ao23 x422002_1.length co23] 41 (0, 0)) (by (with_reducible repeat (first | refine blk_drewN ?_ _ | refine blk_drew ?_ | refine blk_alloc ?_ _)); exact BK421.out)) : gb430 ≠ gb421))
                have n9_ := Aside0.mk ((by rw [hg]; exact Nat.ne_of_lt (blk_lt (g := gb422) (o := .cells #[.int .i64 x423000_1, .int .i64 x423001_1, .slice none 0 0] 41 (0, 0)) (by (with_reducible repeat (first | refine blk_drewN ?_ _ | refine blk_drew ?_ | refine blk_alloc ?_ _)); exact BK422.out)) : gb422 ≠ gb430))
                have n10_ := Aside0.mk ((by rw [hg]; exact Nat.ne_of_gt (blk_lt (g := gb422) (o := .cells #[.int .i64 x423000_1, .int .i64 x423001_1, .slice none 0 0] 41 (0, 0)) (by (with_reducible repeat (first | refine blk_drewN ?_ _ | refine blk_drew ?_ | refine blk_alloc ?_ _)); exact BK422.out)) : gb430 ≠ gb422))
                clear HO_422002
                clear BK421
                clear BK422
                clear HB
                have HO_422002 := n0_
                have BK421 := n1_
                have BK422 := n2_
                have HB := n3_
                have BK430 := n4_
                have GW430 := n5_
                have GE430 := n6_
                have NB421_430 := n7_
                have NB430_421 := n8_
                have NB422_430 := n9_
                have NB430_422 := n10_
                clear n0_ n1_ n2_ n3_ n4_ n5_ n6_ n7_ n8_ n9_ n10_
                clear hb hbox hg
                refine hK.out _ _ ⟨(blk_cell BK421.out 0).trans rfl, (blk_cell BK421.out 1).trans rfl, (blk_cell BK421.out 2).trans rfl, ((HB.out.cell (World.block_lt_of_cell? w _ hw423_0)).trans hw423_0), ((HB.out.cell (World.block_lt_of_cell? w _ hw423_1)).trans hw423_1), ((HB.out.cell (World.block_lt_of_cell? w _ hw423_2)).trans hw423_2), ((HB.out.cell (World.block_lt_of_cell? w _ hw423_3)).trans hw423_3), ((HB.out.cell (World.block_lt_of_cell? w _ hw423_4)).trans hw423_4), ((HB.out.cell (World.block_lt_of_cell? w _ hw423_5)).trans hw423_5), ((HB.out.cell (World.block_lt_of_cell? w _ hw423_6)).trans hw423_6), ((HB.out.cell (World.block_lt_of_cell? w _ hw423_7)).trans hw423_7), ((HB.out.cell (World.block_lt_of_cell? w _ hw423_8)).trans hw423_8), ((HB.out.cell (World.block_lt_of_cell? w _ hw423_9)).trans hw423_9)⟩ (fun hHeld => ?_)
                clear hK K
                refine norm_ (a' := ?_) ?_ ?_
                rotate_left
                · show Act.put _ (some 6) _ = _
                  simp only [Act.put, List.setIfInBounds_toArray, List.set_cons_zero, List.set_cons_succ, i64_w, i32_w]
                  rfl
                refine one_ (i := 5) (N := some 20) #[true, true, true, true, true, true, false, false, false, true, false, false] rfl rfl (one_of HT_.out (by kernel_rfl)) (by decide) (fun K hK => ?_)
                refine goes_ Try.func21 (by kernel_rfl) rfl #[.agg #[.int .i64 x422000_1, .int .i64 x422001_1, .slice Ao23 x422002_1.length co23], .agg #[.int .i64 ((rd_T34 l1 x5_1).f0), .int .i64 ((rd_T34 l1 x5_1).f1), .int .i64 ((rd_T34 l1 x5_1).f2), .int .i64 ((rd_T34 l1 x5_1).f3), .int .i64 ((rd_T34 l1 x5_1).f4.f0.f0), .int .i64 ((rd_T34 l1 x5_1).f4.f0.f1), .int .i64 ((rd_T34 l1 x5_1).f4.f1), .int .i64 ((rd_T34 l1 x5_1).f4.f2), .int .i64 ((rd_T34 l1 x5_1).f4.f3.f0), .int .i64 ((rd_T34 l1 x5_1).f4.f3.f1)]] (by rfl) rfl rfl (by (try simp only [List.map_toArray, List.map_cons, List.map_nil]); first | done | rfl | (simp only [List.length_drop, List.length_take]; rfl)) ?_
                with_reducible refine (wayfinderref15_Push.calls x422000_1 x422001_1 (fun k_ => (((P0_2_ k_ ∨ w.heap.size ≤ k_) ∧ (k_ ≠ gb421 ∧ k_ ≠ gb422)) ∧ k_ ≠ gb430)) _ _ x422002_1 ((rd_T34 l1 x5_1).f0) ((rd_T34 l1 x5_1).f1) ((rd_T34 l1 x5_1).f2) ((rd_T34 l1 x5_1).f3) ((rd_T34 l1 x5_1).f4.f0.f0) ((rd_T34 l1 x5_1).f4.f0.f1) ((rd_T34 l1 x5_1).f4.f1) ((rd_T34 l1 x5_1).f4.f2) ((rd_T34 l1 x5_1).f4.f3.f0) ((rd_T34 l1 x5_1).f4.f3.f1) t424 t425 t426 t429 _ ?side1 A7.out).mono ?_
                (case side1 => exact HO_422002.out)
                rintro e w26 ⟨v427, rfl, ho0, hb⟩
                refine ⟨_, rfl, ?_⟩
                have n0_ := Aside0.mk (Kd.V_below (by (with_reducible repeat (first | apply Kd.V_alloc | apply Kd.V_drewN | apply Kd.V_drew)); exact HO_422002.out) hb)
                have n1_ := Aside0.mk (Kd.V_lower (Kd.V_mono (ok' := fun k_ => (P0_2_ k_ ∨ w.heap.size ≤ k_) ∧ k_ ≠ gb421 ∧ k_ ≠ gb422 ∧ k_ ≠ gb430) ho0 (fun k_ hk_ => ⟨Or.elim hk_ (fun hs_ => hs_.1.1) (fun hn_ => (.inr (Nat.le_trans (below_size (by repeat (first | (with_reducible first | exact HB.out | apply below_alloc | apply pw_below_drewN | apply below_drew1 | refine below_set ?_ GE421.out | refine below_set ?_ GE422.out | refine below_set ?_ GE430.out) | exact HB.out))) hn_))), Or.elim hk_ (fun hs_ => hs_.1.2.1) (fun hn_ => (Kd.freshB (g := gb421) (o := .cells #[.int .i64 x422000_1, .int .i64 x422001_1, .slice Ao23 x422002_1.length co23] 41 (0, 0)) (by (with_reducible repeat (first | refine blk_drewN ?_ _ | refine blk_drew ?_ | refine blk_alloc ?_ _)); exact BK421.out) k_ hn_)), Or.elim hk_ (fun hs_ => hs_.1.2.2) (fun hn_ => (Kd.freshB (g := gb422) (o := .cells #[.int .i64 x423000_1, .int .i64 x423001_1, .slice none 0 0] 41 (0, 0)) (by (with_reducible repeat (first | refine blk_drewN ?_ _ | refine blk_drew ?_ | refine blk_alloc ?_ _)); exact BK422.out) k_ hn_)), Or.elim hk_ (fun hs_ => hs_.2) (fun hn_ => (Kd.freshB (g := gb430) (o := .cells #[.int .i64 0, .int .i64 0, .slice none 0 0] 41 (0, 0)) (by (with_reducible repeat (first | refine blk_drewN ?_ _ | refine blk_drew ?_ | refine blk_alloc ?_ _)); exact BK430.out) k_ hn_))⟩)) (below_size (by repeat (first | (with_reducible first | exact HB.out | apply below_alloc | apply pw_below_drewN | apply below_drew1 | refine below_set ?_ GE421.out | refine below_set ?_ GE422.out | refine below_set ?_ GE430.out) | exact HB.out))))
                have n2_ := Aside0.mk (blk_below (g := gb421) (o := .cells #[.int .i64 x422000_1, .int .i64 x422001_1, .slice Ao23 x422002_1.length co23] 41 (0, 0)) (by (with_reducible repeat (first | refine blk_drewN ?_ _ | refine blk_drew ?_ | refine blk_alloc ?_ _)); exact BK421.out) hb)
                have n3_ := Aside0.mk (blk_below (g := gb422) (o := .cells #[.int .i64 x423000_1, .int .i64 x423001_1, .slice none 0 0] 41 (0, 0)) (by (with_reducible repeat (first | refine blk_drewN ?_ _ | refine blk_drew ?_ | refine blk_alloc ?_ _)); exact BK422.out) hb)
                have n4_ := Aside0.mk (blk_below (g := gb430) (o := .cells #[.int .i64 0, .int .i64 0, .slice none 0 0] 41 (0, 0)) (by (with_reducible repeat (first | refine blk_drewN ?_ _ | refine blk_drew ?_ | refine blk_alloc ?_ _)); exact BK430.out) hb)
                have n5_ := Aside0.mk (below_step (by repeat (first | (with_reducible first | exact HB.out | apply below_alloc | apply pw_below_drewN | apply below_drew1 | refine below_set ?_ GE421.out | refine below_set ?_ GE422.out | refine below_set ?_ GE430.out) | exact HB.out)) hb)
                clear HO_422002
                clear BK421
                clear BK422
                clear BK430
                clear HB
                have HO_422002 := n0_
                have HO428 := n1_
                have BK421 := n2_
                have BK422 := n3_
                have BK430 := n4_
                have HB := n5_
                clear n0_ n1_ n2_ n3_ n4_ n5_
                (try clear hb)
                (try clear hb2)
                (try clear hk)
                (try clear hi)
                (try clear ho0)
                refine hK.out _ _ ⟨(blk_cell BK421.out 0).trans rfl, (blk_cell BK421.out 1).trans rfl, (blk_cell BK421.out 2).trans rfl, ((HB.out.cell (World.block_lt_of_cell? w _ hw423_0)).trans hw423_0), ((HB.out.cell (World.block_lt_of_cell? w _ hw423_1)).trans hw423_1), ((HB.out.cell (World.block_lt_of_cell? w _ hw423_2)).trans hw423_2), ((HB.out.cell (World.block_lt_of_cell? w _ hw423_3)).trans hw423_3), ((HB.out.cell (World.block_lt_of_cell? w _ hw423_4)).trans hw423_4), ((HB.out.cell (World.block_lt_of_cell? w _ hw423_5)).trans hw423_5), ((HB.out.cell (World.block_lt_of_cell? w _ hw423_6)).trans hw423_6), ((HB.out.cell (World.block_lt_of_cell? w _ hw423_7)).trans hw423_7), ((HB.out.cell (World.block_lt_of_cell? w _ hw423_8)).trans hw423_8), ((HB.out.cell (World.block_lt_of_cell? w _ hw423_9)).trans hw423_9)⟩ (fun hHeld => ?_)
                clear hK K
                refine norm_ (a' := ?_) ?_ ?_
                rotate_left
                · show Act.put _ (some 20) _ = _
                  simp only [Act.put, List.setIfInBounds_toArray, List.set_cons_zero, List.set_cons_succ, i64_w, i32_w]
                  rfl
                refine pure_ (i := 6) (N := some 14) (v := ?_) (a' := ?_) #[true, true, true, true, true, true, true, false, false, true, false, false] rfl rfl (any_of HT_.out (by kernel_rfl)) (fun _ _ _ h => h) (Or.inl ⟨by rfl, ?_⟩) ?_ ?_
                rotate_left
                · intro w'
                  go_simp
                  with_reducible rfl
                rotate_left
                · simp only [Act.put, List.setIfInBounds_toArray, List.set_cons_zero, List.set_cons_succ, i64_w, i32_w]
                  rfl
                refine pure_ (i := 7) (N := some 21) (v := ?_) (a' := ?_) #[true, true, true, true, true, true, true, true, false, true, false, false] rfl rfl (any_of HT_.out (by kernel_rfl)) (fun _ _ _ h => h) (Or.inl ⟨by rfl, ?_⟩) ?_ ?_
                rotate_left
                · intro w'
                  go_simp
                  with_reducible rfl
                rotate_left
                · simp only [Act.put, List.setIfInBounds_toArray, List.set_cons_zero, List.set_cons_succ, i64_w, i32_w]
                  rfl
                refine pure_ (i := 8) (N := some 22) (v := ?_) (a' := ?_) #[true, true, true, true, true, true, true, true, true, true, false, false] rfl rfl (any_of HT_.out (by kernel_rfl)) (fun _ _ _ h => h) (Or.inl ⟨by rfl, ?_⟩) ?_ ?_
                rotate_left
                · intro w'
                  go_simp
                  with_reducible rfl
                rotate_left
                · simp only [Act.put, List.setIfInBounds_toArray, List.set_cons_zero, List.set_cons_succ, i64_w, i32_w]
                  rfl
                exact norm_ (by simp only [putAll, Act.put, List.setIfInBounds_toArray, List.set_cons_zero, List.set_cons_succ]) (hCont (v427, gb430) _ ⟨hHeld, (by (with_reducible repeat (first | apply Kd.V_alloc | apply Kd.V_drewN | apply Kd.V_drew)); exact HO428.out), (by (with_reducible repeat (first | apply Kd.V_alloc | apply Kd.V_drewN | apply Kd.V_drew)); exact Kd.V_mono HO_422002.out (fun _ hk => ⟨hk.1.1, ⟨hk.1.2.1, ⟨hk.1.2.2, hk.2⟩⟩⟩)), (by (with_reducible repeat (first | refine blk_drewN ?_ _ | refine blk_drew ?_ | refine blk_alloc ?_ _)); exact BK421.out), (by (with_reducible repeat (first | refine blk_drewN ?_ _ | refine blk_drew ?_ | refine blk_alloc ?_ _)); exact BK422.out), (by (with_reducible repeat (first | refine blk_drewN ?_ _ | refine blk_drew ?_ | refine blk_alloc ?_ _)); exact BK430.out), GW430.out, GE430.out, NB421_430.out, NB430_421.out, NB422_430.out, NB430_422.out, (by repeat (first | (with_reducible first | exact HB.out | apply below_alloc | apply pw_below_drewN | apply below_drew1 | refine below_set ?_ GE421.out | refine below_set ?_ GE422.out | refine below_set ?_ GE430.out) | exact HB.out))⟩)
            rintro ⟨v427, gb430⟩ w27 ⟨hS_, h0_, h1_, h2_, h3_, h4_, h5_, h6_, h7_, h8_, h9_, h10_, h11_⟩
            have n0_ : Aside0 (Kd.V k34 34 w27 w.heap.size (fun k_ => (P0_2_ k_ ∨ w.heap.size ≤ k_) ∧ k_ ≠ gb421 ∧ k_ ≠ gb422 ∧ k_ ≠ gb430) v427 t426) := ⟨h0_⟩
            have n1_ : Aside0 (Kd.V k34 34 w27 w.heap.size (fun k_ => (P0_2_ k_ ∨ w.heap.size ≤ k_) ∧ k_ ≠ gb421 ∧ k_ ≠ gb422 ∧ k_ ≠ gb430) (.slice Ao23 x422002_1.length co23) x422002_1) := ⟨h1_⟩
            have n2_ : Aside0 (w27.heap[gb421]? = some (.cells #[.int .i64 x422000_1, .int .i64 x422001_1, .slice Ao23 x422002_1.length co23] 41 (0, 0))) := ⟨h2_⟩
            have n3_ : Aside0 (w27.heap[gb422]? = some (.cells #[.int .i64 x423000_1, .int .i64 x423001_1, .slice none 0 0] 41 (0, 0))) := ⟨h3_⟩
            have n4_ : Aside0 (w27.heap[gb430]? = some (.cells #[.int .i64 0, .int .i64 0, .slice none 0 0] 41 (0, 0))) := ⟨h4_⟩
            have n5_ : Aside0 (w.heap.size ≤ gb430) := ⟨h5_⟩
            have n6_ : Aside0 (w.heap.size ≤ gb430) := ⟨h6_⟩
            have n7_ : Aside0 (gb421 ≠ gb430) := ⟨h7_⟩
            have n8_ : Aside0 (gb430 ≠ gb421) := ⟨h8_⟩
            have n9_ : Aside0 (gb422 ≠ gb430) := ⟨h9_⟩
            have n10_ : Aside0 (gb430 ≠ gb422) := ⟨h10_⟩
            have n11_ : Aside0 (Below w.heap.size w w27) := ⟨h11_⟩
            clear HO_422002
            clear BK421
            clear BK422
            clear HB
            clear h0_ h1_ h2_ h3_ h4_ h5_ h6_ h7_ h8_ h9_ h10_ h11_
            have HO428 := n0_
            have HO_422002 := n1_
            have BK421 := n2_
            have BK422 := n3_
            have BK430 := n4_
            have GW430 := n5_
            have GE430 := n6_
            have NB421_430 := n7_
            have NB430_421 := n8_
            have NB422_430 := n9_
            have NB430_422 := n10_
            have HB := n11_
            clear n0_ n1_ n2_ n3_ n4_ n5_ n6_ n7_ n8_ n9_ n10_ n11_
            have hHeld : w27.cell? ⟨gb421, 0, none⟩ = some (.int .i64 x422000_1) ∧ w27.cell? ⟨gb421, 1, none⟩ = some (.int .i64 x422001_1) ∧ w27.cell? ⟨gb421, 2, none⟩ = some (.slice Ao23 x422002_1.length co23) ∧ w27.cell? (ad423.add ((x5_1).toNat * 10)) = some (.int .i64 ((rd_T34 l1 x5_1).f0)) ∧ w27.cell? ⟨(ad423.add ((x5_1).toNat * 10)).block, (ad423.add ((x5_1).toNat * 10)).off + 1, none⟩ = some (.int .i64 ((rd_T34 l1 x5_1).f1)) ∧ w27.cell? ⟨(ad423.add ((x5_1).toNat * 10)).block, (ad423.add ((x5_1).toNat * 10)).off + 2, none⟩ = some (.int .i64 ((rd_T34 l1 x5_1).f2)) ∧ w27.cell? ⟨(ad423.add ((x5_1).toNat * 10)).block, (ad423.add ((x5_1).toNat * 10)).off + 3, none⟩ = some (.int .i64 ((rd_T34 l1 x5_1).f3)) ∧ w27.cell? ⟨(ad423.add ((x5_1).toNat * 10)).block, (ad423.add ((x5_1).toNat * 10)).off + 4, none⟩ = some (.int .i64 ((rd_T34 l1 x5_1).f4.f0.f0)) ∧ w27.cell? ⟨(ad423.add ((x5_1).toNat * 10)).block, (ad423.add ((x5_1).toNat * 10)).off + 5, none⟩ = some (.int .i64 ((rd_T34 l1 x5_1).f4.f0.f1)) ∧ w27.cell? ⟨(ad423.add ((x5_1).toNat * 10)).block, (ad423.add ((x5_1).toNat * 10)).off + 6, none⟩ = some (.int .i64 ((rd_T34 l1 x5_1).f4.f1)) ∧ w27.cell? ⟨(ad423.add ((x5_1).toNat * 10)).block, (ad423.add ((x5_1).toNat * 10)).off + 7, none⟩ = some (.int .i64 ((rd_T34 l1 x5_1).f4.f2)) ∧ w27.cell? ⟨(ad423.add ((x5_1).toNat * 10)).block, (ad423.add ((x5_1).toNat * 10)).off + 8, none⟩ = some (.int .i64 ((rd_T34 l1 x5_1).f4.f3.f0)) ∧ w27.cell? ⟨(ad423.add ((x5_1).toNat * 10)).block, (ad423.add ((x5_1).toNat * 10)).off + 9, none⟩ = some (.int .i64 ((rd_T34 l1 x5_1).f4.f3.f1)) := hS_
            obtain ⟨Ao30, co30, eo30⟩ := Kd.V_slice HO428.out
            (first | subst eo30 | (injection eo30 with f1_ f2_ f3_; have f4_ := f1_.symm; have f5_ := f3_.symm; clear f1_ f2_ f3_; subst f4_; subst f5_))
            refine norm_ (a' := ?_) ?_ ?_
            rotate_left
            · simp only [putAll, Act.put, List.setIfInBounds_toArray, List.set_cons_zero, List.set_cons_succ]
              rfl
            refine one_ (i := 10) (N := none) #[true, true, true, true, true, true, true, true, true, true, true, false] rfl rfl (one_of HT_.out (by kernel_rfl)) (by decide) (fun K hK => ?_)
            have hs28 : w27.cell? ⟨gb430, 0, none⟩ = some (.int .i64 0) := (blk_cell BK430.out 0).trans rfl
            have hfs28 := blk_frozen BK430.out 0
            have hns28_0 := NB421_430.out
            have hns28_1 := NB422_430.out
            have hms28_0 := NB430_421.out
            have hms28_1 := NB430_422.out
            have hs29 : w27.cell? ⟨gb430, 1, none⟩ = some (.int .i64 0) := (blk_cell BK430.out 1).trans rfl
            have hfs29 := blk_frozen BK430.out 1
            have hns29_0 := NB421_430.out
            have hns29_1 := NB422_430.out
            have hms29_0 := NB430_421.out
            have hms29_1 := NB430_422.out
            have hs31 : w27.cell? ⟨gb430, 2, none⟩ = some (.slice none 0 0) := (blk_cell BK430.out 2).trans rfl
            have hfs31 := blk_frozen BK430.out 2
            have hns31_0 := NB421_430.out
            have hns31_1 := NB422_430.out
            have hms31_0 := NB430_421.out
            have hms31_1 := NB430_422.out
            refine skip_ (w1 := ?_) (by rfl) rfl ?_ ?_
            rotate_left
            · go_simp
              rfl
            refine hK.out _ _ ⟨((cell_far (p := ⟨gb430, _, none⟩) NB421_430.out _).trans (((cell_far (p := ⟨gb430, _, none⟩) NB421_430.out _).trans (((cell_far (p := ⟨gb430, _, none⟩) NB421_430.out _).trans (hHeld.1)))))), ((cell_far (p := ⟨gb430, _, none⟩) NB421_430.out _).trans (((cell_far (p := ⟨gb430, _, none⟩) NB421_430.out _).trans (((cell_far (p := ⟨gb430, _, none⟩) NB421_430.out _).trans (hHeld.2.1)))))), ((cell_far (p := ⟨gb430, _, none⟩) NB421_430.out _).trans (((cell_far (p := ⟨gb430, _, none⟩) NB421_430.out _).trans (((cell_far (p := ⟨gb430, _, none⟩) NB421_430.out _).trans (hHeld.2.2.1)))))), ((cell_far (p := ⟨gb430, _, none⟩) (by first | exact Nat.ne_of_lt (Nat.lt_of_lt_of_le (by have := World.block_lt_of_cell? _ _ hw423_0; first | rwa [add_block] at this | exact this) GW430.out) | (rw [add_block]; exact Nat.ne_of_lt (Nat.lt_of_lt_of_le (by have := World.block_lt_of_cell? _ _ hw423_0; first | rwa [add_block] at this | exact this) GW430.out)) | (show (Addr.add _ _).block ≠ _; rw [add_block]; exact Nat.ne_of_lt (Nat.lt_of_lt_of_le (by have := World.block_lt_of_cell? _ _ hw423_0; first | rwa [add_block] at this | exact this) GW430.out)) | (dsimp only; exact Nat.ne_of_lt (Nat.lt_of_lt_of_le (by have := World.block_lt_of_cell? _ _ hw423_0; first | rwa [add_block] at this | exact this) GW430.out))) _).trans (((cell_far (p := ⟨gb430, _, none⟩) (by first | exact Nat.ne_of_lt (Nat.lt_of_lt_of_le (by have := World.block_lt_of_cell? _ _ hw423_0; first | rwa [add_block] at this | exact this) GW430.out) | (rw [add_block]; exact Nat.ne_of_lt (Nat.lt_of_lt_of_le (by have := World.block_lt_of_cell? _ _ hw423_0; first | rwa [add_block] at this | exact this) GW430.out)) | (show (Addr.add _ _).block ≠ _; rw [add_block]; exact Nat.ne_of_lt (Nat.lt_of_lt_of_le (by have := World.block_lt_of_cell? _ _ hw423_0; first | rwa [add_block] at this | exact this) GW430.out)) | (dsimp only; exact Nat.ne_of_lt (Nat.lt_of_lt_of_le (by have := World.block_lt_of_cell? _ _ hw423_0; first | rwa [add_block] at this | exact this) GW430.out))) _).trans (((cell_far (p := ⟨gb430, _, none⟩) (by first | exact Nat.ne_of_lt (Nat.lt_of_lt_of_le (by have := World.block_lt_of_cell? _ _ hw423_0; first | rwa [add_block] at this | exact this) GW430.out) | (rw [add_block]; exact Nat.ne_of_lt (Nat.lt_of_lt_of_le (by have := World.block_lt_of_cell? _ _ hw423_0; first | rwa [add_block] at this | exact this) GW430.out)) | (show (Addr.add _ _).block ≠ _; rw [add_block]; exact Nat.ne_of_lt (Nat.lt_of_lt_of_le (by have := World.block_lt_of_cell? _ _ hw423_0; first | rwa [add_block] at this | exact this) GW430.out)) | (dsimp only; exact Nat.ne_of_lt (Nat.lt_of_lt_of_le (by have := World.block_lt_of_cell? _ _ hw423_0; first | rwa [add_block] at this | exact this) GW430.out))) _).trans (hHeld.2.2.2.1)))))), ((cell_far (p := ⟨gb430, _, none⟩) (by first | exact Nat.ne_of_lt (Nat.lt_of_lt_of_le (by have := World.block_lt_of_cell? _ _ hw423_1; first | rwa [add_block] at this | exact this) GW430.out) | (rw [add_block]; exact Nat.ne_of_lt (Nat.lt_of_lt_of_le (by have := World.block_lt_of_cell? _ _ hw423_1; first | rwa [add_block] at this | exact this) GW430.out)) | (show (Addr.add _ _).block ≠ _; rw [add_block]; exact Nat.ne_of_lt (Nat.lt_of_lt_of_le (by have := World.block_lt_of_cell? _ _ hw423_1; first | rwa [add_block] at this | exact this) GW430.out)) | (dsimp only; exact Nat.ne_of_lt (Nat.lt_of_lt_of_le (by have := World.block_lt_of_cell? _ _ hw423_1; first | rwa [add_block] at this | exact this) GW430.out))) _).trans (((cell_far (p := ⟨gb430, _, none⟩) (by first | exact Nat.ne_of_lt (Nat.lt_of_lt_of_le (by have := World.block_lt_of_cell? _ _ hw423_1; first | rwa [add_block] at this | exact this) GW430.out) | (rw [add_block]; exact Nat.ne_of_lt (Nat.lt_of_lt_of_le (by have := World.block_lt_of_cell? _ _ hw423_1; first | rwa [add_block] at this | exact this) GW430.out)) | (show (Addr.add _ _).block ≠ _; rw [add_block]; exact Nat.ne_of_lt (Nat.lt_of_lt_of_le (by have := World.block_lt_of_cell? _ _ hw423_1; first | rwa [add_block] at this | exact this) GW430.out)) | (dsimp only; exact Nat.ne_of_lt (Nat.lt_of_lt_of_le (by have := World.block_lt_of_cell? _ _ hw423_1; first | rwa [add_block] at this | exact this) GW430.out))) _).trans (((cell_far (p := ⟨gb430, _, none⟩) (by first | exact Nat.ne_of_lt (Nat.lt_of_lt_of_le (by have := World.block_lt_of_cell? _ _ hw423_1; first | rwa [add_block] at this | exact this) GW430.out) | (rw [add_block]; exact Nat.ne_of_lt (Nat.lt_of_lt_of_le (by have := World.block_lt_of_cell? _ _ hw423_1; first | rwa [add_block] at this | exact this) GW430.out)) | (show (Addr.add _ _).block ≠ _; rw [add_block]; exact Nat.ne_of_lt (Nat.lt_of_lt_of_le (by have := World.block_lt_of_cell? _ _ hw423_1; first | rwa [add_block] at this | exact this) GW430.out)) | (dsimp only; exact Nat.ne_of_lt (Nat.lt_of_lt_of_le (by have := World.block_lt_of_cell? _ _ hw423_1; first | rwa [add_block] at this | exact this) GW430.out))) _).trans (hHeld.2.2.2.2.1)))))), ((cell_far (p := ⟨gb430, _, none⟩) (by first | exact Nat.ne_of_lt (Nat.lt_of_lt_of_le (by have := World.block_lt_of_cell? _ _ hw423_2; first | rwa [add_block] at this | exact this) GW430.out) | (rw [add_block]; exact Nat.ne_of_lt (Nat.lt_of_lt_of_le (by have := World.block_lt_of_cell? _ _ hw423_2; first | rwa [add_block] at this | exact this) GW430.out)) | (show (Addr.add _ _).block ≠ _; rw [add_block]; exact Nat.ne_of_lt (Nat.lt_of_lt_of_le (by have := World.block_lt_of_cell? _ _ hw423_2; first | rwa [add_block] at this | exact this) GW430.out)) | (dsimp only; exact Nat.ne_of_lt (Nat.lt_of_lt_of_le (by have := World.block_lt_of_cell? _ _ hw423_2; first | rwa [add_block] at this | exact this) GW430.out))) _).trans (((cell_far (p := ⟨gb430, _, none⟩) (by first | exact Nat.ne_of_lt (Nat.lt_of_lt_of_le (by have := World.block_lt_of_cell? _ _ hw423_2; first | rwa [add_block] at this | exact this) GW430.out) | (rw [add_block]; exact Nat.ne_of_lt (Nat.lt_of_lt_of_le (by have := World.block_lt_of_cell? _ _ hw423_2; first | rwa [add_block] at this | exact this) GW430.out)) | (show (Addr.add _ _).block ≠ _; rw [add_block]; exact Nat.ne_of_lt (Nat.lt_of_lt_of_le (by have := World.block_lt_of_cell? _ _ hw423_2; first | rwa [add_block] at this | exact this) GW430.out)) | (dsimp only; exact Nat.ne_of_lt (Nat.lt_of_lt_of_le (by have := World.block_lt_of_cell? _ _ hw423_2; first | rwa [add_block] at this | exact this) GW430.out))) _).trans (((cell_far (p := ⟨gb430, _, none⟩) (by first | exact Nat.ne_of_lt (Nat.lt_of_lt_of_le (by have := World.block_lt_of_cell? _ _ hw423_2; first | rwa [add_block] at this | exact this) GW430.out) | (rw [add_block]; exact Nat.ne_of_lt (Nat.lt_of_lt_of_le (by have := World.block_lt_of_cell? _ _ hw423_2; first | rwa [add_block] at this | exact this) GW430.out)) | (show (Addr.add _ _).block ≠ _; rw [add_block]; exact Nat.ne_of_lt (Nat.lt_of_lt_of_le (by have := World.block_lt_of_cell? _ _ hw423_2; first | rwa [add_block] at this | exact this) GW430.out)) | (dsimp only; exact Nat.ne_of_lt (Nat.lt_of_lt_of_le (by have := World.block_lt_of_cell? _ _ hw423_2; first | rwa [add_block] at this | exact this) GW430.out))) _).trans (hHeld.2.2.2.2.2.1)))))), ((cell_far (p := ⟨gb430, _, none⟩) (by first | exact Nat.ne_of_lt (Nat.lt_of_lt_of_le (by have := World.block_lt_of_cell? _ _ hw423_3; first | rwa [add_block] at this | exact this) GW430.out) | (rw [add_block]; exact Nat.ne_of_lt (Nat.lt_of_lt_of_le (by have := World.block_lt_of_cell? _ _ hw423_3; first | rwa [add_block] at this | exact this) GW430.out)) | (show (Addr.add _ _).block ≠ _; rw [add_block]; exact Nat.ne_of_lt (Nat.lt_of_lt_of_le (by have := World.block_lt_of_cell? _ _ hw423_3; first | rwa [add_block] at this | exact this) GW430.out)) | (dsimp only; exact Nat.ne_of_lt (Nat.lt_of_lt_of_le (by have := World.block_lt_of_cell? _ _ hw423_3; first | rwa [add_block] at this | exact this) GW430.out))) _).trans (((cell_far (p := ⟨gb430, _, none⟩) (by first | exact Nat.ne_of_lt (Nat.lt_of_lt_of_le (by have := World.block_lt_of_cell? _ _ hw423_3; first | rwa [add_block] at this | exact this) GW430.out) | (rw [add_block]; exact Nat.ne_of_lt (Nat.lt_of_lt_of_le (by have := World.block_lt_of_cell? _ _ hw423_3; first | rwa [add_block] at this | exact this) GW430.out)) | (show (Addr.add _ _).block ≠ _; rw [add_block]; exact Nat.ne_of_lt (Nat.lt_of_lt_of_le (by have := World.block_lt_of_cell? _ _ hw423_3; first | rwa [add_block] at this | exact this) GW430.out)) | (dsimp only; exact Nat.ne_of_lt (Nat.lt_of_lt_of_le (by have := World.block_lt_of_cell? _ _ hw423_3; first | rwa [add_block] at this | exact this) GW430.out))) _).trans (((cell_far (p := ⟨gb430, _, none⟩) (by first | exact Nat.ne_of_lt (Nat.lt_of_lt_of_le (by have := World.block_lt_of_cell? _ _ hw423_3; first | rwa [add_block] at this | exact this) GW430.out) | (rw [add_block]; exact Nat.ne_of_lt (Nat.lt_of_lt_of_le (by have := World.block_lt_of_cell? _ _ hw423_3; first | rwa [add_block] at this | exact this) GW430.out)) | (show (Addr.add _ _).block ≠ _; rw [add_block]; exact Nat.ne_of_lt (Nat.lt_of_lt_of_le (by have := World.block_lt_of_cell? _ _ hw423_3; first | rwa [add_block] at this | exact this) GW430.out)) | (dsimp only; exact Nat.ne_of_lt (Nat.lt_of_lt_of_le (by have := World.block_lt_of_cell? _ _ hw423_3; first | rwa [add_block] at this | exact this) GW430.out))) _).trans (hHeld.2.2.2.2.2.2.1)))))), ((cell_far (p := ⟨gb430, _, none⟩) (by first | exact Nat.ne_of_lt (Nat.lt_of_lt_of_le (by have := World.block_lt_of_cell? _ _ hw423_4; first | rwa [add_block] at this | exact this) GW430.out) | (rw [add_block]; exact Nat.ne_of_lt (Nat.lt_of_lt_of_le (by have := World.block_lt_of_cell? _ _ hw423_4; first | rwa [add_block] at this | exact this) GW430.out)) | (show (Addr.add _ _).block ≠ _; rw [add_block]; exact Nat.ne_of_lt (Nat.lt_of_lt_of_le (by have := World.block_lt_of_cell? _ _ hw423_4; first | rwa [add_block] at this | exact this) GW430.out)) | (dsimp only; exact Nat.ne_of_lt (Nat.lt_of_lt_of_le (by have := World.block_lt_of_cell? _ _ hw423_4; first | rwa [add_block] at this | exact this) GW430.out))) _).trans (((cell_far (p := ⟨gb430, _, none⟩) (by first | exact Nat.ne_of_lt (Nat.lt_of_lt_of_le (by have := World.block_lt_of_cell? _ _ hw423_4; first | rwa [add_block] at this | exact this) GW430.out) | (rw [add_block]; exact Nat.ne_of_lt (Nat.lt_of_lt_of_le (by have := World.block_lt_of_cell? _ _ hw423_4; first | rwa [add_block] at this | exact this) GW430.out)) | (show (Addr.add _ _).block ≠ _; rw [add_block]; exact Nat.ne_of_lt (Nat.lt_of_lt_of_le (by have := World.block_lt_of_cell? _ _ hw423_4; first | rwa [add_block] at this | exact this) GW430.out)) | (dsimp only; exact Nat.ne_of_lt (Nat.lt_of_lt_of_le (by have := World.block_lt_of_cell? _ _ hw423_4; first | rwa [add_block] at this | exact this) GW430.out))) _).trans (((cell_far (p := ⟨gb430, _, none⟩) (by first | exact Nat.ne_of_lt (Nat.lt_of_lt_of_le (by have := World.block_lt_of_cell? _ _ hw423_4; first | rwa [add_block] at this | exact this) GW430.out) | (rw [add_block]; exact Nat.ne_of_lt (Nat.lt_of_lt_of_le (by have := World.block_lt_of_cell? _ _ hw423_4; first | rwa [add_block] at this | exact this) GW430.out)) | (show (Addr.add _ _).block ≠ _; rw [add_block]; exact Nat.ne_of_lt (Nat.lt_of_lt_of_le (by have := World.block_lt_of_cell? _ _ hw423_4; first | rwa [add_block] at this | exact this) GW430.out)) | (dsimp only; exact Nat.ne_of_lt (Nat.lt_of_lt_of_le (by have := World.block_lt_of_cell? _ _ hw423_4; first | rwa [add_block] at this | exact this) GW430.out))) _).trans (hHeld.2.2.2.2.2.2.2.1)))))), ((cell_far (p := ⟨gb430, _, none⟩) (by first | exact Nat.ne_of_lt (Nat.lt_of_lt_of_le (by have := World.block_lt_of_cell? _ _ hw423_5; first | rwa [add_block] at this | exact this) GW430.out) | (rw [add_block]; exact Nat.ne_of_lt (Nat.lt_of_lt_of_le (by have := World.block_lt_of_cell? _ _ hw423_5; first | rwa [add_block] at this | exact this) GW430.out)) | (show (Addr.add _ _).block ≠ _; rw [add_block]; exact Nat.ne_of_lt (Nat.lt_of_lt_of_le (by have := World.block_lt_of_cell? _ _ hw423_5; first | rwa [add_block] at this | exact this) GW430.out)) | (dsimp only; exact Nat.ne_of_lt (Nat.lt_of_lt_of_le (by have := World.block_lt_of_cell? _ _ hw423_5; first | rwa [add_block] at this | exact this) GW430.out))) _).trans (((cell_far (p := ⟨gb430, _, none⟩) (by first | exact Nat.ne_of_lt (Nat.lt_of_lt_of_le (by have := World.block_lt_of_cell? _ _ hw423_5; first | rwa [add_block] at this | exact this) GW430.out) | (rw [add_block]; exact Nat.ne_of_lt (Nat.lt_of_lt_of_le (by have := World.block_lt_of_cell? _ _ hw423_5; first | rwa [add_block] at this | exact this) GW430.out)) | (show (Addr.add _ _).block ≠ _; rw [add_block]; exact Nat.ne_of_lt (Nat.lt_of_lt_of_le (by have := World.block_lt_of_cell? _ _ hw423_5; first | rwa [add_block] at this | exact this) GW430.out)) | (dsimp only; exact Nat.ne_of_lt (Nat.lt_of_lt_of_le (by have := World.block_lt_of_cell? _ _ hw423_5; first | rwa [add_block] at this | exact this) GW430.out))) _).trans (((cell_far (p := ⟨gb430, _, none⟩) (by first | exact Nat.ne_of_lt (Nat.lt_of_lt_of_le (by have := World.block_lt_of_cell? _ _ hw423_5; first | rwa [add_block] at this | exact this) GW430.out) | (rw [add_block]; exact Nat.ne_of_lt (Nat.lt_of_lt_of_le (by have := World.block_lt_of_cell? _ _ hw423_5; first | rwa [add_block] at this | exact this) GW430.out)) | (show (Addr.add _ _).block ≠ _; rw [add_block]; exact Nat.ne_of_lt (Nat.lt_of_lt_of_le (by have := World.block_lt_of_cell? _ _ hw423_5; first | rwa [add_block] at this | exact this) GW430.out)) | (dsimp only; exact Nat.ne_of_lt (Nat.lt_of_lt_of_le (by have := World.block_lt_of_cell? _ _ hw423_5; first | rwa [add_block] at this | exact this) GW430.out))) _).trans (hHeld.2.2.2.2.2.2.2.2.1)))))), ((cell_far (p := ⟨gb430, _, none⟩) (by first | exact Nat.ne_of_lt (Nat.lt_of_lt_of_le (by have := World.block_lt_of_cell? _ _ hw423_6; first | rwa [add_block] at this | exact this) GW430.out) | (rw [add_block]; exact Nat.ne_of_lt (Nat.lt_of_lt_of_le (by have := World.block_lt_of_cell? _ _ hw423_6; first | rwa [add_block] at this | exact this) GW430.out)) | (show (Addr.add _ _).block ≠ _; rw [add_block]; exact Nat.ne_of_lt (Nat.lt_of_lt_of_le (by have := World.block_lt_of_cell? _ _ hw423_6; first | rwa [add_block] at this | exact this) GW430.out)) | (dsimp only; exact Nat.ne_of_lt (Nat.lt_of_lt_of_le (by have := World.block_lt_of_cell? _ _ hw423_6; first | rwa [add_block] at this | exact this) GW430.out))) _).trans (((cell_far (p := ⟨gb430, _, none⟩) (by first | exact Nat.ne_of_lt (Nat.lt_of_lt_of_le (by have := World.block_lt_of_cell? _ _ hw423_6; first | rwa [add_block] at this | exact this) GW430.out) | (rw [add_block]; exact Nat.ne_of_lt (Nat.lt_of_lt_of_le (by have := World.block_lt_of_cell? _ _ hw423_6; first | rwa [add_block] at this | exact this) GW430.out)) | (show (Addr.add _ _).block ≠ _; rw [add_block]; exact Nat.ne_of_lt (Nat.lt_of_lt_of_le (by have := World.block_lt_of_cell? _ _ hw423_6; first | rwa [add_block] at this | exact this) GW430.out)) | (dsimp only; exact Nat.ne_of_lt (Nat.lt_of_lt_of_le (by have := World.block_lt_of_cell? _ _ hw423_6; first | rwa [add_block] at this | exact this) GW430.out))) _).trans (((cell_far (p := ⟨gb430, _, none⟩) (by first | exact Nat.ne_of_lt (Nat.lt_of_lt_of_le (by have := World.block_lt_of_cell? _ _ hw423_6; first | rwa [add_block] at this | exact this) GW430.out) | (rw [add_block]; exact Nat.ne_of_lt (Nat.lt_of_lt_of_le (by have := World.block_lt_of_cell? _ _ hw423_6; first | rwa [add_block] at this | exact this) GW430.out)) | (show (Addr.add _ _).block ≠ _; rw [add_block]; exact Nat.ne_of_lt (Nat.lt_of_lt_of_le (by have := World.block_lt_of_cell? _ _ hw423_6; first | rwa [add_block] at this | exact this) GW430.out)) | (dsimp only; exact Nat.ne_of_lt (Nat.lt_of_lt_of_le (by have := World.block_lt_of_cell? _ _ hw423_6; first | rwa [add_block] at this | exact this) GW430.out))) _).trans (hHeld.2.2.2.2.2.2.2.2.2.1)))))), ((cell_far (p := ⟨gb430, _, none⟩) (by first | exact Nat.ne_of_lt (Nat.lt_of_lt_of_le (by have := World.block_lt_of_cell? _ _ hw423_7; first | rwa [add_block] at this | exact this) GW430.out) | (rw [add_block]; exact Nat.ne_of_lt (Nat.lt_of_lt_of_le (by have := World.block_lt_of_cell? _ _ hw423_7; first | rwa [add_block] at this | exact this) GW430.out)) | (show (Addr.add _ _).block ≠ _; rw [add_block]; exact Nat.ne_of_lt (Nat.lt_of_lt_of_le (by have := World.block_lt_of_cell? _ _ hw423_7; first | rwa [add_block] at this | exact this) GW430.out)) | (dsimp only; exact Nat.ne_of_lt (Nat.lt_of_lt_of_le (by have := World.block_lt_of_cell? _ _ hw423_7; first | rwa [add_block] at this | exact this) GW430.out))) _).trans (((cell_far (p := ⟨gb430, _, none⟩) (by first | exact Nat.ne_of_lt (Nat.lt_of_lt_of_le (by have := World.block_lt_of_cell? _ _ hw423_7; first | rwa [add_block] at this | exact this) GW430.out) | (rw [add_block]; exact Nat.ne_of_lt (Nat.lt_of_lt_of_le (by have := World.block_lt_of_cell? _ _ hw423_7; first | rwa [add_block] at this | exact this) GW430.out)) | (show (Addr.add _ _).block ≠ _; rw [add_block]; exact Nat.ne_of_lt (Nat.lt_of_lt_of_le (by have := World.block_lt_of_cell? _ _ hw423_7; first | rwa [add_block] at this | exact this) GW430.out)) | (dsimp only; exact Nat.ne_of_lt (Nat.lt_of_lt_of_le (by have := World.block_lt_of_cell? _ _ hw423_7; first | rwa [add_block] at this | exact this) GW430.out))) _).trans (((cell_far (p := ⟨gb430, _, none⟩) (by first | exact Nat.ne_of_lt (Nat.lt_of_lt_of_le (by have := World.block_lt_of_cell? _ _ hw423_7; first | rwa [add_block] at this | exact this) GW430.out) | (rw [add_block]; exact Nat.ne_of_lt (Nat.lt_of_lt_of_le (by have := World.block_lt_of_cell? _ _ hw423_7; first | rwa [add_block] at this | exact this) GW430.out)) | (show (Addr.add _ _).block ≠ _; rw [add_block]; exact Nat.ne_of_lt (Nat.lt_of_lt_of_le (by have := World.block_lt_of_cell? _ _ hw423_7; first | rwa [add_block] at this | exact this) GW430.out)) | (dsimp only; exact Nat.ne_of_lt (Nat.lt_of_lt_of_le (by have := World.block_lt_of_cell? _ _ hw423_7; first | rwa [add_block] at this | exact this) GW430.out))) _).trans (hHeld.2.2.2.2.2.2.2.2.2.2.1)))))), ((cell_far (p := ⟨gb430, _, none⟩) (by first | exact Nat.ne_of_lt (Nat.lt_of_lt_of_le (by have := World.block_lt_of_cell? _ _ hw423_8; first | rwa [add_block] at this | exact this) GW430.out) | (rw [add_block]; exact Nat.ne_of_lt (Nat.lt_of_lt_of_le (by have := World.block_lt_of_cell? _ _ hw423_8; first | rwa [add_block] at this | exact this) GW430.out)) | (show (Addr.add _ _).block ≠ _; rw [add_block]; exact Nat.ne_of_lt (Nat.lt_of_lt_of_le (by have := World.block_lt_of_cell? _ _ hw423_8; first | rwa [add_block] at this | exact this) GW430.out)) | (dsimp only; exact Nat.ne_of_lt (Nat.lt_of_lt_of_le (by have := World.block_lt_of_cell? _ _ hw423_8; first | rwa [add_block] at this | exact this) GW430.out))) _).trans (((cell_far (p := ⟨gb430, _, none⟩) (by first | exact Nat.ne_of_lt (Nat.lt_of_lt_of_le (by have := World.block_lt_of_cell? _ _ hw423_8; first | rwa [add_block] at this | exact this) GW430.out) | (rw [add_block]; exact Nat.ne_of_lt (Nat.lt_of_lt_of_le (by have := World.block_lt_of_cell? _ _ hw423_8; first | rwa [add_block] at this | exact this) GW430.out)) | (show (Addr.add _ _).block ≠ _; rw [add_block]; exact Nat.ne_of_lt (Nat.lt_of_lt_of_le (by have := World.block_lt_of_cell? _ _ hw423_8; first | rwa [add_block] at this | exact this) GW430.out)) | (dsimp only; exact Nat.ne_of_lt (Nat.lt_of_lt_of_le (by have := World.block_lt_of_cell? _ _ hw423_8; first | rwa [add_block] at this | exact this) GW430.out))) _).trans (((cell_far (p := ⟨gb430, _, none⟩) (by first | exact Nat.ne_of_lt (Nat.lt_of_lt_of_le (by have := World.block_lt_of_cell? _ _ hw423_8; first | rwa [add_block] at this | exact this) GW430.out) | (rw [add_block]; exact Nat.ne_of_lt (Nat.lt_of_lt_of_le (by have := World.block_lt_of_cell? _ _ hw423_8; first | rwa [add_block] at this | exact this) GW430.out)) | (show (Addr.add _ _).block ≠ _; rw [add_block]; exact Nat.ne_of_lt (Nat.lt_of_lt_of_le (by have := World.block_lt_of_cell? _ _ hw423_8; first | rwa [add_block] at this | exact this) GW430.out)) | (dsimp only; exact Nat.ne_of_lt (Nat.lt_of_lt_of_le (by have := World.block_lt_of_cell? _ _ hw423_8; first | rwa [add_block] at this | exact this) GW430.out))) _).trans (hHeld.2.2.2.2.2.2.2.2.2.2.2.1)))))), ((cell_far (p := ⟨gb430, _, none⟩) (by first | exact Nat.ne_of_lt (Nat.lt_of_lt_of_le (by have := World.block_lt_of_cell? _ _ hw423_9; first | rwa [add_block] at this | exact this) GW430.out) | (rw [add_block]; exact Nat.ne_of_lt (Nat.lt_of_lt_of_le (by have := World.block_lt_of_cell? _ _ hw423_9; first | rwa [add_block] at this | exact this) GW430.out)) | (show (Addr.add _ _).block ≠ _; rw [add_block]; exact Nat.ne_of_lt (Nat.lt_of_lt_of_le (by have := World.block_lt_of_cell? _ _ hw423_9; first | rwa [add_block] at this | exact this) GW430.out)) | (dsimp only; exact Nat.ne_of_lt (Nat.lt_of_lt_of_le (by have := World.block_lt_of_cell? _ _ hw423_9; first | rwa [add_block] at this | exact this) GW430.out))) _).trans (((cell_far (p := ⟨gb430, _, none⟩) (by first | exact Nat.ne_of_lt (Nat.lt_of_lt_of_le (by have := World.block_lt_of_cell? _ _ hw423_9; first | rwa [add_block] at this | exact this) GW430.out) | (rw [add_block]; exact Nat.ne_of_lt (Nat.lt_of_lt_of_le (by have := World.block_lt_of_cell? _ _ hw423_9; first | rwa [add_block] at this | exact this) GW430.out)) | (show (Addr.add _ _).block ≠ _; rw [add_block]; exact Nat.ne_of_lt (Nat.lt_of_lt_of_le (by have := World.block_lt_of_cell? _ _ hw423_9; first | rwa [add_block] at this | exact this) GW430.out)) | (dsimp only; exact Nat.ne_of_lt (Nat.lt_of_lt_of_le (by have := World.block_lt_of_cell? _ _ hw423_9; first | rwa [add_block] at this | exact this) GW430.out))) _).trans (((cell_far (p := ⟨gb430, _, none⟩) (by first | exact Nat.ne_of_lt (Nat.lt_of_lt_of_le (by have := World.block_lt_of_cell? _ _ hw423_9; first | rwa [add_block] at this | exact this) GW430.out) | (rw [add_block]; exact Nat.ne_of_lt (Nat.lt_of_lt_of_le (by have := World.block_lt_of_cell? _ _ hw423_9; first | rwa [add_block] at this | exact this) GW430.out)) | (show (Addr.add _ _).block ≠ _; rw [add_block]; exact Nat.ne_of_lt (Nat.lt_of_lt_of_le (by have := World.block_lt_of_cell? _ _ hw423_9; first | rwa [add_block] at this | exact this) GW430.out)) | (dsimp only; exact Nat.ne_of_lt (Nat.lt_of_lt_of_le (by have := World.block_lt_of_cell? _ _ hw423_9; first | rwa [add_block] at this | exact this) GW430.out))) _).trans (hHeld.2.2.2.2.2.2.2.2.2.2.2.2))))))⟩ (fun hHeld => ?_)
            clear hK K
            refine pure_ (i := 11) (N := some 7) (v := ?_) (a' := ?_) #[true, true, true, true, true, true, true, true, true, true, true, true] rfl rfl (any_of HT_.out (by kernel_rfl)) (fun _ _ _ h => h) (Or.inl ⟨by rfl, ?_⟩) ?_ ?_
            rotate_left
            · intro w'
              go_simp
              with_reducible rfl
            rotate_left
            · simp only [Act.put, List.setIfInBounds_toArray, List.set_cons_zero, List.set_cons_succ, i64_w, i32_w]
              rfl
            refine done_ (done_of HT_.out (by kernel_rfl)) ?_
            have hnb32 := NB421_422.out
            have hnc32 := NB422_421.out
            have hnb33 := NB421_430.out
            have hnc33 := NB430_421.out
            have hcz34_0 : w27.cell? ⟨gb421, 0, none⟩ = some (.int .i64 x422000_1) := (blk_cell BK421.out 0).trans rfl
            have hcz34_1 : w27.cell? ⟨gb421, 1, none⟩ = some (.int .i64 x422001_1) := (blk_cell BK421.out 1).trans rfl
            have hcz34_2 : w27.cell? ⟨gb421, 2, none⟩ = some (.slice Ao23 x422002_1.length co23) := (blk_cell BK421.out 2).trans rfl
            have hfz34_0 := blk_frozen BK421.out 0
            have hfz34_1 := blk_frozen BK421.out 1
            have hfz34_2 := blk_frozen BK421.out 2
            have hnb35 := NB422_430.out
            have hnc35 := NB430_422.out
            have hcz36_0 : w27.cell? ⟨gb422, 0, none⟩ = some (.int .i64 x423000_1) := (blk_cell BK422.out 0).trans rfl
            have hcz36_1 : w27.cell? ⟨gb422, 1, none⟩ = some (.int .i64 x423001_1) := (blk_cell BK422.out 1).trans rfl
            have hcz36_2 : w27.cell? ⟨gb422, 2, none⟩ = some (.slice none 0 0) := (blk_cell BK422.out 2).trans rfl
            have hfz36_0 := blk_frozen BK422.out 0
            have hfz36_1 := blk_frozen BK422.out 1
            have hfz36_2 := blk_frozen BK422.out 2
            try go_wp2
            refine bodyPost_ret (results_cell_row rfl _ _ gb422 41 #[.int .i64 x422000_1, .int .i64 x422001_1, .slice Ao23 x422002_1.length co23] (0, 0) _ rfl (by (with_reducible repeat (first | refine blk_drewN ?_ _ | refine blk_drew ?_ | refine blk_alloc ?_ _)); refine blk_put (cs := #[.int .i64 x422000_1, .int .i64 x422001_1, .slice none 0 0]) ?_ 2 _ rfl; (with_reducible repeat (first | refine blk_drewN ?_ _ | refine blk_drew ?_ | refine blk_alloc ?_ _)); refine blk_put (cs := #[.int .i64 x422000_1, .int .i64 x423001_1, .slice none 0 0]) ?_ 1 _ rfl; (with_reducible repeat (first | refine blk_drewN ?_ _ | refine blk_drew ?_ | refine blk_alloc ?_ _)); refine blk_put (cs := #[.int .i64 x423000_1, .int .i64 x423001_1, .slice none 0 0]) ?_ 0 _ rfl; (with_reducible repeat (first | refine blk_drewN ?_ _ | refine blk_drew ?_ | refine blk_alloc ?_ _)); refine blk_far ?_ NB422_430.out _; (with_reducible repeat (first | refine blk_drewN ?_ _ | refine blk_drew ?_ | refine blk_alloc ?_ _)); refine blk_far ?_ NB422_430.out _; (with_reducible repeat (first | refine blk_drewN ?_ _ | refine blk_drew ?_ | refine blk_alloc ?_ _)); refine blk_far ?_ NB422_430.out _; (with_reducible repeat (first | refine blk_drewN ?_ _ | refine blk_drew ?_ | refine blk_alloc ?_ _)); exact BK422.out) Try.underlying41 rfl (by kernel_rfl)) rfl ?_
            exact ⟨_, by first | rfl | (simp [errW_none, errW_some] <;> rfl) | (simp [*, errW_none, errW_some] <;> rfl), by (with_reducible repeat (first | apply Kd.V_alloc | apply Kd.V_drewN | apply Kd.V_drew)); exact Kd.V_mono (Kd.V_far (p := ⟨gb422, 2, none⟩) (Kd.V_far (p := ⟨gb422, 1, none⟩) (Kd.V_far (p := ⟨gb422, 0, none⟩) (Kd.V_far (p := ⟨gb430, 2, none⟩) (Kd.V_far (p := ⟨gb430, 1, none⟩) (Kd.V_far (p := ⟨gb430, 0, none⟩) (Kd.V_mono (Kd.V_mono HO_422002.out (fun k_ hk => (⟨hk, hk.2.2.2⟩ : _ ∧ k_ ≠ gb430))) (fun k_ hk => (⟨hk, hk.1.2.2.1⟩ : _ ∧ k_ ≠ gb422))) (fun _ hk => hk.1.2) (.int .i64 t424)) (fun _ hk => hk.1.2) (.int .i64 t425)) (fun _ hk => hk.1.2) (.slice Ao30 t426.length co30)) (fun _ hk => hk.2) (.int .i64 x422000_1)) (fun _ hk => hk.2) (.int .i64 x422001_1)) (fun _ hk => hk.2) (.slice Ao23 x422002_1.length co23)) (fun _ hk => hk.1.1.1), by repeat (first | (with_reducible first | exact HB.out | apply below_alloc | apply pw_below_drewN | apply below_drew1 | refine below_set ?_ GE421.out | refine below_set ?_ GE422.out | refine below_set ?_ GE430.out) | exact HB.out)⟩
        · rw [if_neg c6] at H
          exact absurd H (by simp)
      · rw [if_neg c5] at H
        have c5b0 : decide (x5_1 < (l1.length : Int)) = false := decide_eq_false c5
        clear c5
        simp only [Option.some.injEq, Prod.mk.injEq] at H
        obtain ⟨rfl, rfl, rfl⟩ := H
        have hnb37 := NB421_422.out
        have hnc37 := NB422_421.out
        have hcz38_0 : wr.cell? ⟨gb421, 0, none⟩ = some (.int .i64 x422000_1) := (blk_cell BK421.out 0).trans rfl
        have hcz38_1 : wr.cell? ⟨gb421, 1, none⟩ = some (.int .i64 x422001_1) := (blk_cell BK421.out 1).trans rfl
        have hcz38_2 : wr.cell? ⟨gb421, 2, none⟩ = some (u422002) := (blk_cell BK421.out 2).trans rfl
        have hfz38_0 := blk_frozen BK421.out 0
        have hfz38_1 := blk_frozen BK421.out 1
        have hfz38_2 := blk_frozen BK421.out 2
        have hcz39_0 : wr.cell? ⟨gb422, 0, none⟩ = some (.int .i64 x423000_1) := (blk_cell BK422.out 0).trans rfl
        have hcz39_1 : wr.cell? ⟨gb422, 1, none⟩ = some (.int .i64 x423001_1) := (blk_cell BK422.out 1).trans rfl
        have hcz39_2 : wr.cell? ⟨gb422, 2, none⟩ = some (.slice none 0 0) := (blk_cell BK422.out 2).trans rfl
        have hfz39_0 := blk_frozen BK422.out 0
        have hfz39_1 := blk_frozen BK422.out 1
        have hfz39_2 := blk_frozen BK422.out 2
        obtain ⟨Ao40, co40, eo40⟩ := Kd.V_slice HO_422002.out
        subst eo40
        go_wp2
        refine bodyPost_ret (results_cell_row rfl _ _ gb422 41 #[.int .i64 x422000_1, .int .i64 x422001_1, .slice Ao40 x422002_1.length co40] (0, 0) _ rfl (by (with_reducible repeat (first | refine blk_drewN ?_ _ | refine blk_drew ?_ | refine blk_alloc ?_ _)); refine blk_put (cs := #[.int .i64 x422000_1, .int .i64 x422001_1, .slice none 0 0]) ?_ 2 _ rfl; (with_reducible repeat (first | refine blk_drewN ?_ _ | refine blk_drew ?_ | refine blk_alloc ?_ _)); refine blk_put (cs := #[.int .i64 x422000_1, .int .i64 x423001_1, .slice none 0 0]) ?_ 1 _ rfl; (with_reducible repeat (first | refine blk_drewN ?_ _ | refine blk_drew ?_ | refine blk_alloc ?_ _)); refine blk_put (cs := #[.int .i64 x423000_1, .int .i64 x423001_1, .slice none 0 0]) ?_ 0 _ rfl; (with_reducible repeat (first | refine blk_drewN ?_ _ | refine blk_drew ?_ | refine blk_alloc ?_ _)); exact BK422.out) Try.underlying41 rfl (by kernel_rfl)) rfl ?_
        exact ⟨_, by first | rfl | (simp [errW_none, errW_some] <;> rfl) | (simp [*, errW_none, errW_some] <;> rfl), by (with_reducible repeat (first | apply Kd.V_alloc | apply Kd.V_drewN | apply Kd.V_drew)); exact Kd.V_mono (Kd.V_far (p := ⟨gb422, 2, none⟩) (Kd.V_far (p := ⟨gb422, 1, none⟩) (Kd.V_far (p := ⟨gb422, 0, none⟩) (Kd.V_mono HO_422002.out (fun k_ hk => (⟨hk, hk.2.2⟩ : _ ∧ k_ ≠ gb422))) (fun _ hk => hk.2) (.int .i64 x422000_1)) (fun _ hk => hk.2) (.int .i64 x422001_1)) (fun _ hk => hk.2) (.slice Ao40 x422002_1.length co40)) (fun _ hk => hk.1.1), by repeat (first | (with_reducible first | exact HB.out | apply below_alloc | apply pw_below_drewN | apply below_drew1 | refine below_set ?_ GE421.out | refine below_set ?_ GE422.out) | exact HB.out)⟩

end Go.Proofs.Ytibkmiffibacbaa.Print
