/- A text that a program of this session printed out of the translation: checked by Lean alone. -/
import Derived.Test.YtibkmiffibacbaaPrint0
import Derived.Test.YtibkmiffibacbaaPrint3
namespace Go.Proofs.Ytibkmiffibacbaa.Print
open Go.RowKit Go.Proofs.YtibkmiffibacbaaW.PrintWords Go.Proofs.YtibkmiffibacbaaW.PrintLast Go.Proofs.YtibkmiffibacbaaW.PrintMore
attribute [local go_sem] max2_int min2_int max_two min_two max_three min_three max_four min_four   -- for this text's walks alone
set_option linter.unusedVariables false
set_option linter.unusedSimpArgs false

/-! ### wayfinderlaw20_awake: function 12 -/
def wayfinderlaw20_awake.f  : Option (Bool) := (plan_Sync.f (([(⟨3, (([(⟨(⟨0, 0⟩ : S28), (-1), 0, (⟨0, 0⟩ : S30)⟩ : S32)] : List (S32)))⟩ : S37)] : List (S37))) 3).bind fun t107 => (if (t107.length : Int) = 3 then (if 0 < (t107.length : Int) then (if ((rd_T34 t107 0).f0) = 2 then (if ((rd_T34 t107 0).f3) = 3 then (if 1 < (t107.length : Int) then (if ((rd_T34 t107 1).f0) = 3 then (if 2 < (t107.length : Int) then (some (((rd_T34 t107 2).f0) == 5)) else (none)) else (none)) else (none)) else (none)) else (none)) else (none)) else (none))
set_option maxHeartbeats 8000000 in
set_option maxRecDepth 100000 in
theorem wayfinderlaw20_awake.calls  (r : Bool) (w : World) (h : wayfinderlaw20_awake.f  = some r) :
    Calls Try.prog 12 #[] w fun e w' => e = .returned (.bool r) ∧ Below w.heap.size w w' := by
  have hu32 := Try.underlying32
  have hu37 := Try.underlying37
  have HB := Aside0.mk (Below.refl w.heap.size w)
  have H : ((plan_Sync.f (([(⟨3, (([(⟨(⟨0, 0⟩ : S28), (-1), 0, (⟨0, 0⟩ : S30)⟩ : S32)] : List (S32)))⟩ : S37)] : List (S37))) 3).bind fun t107 => (if (t107.length : Int) = 3 then (if 0 < (t107.length : Int) then (if ((rd_T34 t107 0).f0) = 2 then (if ((rd_T34 t107 0).f3) = 3 then (if 1 < (t107.length : Int) then (if ((rd_T34 t107 1).f0) = 3 then (if 2 < (t107.length : Int) then (some (((rd_T34 t107 2).f0) == 5)) else (none)) else (none)) else (none)) else (none)) else (none)) else (none)) else (none))) = some r := h
  clear h
  obtain ⟨y101, hy101⟩ : ∃ y_ : List (S32), y_ = (([(⟨(⟨0, 0⟩ : S28), (-1), 0, (⟨0, 0⟩ : S30)⟩ : S32)] : List (S32))) := ⟨_, rfl⟩
  replace H : ((plan_Sync.f (([(⟨3, y101⟩ : S37)] : List (S37))) 3).bind fun t107 => (if (t107.length : Int) = 3 then (if 0 < (t107.length : Int) then (if ((rd_T34 t107 0).f0) = 2 then (if ((rd_T34 t107 0).f3) = 3 then (if 1 < (t107.length : Int) then (if ((rd_T34 t107 1).f0) = 3 then (if 2 < (t107.length : Int) then (some (((rd_T34 t107 2).f0) == 5)) else (none)) else (none)) else (none)) else (none)) else (none)) else (none)) else (none))) = some r := by first | (rw [hy101]; with_reducible exact H) | (have H2_ := (Option.bind_some _ _).symm.trans H; rw [hy101]; with_reducible exact H2_) | (have H2_ := (Option.bind_some _ _).symm.trans H; with_reducible exact H2_) | with_reducible exact H | (rw [hy101]; exact H) | exact H
  have Ny101 := Aside0.mk hy101
  clear hy101
  obtain ⟨y104, hy104⟩ : ∃ y_ : List (S37), y_ = (([(⟨3, y101⟩ : S37)] : List (S37))) := ⟨_, rfl⟩
  replace H : ((plan_Sync.f y104 3).bind fun t107 => (if (t107.length : Int) = 3 then (if 0 < (t107.length : Int) then (if ((rd_T34 t107 0).f0) = 2 then (if ((rd_T34 t107 0).f3) = 3 then (if 1 < (t107.length : Int) then (if ((rd_T34 t107 1).f0) = 3 then (if 2 < (t107.length : Int) then (some (((rd_T34 t107 2).f0) == 5)) else (none)) else (none)) else (none)) else (none)) else (none)) else (none)) else (none))) = some r := by first | (rw [hy104]; with_reducible exact H) | (have H2_ := (Option.bind_some _ _).symm.trans H; rw [hy104]; with_reducible exact H2_) | (have H2_ := (Option.bind_some _ _).symm.trans H; with_reducible exact H2_) | with_reducible exact H | (rw [hy104]; exact H) | exact H
  have Ny104 := Aside0.mk hy104
  clear hy104
  replace H := Option.bind_eq_some_iff.mp H
  obtain ⟨t107, A10, H⟩ := H
  replace H : (if (t107.length : Int) = 3 then (if 0 < (t107.length : Int) then (if ((rd_T34 t107 0).f0) = 2 then (if ((rd_T34 t107 0).f3) = 3 then (if 1 < (t107.length : Int) then (if ((rd_T34 t107 1).f0) = 3 then (if 2 < (t107.length : Int) then (some (((rd_T34 t107 2).f0) == 5)) else (none)) else (none)) else (none)) else (none)) else (none)) else (none)) else (none)) = some r := H
  have A1 := Aside0.mk A10
  clear A10
  by_cases c2 : (t107.length : Int) = 3
  · rw [if_pos c2] at H
    have c2b0 : ((t107.length : Int) == 3) = true := beq_iff_eq.mpr c2
    have c2b1 : ((t107.length : Int) != 3) = false := bne_eq_false_iff_eq.mpr c2
    clear c2
    by_cases c3 : 0 < (t107.length : Int)
    · rw [if_pos c3] at H
      have c3b0 : decide (0 < (t107.length : Int)) = true := decide_eq_true c3
      have c3b1 : decide (0 < t107.length) = true := decide_eq_true (by omega)
      clear c3
      by_cases c4 : ((rd_T34 t107 0).f0) = 2
      · rw [if_pos c4] at H
        have c4b0 : (((rd_T34 t107 0).f0) == 2) = true := beq_iff_eq.mpr c4
        have c4b1 : (((rd_T34 t107 0).f0) != 2) = false := bne_eq_false_iff_eq.mpr c4
        clear c4
        by_cases c5 : ((rd_T34 t107 0).f3) = 3
        · rw [if_pos c5] at H
          have c5b0 : (((rd_T34 t107 0).f3) == 3) = true := beq_iff_eq.mpr c5
          have c5b1 : (((rd_T34 t107 0).f3) != 3) = false := bne_eq_false_iff_eq.mpr c5
          clear c5
          by_cases c6 : 1 < (t107.length : Int)
          · rw [if_pos c6] at H
            have c6b0 : decide (1 < (t107.length : Int)) = true := decide_eq_true c6
            have c6b1 : decide (1 < t107.length) = true := decide_eq_true (by omega)
            clear c6
            by_cases c7 : ((rd_T34 t107 1).f0) = 3
            · rw [if_pos c7] at H
              have c7b0 : (((rd_T34 t107 1).f0) == 3) = true := beq_iff_eq.mpr c7
              have c7b1 : (((rd_T34 t107 1).f0) != 3) = false := bne_eq_false_iff_eq.mpr c7
              clear c7
              by_cases c8 : 2 < (t107.length : Int)
              · rw [if_pos c8] at H
                have c8b0 : decide (2 < (t107.length : Int)) = true := decide_eq_true c8
                have c8b1 : decide (2 < t107.length) = true := decide_eq_true (by omega)
                clear c8
                obtain rfl := Option.some.inj H
                go_enter Try.func12, Try.ntmps12
                go_wp2_with (first | ((with_reducible refine gate_dst (N := 3) rfl ?_); refine Kd.R_lit k32 _ 32 ?hg (N := 3) ?hd (xs := ([(⟨(⟨0, 0⟩ : S28), (-1), 0, (⟨0, 0⟩ : S30)⟩ : S32)] : List (S32))) (inner := [.int .i64 0, .int .i64 0, .int .i64 (-1), .int .i64 0, .int .i64 0, .int .i64 0]) (ok := fun _ => True) (okp := fun _ => True) ?hr ?hp (fun _ hk => hk) trivial (Below.refl _ _) (Nat.le_refl _) (by simp) ?_; (case hd => rfl); (case hg => rfl); (case hr => first | (go_simp; done) | (go_simp; rfl)); (case hp => exact (Reps.c6 (show Kd.M k32 _ _ _ (⟨(⟨0, 0⟩ : S28), (-1), 0, (⟨0, 0⟩ : S30)⟩ : S32) [.int .i64 0, .int .i64 0, .int .i64 (-1), .int .i64 0, .int .i64 0, .int .i64 0] from (k32_mkM _ _ _ (⟨(⟨0, 0⟩ : S28), (-1), 0, (⟨0, 0⟩ : S30)⟩ : S32) )) (Reps.none _ _))); intro v102 w9 ho10 hb hg_ hnew_; clear hg_ hnew_; (first | rw [← Ny101.out] at ho10 | (simp only [Int.reduceToNat] at ho10; rw [← Ny101.out] at ho10)); have n0_ := Aside0.mk (Kd.R_lower ho10 (below_size (by repeat (first | (with_reducible first | exact HB.out | apply below_alloc | apply pw_below_drewN | apply below_drew1) | exact HB.out)))); have n1_ := Aside0.mk (below_step (by repeat (first | (with_reducible first | exact HB.out | apply below_alloc | apply pw_below_drewN | apply below_drew1) | exact HB.out)) hb); clear HB; have HO103 := n0_; have HB := n1_; clear n0_ n1_; clear hb ho10; obtain ⟨Ao11, co11, eo11⟩ := Kd.R_slice HO103.out; subst eo11) | ((with_reducible refine gate_dst (N := 5) rfl ?_); refine Kd.N_lit k37 _ 37 ?hg (N' := 5) ?hd (xs := ([(⟨3, y101⟩ : S37)] : List (S37))) (inner := [.int .i64 3, .slice Ao11 y101.length co11]) (ok := (fun _ => True)) (okp := (fun _ => True)) ?hr ?hp (fun _ hk => hk) ((show ∀ k_, w9.heap.size ≤ k_ → (fun _ => True) k_ from fun k_ hk => trivial) _ (Nat.le_refl _)) (Below.refl _ _) (Nat.le_refl _) (by simp) ?_; (case hd => rfl); (case hg => rfl); (case hr => first | (go_simp; done) | (go_simp; rfl)); (case hp => exact (Reps.c2 (show Kd.FK k37 _ _ (⟨3, y101⟩ : S37) [.int .i64 3, .slice Ao11 y101.length co11] from (k37_mkF _ _ (⟨3, y101⟩ : S37) (Kd.R_reads' (Kd.R_mono (ok' := (fun _ => True)) (HO103.out) (fun k_ hk => trivial))).2.1 (Kd.R_F (Kd.R_mono (ok' := (fun _ => True)) (HO103.out) (fun k_ hk => trivial))))) (Reps.none _ _))); intro v105 w12 ho13 hb hg_ hnew_; clear hg_ hnew_; (first | rw [← Ny104.out] at ho13 | (simp only [Int.reduceToNat] at ho13; rw [← Ny104.out] at ho13)); have n0_ := Aside0.mk (Kd.N_lower ho13 (below_size (by repeat (first | (with_reducible first | exact HB.out | apply below_alloc | apply pw_below_drewN | apply below_drew1) | exact HB.out)))); have n1_ := Aside0.mk (below_step (by repeat (first | (with_reducible first | exact HB.out | apply below_alloc | apply pw_below_drewN | apply below_drew1) | exact HB.out)) hb); clear HB; clear HO103; have HO106 := n0_; have HB := n1_; clear n0_ n1_; clear hb ho13; obtain ⟨Ao14, co14, eo14⟩ := Kd.N_slice HO106.out; subst eo14) | ((with_reducible refine gate_callee (f := 14) rfl ?_); refine goesL_ (some 6) rfl rfl Try.func14 (by kernel_rfl) rfl #[.slice Ao14 y104.length co14, .int .i64 3] rfl (by (try simp only [List.map_toArray, List.map_cons, List.map_nil]); first | done | rfl | (simp only [List.length_drop, List.length_take]; rfl)) ?_; (with_reducible refine (plan_Sync.calls _ _ y104 3 t107 _ ?side1 ?side2 A1.out).mono ?_); (case side1 => repeat (first | exact (Kd.N_reads' HO106.out).2.2 | (with_reducible refine Kd.C_alloc ?_ _) | (with_reducible refine Kd.C_drewN ?_ _) | (with_reducible refine Kd.C_drew ?_))); (case side2 => exact (Kd.N_reads' HO106.out).2.1); rintro e w15 ⟨v108, rfl, ho0, hb⟩; refine ⟨_, rfl, ?_⟩; have n0_ := Aside0.mk (Kd.N_elder' (by (with_reducible repeat (first | apply Kd.N_alloc | apply Kd.N_drewN | apply Kd.N_drew)); exact HO106.out) (Kd.R_base ho0) hb); have n1_ := Aside0.mk (Kd.R_lower ho0 (below_size (by repeat (first | (with_reducible first | exact HB.out | apply below_alloc | apply pw_below_drewN | apply below_drew1) | exact HB.out)))); have n2_ := Aside0.mk (below_step (by repeat (first | (with_reducible first | exact HB.out | apply below_alloc | apply pw_below_drewN | apply below_drew1) | exact HB.out)) hb); clear HO106; clear HB; have HO106 := n0_; have HO109 := n1_; have HB := n2_; clear n0_ n1_ n2_; (try clear hb); (try clear hb2); (try clear hk); (try clear hi); (try clear ho0); obtain ⟨Ao16, co16, eo16⟩ := Kd.R_slice HO109.out; subst eo16; have p110 : 0 ≤ (0 : Int) := (by omega); have q110 : 0 < (t107.length : Int) := of_decide_eq_true (by first | (with_reducible assumption) | assumption); obtain ⟨ad110, e110, hx110_0, hx110_1, hx110_2, hx110_3, hx110_4, hx110_5, hx110_6, hx110_7, hx110_8, hx110_9⟩ := at_T34 (Kd.R_reads' HO109.out).2.2 0 p110 q110; cases e110; have qi110 : (0 < t107.length) = True := eq_true (by omega); (try rw [show ((0 : Int)).toNat = 0 from rfl] at hx110_0); (try rw [show 0 * 10 = 0 from rfl] at hx110_0); (try rw [Addr.add_zero'] at hx110_0); (try rw [show ((0 : Int)).toNat = 0 from rfl] at hx110_1); (try rw [show 0 * 10 = 0 from rfl] at hx110_1); (try rw [Addr.add_zero'] at hx110_1); (try rw [show ((0 : Int)).toNat = 0 from rfl] at hx110_2); (try rw [show 0 * 10 = 0 from rfl] at hx110_2); (try rw [Addr.add_zero'] at hx110_2); (try rw [show ((0 : Int)).toNat = 0 from rfl] at hx110_3); (try rw [show 0 * 10 = 0 from rfl] at hx110_3); (try rw [Addr.add_zero'] at hx110_3); (try rw [show ((0 : Int)).toNat = 0 from rfl] at hx110_4); (try rw [show 0 * 10 = 0 from rfl] at hx110_4); (try rw [Addr.add_zero'] at hx110_4); (try rw [show ((0 : Int)).toNat = 0 from rfl] at hx110_5); (try rw [show 0 * 10 = 0 from rfl] at hx110_5); (try rw [Addr.add_zero'] at hx110_5); (try rw [show ((0 : Int)).toNat = 0 from rfl] at hx110_6); (try rw [show 0 * 10 = 0 from rfl] at hx110_6); (try rw [Addr.add_zero'] at hx110_6); (try rw [show ((0 : Int)).toNat = 0 from rfl] at hx110_7); (try rw [show 0 * 10 = 0 from rfl] at hx110_7); (try rw [Addr.add_zero'] at hx110_7); (try rw [show ((0 : Int)).toNat = 0 from rfl] at hx110_8); (try rw [show 0 * 10 = 0 from rfl] at hx110_8); (try rw [Addr.add_zero'] at hx110_8); (try rw [show ((0 : Int)).toNat = 0 from rfl] at hx110_9); (try rw [show 0 * 10 = 0 from rfl] at hx110_9); (try rw [Addr.add_zero'] at hx110_9); replace p110 := eq_true p110; replace q110 := eq_true q110; have p111 : 0 ≤ (0 : Int) := (by omega); have q111 : 0 < (t107.length : Int) := of_decide_eq_true (by first | (with_reducible assumption) | assumption); obtain ⟨ad111, e111, hx111_0, hx111_1, hx111_2, hx111_3, hx111_4, hx111_5, hx111_6, hx111_7, hx111_8, hx111_9⟩ := at_T34 (Kd.R_reads' HO109.out).2.2 0 p111 q111; obtain rfl : ad110 = ad111 := (by injection e111); have qi111 : (0 < t107.length) = True := eq_true (by omega); (try rw [show ((0 : Int)).toNat = 0 from rfl] at hx111_0); (try rw [show 0 * 10 = 0 from rfl] at hx111_0); (try rw [Addr.add_zero'] at hx111_0); (try rw [show ((0 : Int)).toNat = 0 from rfl] at hx111_1); (try rw [show 0 * 10 = 0 from rfl] at hx111_1); (try rw [Addr.add_zero'] at hx111_1); (try rw [show ((0 : Int)).toNat = 0 from rfl] at hx111_2); (try rw [show 0 * 10 = 0 from rfl] at hx111_2); (try rw [Addr.add_zero'] at hx111_2); (try rw [show ((0 : Int)).toNat = 0 from rfl] at hx111_3); (try rw [show 0 * 10 = 0 from rfl] at hx111_3); (try rw [Addr.add_zero'] at hx111_3); (try rw [show ((0 : Int)).toNat = 0 from rfl] at hx111_4); (try rw [show 0 * 10 = 0 from rfl] at hx111_4); (try rw [Addr.add_zero'] at hx111_4); (try rw [show ((0 : Int)).toNat = 0 from rfl] at hx111_5); (try rw [show 0 * 10 = 0 from rfl] at hx111_5); (try rw [Addr.add_zero'] at hx111_5); (try rw [show ((0 : Int)).toNat = 0 from rfl] at hx111_6); (try rw [show 0 * 10 = 0 from rfl] at hx111_6); (try rw [Addr.add_zero'] at hx111_6); (try rw [show ((0 : Int)).toNat = 0 from rfl] at hx111_7); (try rw [show 0 * 10 = 0 from rfl] at hx111_7); (try rw [Addr.add_zero'] at hx111_7); (try rw [show ((0 : Int)).toNat = 0 from rfl] at hx111_8); (try rw [show 0 * 10 = 0 from rfl] at hx111_8); (try rw [Addr.add_zero'] at hx111_8); (try rw [show ((0 : Int)).toNat = 0 from rfl] at hx111_9); (try rw [show 0 * 10 = 0 from rfl] at hx111_9); (try rw [Addr.add_zero'] at hx111_9); replace p111 := eq_true p111; replace q111 := eq_true q111; have p112 : 0 ≤ (1 : Int) := (by omega); have q112 : 1 < (t107.length : Int) := of_decide_eq_true (by first | (with_reducible assumption) | assumption); obtain ⟨ad112, e112, hx112_0, hx112_1, hx112_2, hx112_3, hx112_4, hx112_5, hx112_6, hx112_7, hx112_8, hx112_9⟩ := at_T34 (Kd.R_reads' HO109.out).2.2 1 p112 q112; obtain rfl : ad110 = ad112 := (by injection e112); (try simp only [show (1 : Int).toNat = 1 from rfl, Nat.reduceMul, Nat.reduceEqDiff, Go.Addr.add, ↓reduceIte] at hx112_0); (try simp only [show (1 : Int).toNat = 1 from rfl, Nat.reduceMul, Nat.reduceEqDiff, Go.Addr.add, ↓reduceIte] at hx112_1); (try simp only [show (1 : Int).toNat = 1 from rfl, Nat.reduceMul, Nat.reduceEqDiff, Go.Addr.add, ↓reduceIte] at hx112_2); (try simp only [show (1 : Int).toNat = 1 from rfl, Nat.reduceMul, Nat.reduceEqDiff, Go.Addr.add, ↓reduceIte] at hx112_3); (try simp only [show (1 : Int).toNat = 1 from rfl, Nat.reduceMul, Nat.reduceEqDiff, Go.Addr.add, ↓reduceIte] at hx112_4); (try simp only [show (1 : Int).toNat = 1 from rfl, Nat.reduceMul, Nat.reduceEqDiff, Go.Addr.add, ↓reduceIte] at hx112_5); (try simp only [show (1 : Int).toNat = 1 from rfl, Nat.reduceMul, Nat.reduceEqDiff, Go.Addr.add, ↓reduceIte] at hx112_6); (try simp only [show (1 : Int).toNat = 1 from rfl, Nat.reduceMul, Nat.reduceEqDiff, Go.Addr.add, ↓reduceIte] at hx112_7); (try simp only [show (1 : Int).toNat = 1 from rfl, Nat.reduceMul, Nat.reduceEqDiff, Go.Addr.add, ↓reduceIte] at hx112_8); (try simp only [show (1 : Int).toNat = 1 from rfl, Nat.reduceMul, Nat.reduceEqDiff, Go.Addr.add, ↓reduceIte] at hx112_9); have qi112 : (1 < t107.length) = True := eq_true (by omega); (try rw [show ((1 : Int)).toNat = 1 from rfl] at hx112_0); (try rw [show 1 * 10 = 10 from rfl] at hx112_0); (try rw [show ((1 : Int)).toNat = 1 from rfl] at hx112_1); (try rw [show 1 * 10 = 10 from rfl] at hx112_1); (try rw [show ((1 : Int)).toNat = 1 from rfl] at hx112_2); (try rw [show 1 * 10 = 10 from rfl] at hx112_2); (try rw [show ((1 : Int)).toNat = 1 from rfl] at hx112_3); (try rw [show 1 * 10 = 10 from rfl] at hx112_3); (try rw [show ((1 : Int)).toNat = 1 from rfl] at hx112_4); (try rw [show 1 * 10 = 10 from rfl] at hx112_4); (try rw [show ((1 : Int)).toNat = 1 from rfl] at hx112_5); (try rw [show 1 * 10 = 10 from rfl] at hx112_5); (try rw [show ((1 : Int)).toNat = 1 from rfl] at hx112_6); (try rw [show 1 * 10 = 10 from rfl] at hx112_6); (try rw [show ((1 : Int)).toNat = 1 from rfl] at hx112_7); (try rw [show 1 * 10 = 10 from rfl] at hx112_7); (try rw [show ((1 : Int)).toNat = 1 from rfl] at hx112_8); (try rw [show 1 * 10 = 10 from rfl] at hx112_8); (try rw [show ((1 : Int)).toNat = 1 from rfl] at hx112_9); (try rw [show 1 * 10 = 10 from rfl] at hx112_9); replace p112 := eq_true p112; replace q112 := eq_true q112; have p113 : 0 ≤ (2 : Int) := (by omega); have q113 : 2 < (t107.length : Int) := of_decide_eq_true (by first | (with_reducible assumption) | assumption); obtain ⟨ad113, e113, hx113_0, hx113_1, hx113_2, hx113_3, hx113_4, hx113_5, hx113_6, hx113_7, hx113_8, hx113_9⟩ := at_T34 (Kd.R_reads' HO109.out).2.2 2 p113 q113; obtain rfl : ad110 = ad113 := (by injection e113); (try simp only [show (2 : Int).toNat = 2 from rfl, Nat.reduceMul, Nat.reduceEqDiff, Go.Addr.add, ↓reduceIte] at hx113_0); (try simp only [show (2 : Int).toNat = 2 from rfl, Nat.reduceMul, Nat.reduceEqDiff, Go.Addr.add, ↓reduceIte] at hx113_1); (try simp only [show (2 : Int).toNat = 2 from rfl, Nat.reduceMul, Nat.reduceEqDiff, Go.Addr.add, ↓reduceIte] at hx113_2); (try simp only [show (2 : Int).toNat = 2 from rfl, Nat.reduceMul, Nat.reduceEqDiff, Go.Addr.add, ↓reduceIte] at hx113_3); (try simp only [show (2 : Int).toNat = 2 from rfl, Nat.reduceMul, Nat.reduceEqDiff, Go.Addr.add, ↓reduceIte] at hx113_4); (try simp only [show (2 : Int).toNat = 2 from rfl, Nat.reduceMul, Nat.reduceEqDiff, Go.Addr.add, ↓reduceIte] at hx113_5); (try simp only [show (2 : Int).toNat = 2 from rfl, Nat.reduceMul, Nat.reduceEqDiff, Go.Addr.add, ↓reduceIte] at hx113_6); (try simp only [show (2 : Int).toNat = 2 from rfl, Nat.reduceMul, Nat.reduceEqDiff, Go.Addr.add, ↓reduceIte] at hx113_7); (try simp only [show (2 : Int).toNat = 2 from rfl, Nat.reduceMul, Nat.reduceEqDiff, Go.Addr.add, ↓reduceIte] at hx113_8); (try simp only [show (2 : Int).toNat = 2 from rfl, Nat.reduceMul, Nat.reduceEqDiff, Go.Addr.add, ↓reduceIte] at hx113_9); have qi113 : (2 < t107.length) = True := eq_true (by omega); (try rw [show ((2 : Int)).toNat = 2 from rfl] at hx113_0); (try rw [show 2 * 10 = 20 from rfl] at hx113_0); (try rw [show ((2 : Int)).toNat = 2 from rfl] at hx113_1); (try rw [show 2 * 10 = 20 from rfl] at hx113_1); (try rw [show ((2 : Int)).toNat = 2 from rfl] at hx113_2); (try rw [show 2 * 10 = 20 from rfl] at hx113_2); (try rw [show ((2 : Int)).toNat = 2 from rfl] at hx113_3); (try rw [show 2 * 10 = 20 from rfl] at hx113_3); (try rw [show ((2 : Int)).toNat = 2 from rfl] at hx113_4); (try rw [show 2 * 10 = 20 from rfl] at hx113_4); (try rw [show ((2 : Int)).toNat = 2 from rfl] at hx113_5); (try rw [show 2 * 10 = 20 from rfl] at hx113_5); (try rw [show ((2 : Int)).toNat = 2 from rfl] at hx113_6); (try rw [show 2 * 10 = 20 from rfl] at hx113_6); (try rw [show ((2 : Int)).toNat = 2 from rfl] at hx113_7); (try rw [show 2 * 10 = 20 from rfl] at hx113_7); (try rw [show ((2 : Int)).toNat = 2 from rfl] at hx113_8); (try rw [show 2 * 10 = 20 from rfl] at hx113_8); (try rw [show ((2 : Int)).toNat = 2 from rfl] at hx113_9); (try rw [show 2 * 10 = 20 from rfl] at hx113_9); replace p113 := eq_true p113; replace q113 := eq_true q113))
                go_ret
                exact ⟨by first | rfl | (simp [errW_none, errW_some] <;> rfl) | (simp [*, errW_none, errW_some] <;> rfl), by repeat (first | (with_reducible first | exact HB.out | apply below_alloc | apply pw_below_drewN | apply below_drew1) | exact HB.out)⟩
              · rw [if_neg c8] at H
                exact absurd H (by simp)
            · rw [if_neg c7] at H
              exact absurd H (by simp)
          · rw [if_neg c6] at H
            exact absurd H (by simp)
        · rw [if_neg c5] at H
          exact absurd H (by simp)
      · rw [if_neg c4] at H
        exact absurd H (by simp)
    · rw [if_neg c3] at H
      exact absurd H (by simp)
  · rw [if_neg c2] at H
    exact absurd H (by simp)

/-! ### wayfinderlaw09_Few: function 13 -/
def wayfinderlaw09_Few.l0 : Nat → List (S37) → Int → Option (Bool)
  | 0, _, _ => none
  | k + 1, x0, x3 => if x3 < (x0.length : Int) then (if 0 ≤ x3 then (if (((rd_T37 x0 x3).f1).length : Int) > 60 then (some false) else (wayfinderlaw09_Few.l0 k x0 (wrap64 (x3 + 1)))) else (none)) else (some true)
def wayfinderlaw09_Few.f (k : Nat) (l0 : List (S37)) : Option (Bool) := if (l0.length : Int) > 20 then (some false) else (wayfinderlaw09_Few.l0 k l0 0)
theorem wayfinderlaw09_Few.mono_l : ∀ k, (∀ y0 y1, LeO (wayfinderlaw09_Few.l0 k y0 y1) (wayfinderlaw09_Few.l0 (k + 1) y0 y1))
  | 0 => fun _ _ r h => by simp [wayfinderlaw09_Few.l0] at h
  | k + 1 => by
    have ih0 := wayfinderlaw09_Few.mono_l k
    · intro y0 y1
      unfold wayfinderlaw09_Few.l0
      repeat' first
      | (with_reducible exact ih0 _ _)
      | (with_reducible exact LeO.refl _)
      | (with_reducible exact LeO.none _)
      | (with_reducible refine LeO.ite ?_ ?_)
      | (with_reducible refine LeO.bind ?_ (fun _ => ?_))
      | exact ih0 _ _
      | exact LeO.none _
      | refine LeO.ite ?_ ?_
      | refine LeO.bind ?_ (fun _ => ?_)
theorem wayfinderlaw09_Few.mono : ∀ a0 k, LeO (wayfinderlaw09_Few.f k a0) (wayfinderlaw09_Few.f (k + 1) a0) := by
  intro a0 k
  have ih0 := wayfinderlaw09_Few.mono_l k
  unfold wayfinderlaw09_Few.f
  repeat' first
      | (with_reducible exact ih0 _ _)
      | (with_reducible exact LeO.refl _)
      | (with_reducible exact LeO.none _)
      | (with_reducible refine LeO.ite ?_ ?_)
      | (with_reducible refine LeO.bind ?_ (fun _ => ?_))
      | exact ih0 _ _
      | exact LeO.none _
      | refine LeO.ite ?_ ?_
      | refine LeO.bind ?_ (fun _ => ?_)
set_option maxHeartbeats 8000000 in
set_option maxRecDepth 100000 in
theorem wayfinderlaw09_Few.calls (k : Nat) (A0 : Option Addr) (c0 : Nat) (l0 : List (S37)) (r : Bool) (w : World) (hr0 : Kd.C k37 w A0 l0.length l0) (hc0 : l0.length ≤ c0) (h : wayfinderlaw09_Few.f k l0 = some r) :
    Calls Try.prog 13 #[.slice A0 l0.length c0] w fun e w' => e = .returned (.bool r) ∧ Drawn0 w w' := by
  have HR0 := Aside0.mk hr0
  have HC0 := Aside0.mk hc0
  clear hr0 hc0
  have H : (if (l0.length : Int) > 20 then (some false) else (wayfinderlaw09_Few.l0 k l0 0)) = some r := h
  clear h
  by_cases c2 : (l0.length : Int) > 20
  · rw [if_pos c2] at H
    have c2b0 : decide (20 < (l0.length : Int)) = true := decide_eq_true c2
    have c2b1 : decide (20 < l0.length) = true := decide_eq_true (by omega)
    clear c2
    obtain rfl := Option.some.inj H
    go_enter Try.func13, Try.ntmps13
    go_wp2
    go_ret
    exact ⟨by first | rfl | (simp; done) | (simp [*]; done), by repeat (first | exact Drawn0.refl _ | apply Drawn0.step)⟩
  · rw [if_neg c2] at H
    have c2b0 : decide (20 < (l0.length : Int)) = false := decide_eq_false c2
    have c2b1 : decide (20 < l0.length) = false := decide_eq_false (by omega)
    clear c2
    have H' := Aside0.mk H
    clear H
    go_enter Try.func13, Try.ntmps13
    go_wp2
    go_loopg [3] k (fun kq v3 w' => ∃ (x3_1 : Int), v3 = .int .i64 x3_1 ∧ Aside0 (wayfinderlaw09_Few.l0 kq l0 x3_1 = some r) ∧ Aside0 (kq ≤ k) ∧ Drawn0 w w')
    case atStart => exact ⟨(0), (by first | rfl | (simp; done) | (simp [*]; done)), H', ⟨Nat.le_refl _⟩, by repeat (first | exact Drawn0.refl _ | apply Drawn0.step)⟩
    case round =>
      clear H'
      try clear c1
      try clear c2
      try clear c2b0
      try clear c2b1
      try clear p2
      obtain ⟨x3_1, rfl, HA, HK1, ⟨m1, rfl⟩⟩ := hrel
      cases gk with
      | zero => exact absurd HA.out (by simp [wayfinderlaw09_Few.l0])
      | succ k1 =>
        have H := HA.out
        clear HA
        simp only [wayfinderlaw09_Few.l0] at H
        by_cases c3 : x3_1 < (l0.length : Int)
        · rw [if_pos c3] at H
          have c3b0 : decide (x3_1 < (l0.length : Int)) = true := decide_eq_true c3
          clear c3
          by_cases c4 : 0 ≤ x3_1
          · rw [if_pos c4] at H
            have c4b0 : decide (0 ≤ x3_1) = true := decide_eq_true c4
            clear c4
            by_cases c5 : (((rd_T37 l0 x3_1).f1).length : Int) > 60
            · rw [if_pos c5] at H
              have c5b0 : decide (60 < (((rd_T37 l0 x3_1).f1).length : Int)) = true := decide_eq_true c5
              have c5b1 : decide (60 < ((rd_T37 l0 x3_1).f1).length) = true := decide_eq_true (by omega)
              clear c5
              obtain rfl := Option.some.inj H
              have p114 : 0 ≤ (x3_1 : Int) := of_decide_eq_true (by first | (with_reducible assumption) | assumption)
              have q114 : x3_1 < (l0.length : Int) := of_decide_eq_true (by first | (with_reducible assumption) | assumption)
              obtain ⟨ad114, A114_1, c114_1, e114, hx114_0, hx114_1, hl114_1, hi114_1⟩ := at_T37 HR0.out x3_1 p114 q114
              cases e114
              have HR114_1 := Aside0.mk hi114_1
              have HC114_1 := Aside0.mk hl114_1
              clear hi114_1 hl114_1
              replace p114 := eq_true p114
              replace q114 := eq_true q114
              go_wp2
              go_ret
              exact ⟨by first | rfl | (simp; done) | (simp [*]; done), by repeat (first | exact Drawn0.refl _ | apply Drawn0.step)⟩
            · rw [if_neg c5] at H
              have c5b0 : decide (60 < (((rd_T37 l0 x3_1).f1).length : Int)) = false := decide_eq_false c5
              have c5b1 : decide (60 < ((rd_T37 l0 x3_1).f1).length) = false := decide_eq_false (by omega)
              clear c5
              have H' := Aside0.mk H
              clear H
              have p114 : 0 ≤ (x3_1 : Int) := of_decide_eq_true (by first | (with_reducible assumption) | assumption)
              have q114 : x3_1 < (l0.length : Int) := of_decide_eq_true (by first | (with_reducible assumption) | assumption)
              obtain ⟨ad114, A114_1, c114_1, e114, hx114_0, hx114_1, hl114_1, hi114_1⟩ := at_T37 HR0.out x3_1 p114 q114
              cases e114
              have HR114_1 := Aside0.mk hi114_1
              have HC114_1 := Aside0.mk hl114_1
              clear hi114_1 hl114_1
              replace p114 := eq_true p114
              replace q114 := eq_true q114
              go_wp2
              go_roundg k1
              case measure => have := HK1.out; omega
              case rel => exact ⟨(wrap64 (x3_1 + 1)), (by first | rfl | (simp; done) | (simp [*]; done)), H', ⟨by have := HK1.out; omega⟩, by repeat (first | exact Drawn0.refl _ | apply Drawn0.step)⟩
          · rw [if_neg c4] at H
            exact absurd H (by simp)
        · rw [if_neg c3] at H
          have c3b0 : decide (x3_1 < (l0.length : Int)) = false := decide_eq_false c3
          clear c3
          obtain rfl := Option.some.inj H
          go_wp2
          go_ret
          exact ⟨by first | rfl | (simp; done) | (simp [*]; done), by repeat (first | exact Drawn0.refl _ | apply Drawn0.step)⟩

end Go.Proofs.Ytibkmiffibacbaa.Print
