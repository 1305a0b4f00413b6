/- A text that a program of this session printed out of the translation: checked by Lean alone. -/
import Derived.Test.YtifgncaihpoijaaPrint0
import Derived.Test.YtifgncaihpoijaaPrint19
import Derived.Test.YtifgncaihpoijaaPrint21
namespace Go.Proofs.Ytifgncaihpoijaa.Print
open Go.RowKit Go.Proofs.YtifgncaihpoijaaW.PrintWords Go.Proofs.YtifgncaihpoijaaW.PrintLast Go.Proofs.YtifgncaihpoijaaW.PrintMore
attribute [local go_sem] max2_int min2_int max_two min_two max_three min_three max_four min_four   -- for this text's walks alone
set_option linter.unusedVariables false
set_option linter.unusedSimpArgs false

/-! ### wayfinderlaw14_awake: function 23 -/
def wayfinderlaw14_awake.f  : Option (Bool) := (wires_Send.f ([] : List (S54)) 1 false ([] : List Int)).bind fun bt198 => ((wires_Send.f bt198.1 2 false ([] : List Int)).bind fun bt202 => ((wires_Fate.f bt202.1 1 0).bind fun bt206 => (if bt198.2 = true then (if bt202.2 = true then (if bt206.2.2.2.2 = true then (if bt206.2.1 = 2 then (if (bt206.1.length : Int) = 1 then (if 0 < (bt206.1.length : Int) then (some (((rd_T54 bt206.1 0).f0) == 1)) else (none)) else (some false)) else (some false)) else (some false)) else (some false)) else (some false))))
set_option maxHeartbeats 8000000 in
set_option maxRecDepth 100000 in
theorem wayfinderlaw14_awake.calls  (r : Bool) (w : World) (h : wayfinderlaw14_awake.f  = some r) :
    Calls Try.prog 23 #[] w fun e w' => e = .returned (.bool r) ∧ Below w.heap.size w w' := by
  have hu54 := Try.underlying54
  have HB := Aside0.mk (Below.refl w.heap.size w)
  have H : ((wires_Send.f ([] : List (S54)) 1 false ([] : List Int)).bind fun bt198 => ((wires_Send.f bt198.1 2 false ([] : List Int)).bind fun bt202 => ((wires_Fate.f bt202.1 1 0).bind fun bt206 => (if bt198.2 = true then (if bt202.2 = true then (if bt206.2.2.2.2 = true then (if bt206.2.1 = 2 then (if (bt206.1.length : Int) = 1 then (if 0 < (bt206.1.length : Int) then (some (((rd_T54 bt206.1 0).f0) == 1)) else (none)) else (some false)) else (some false)) else (some false)) else (some false)) else (some false))))) = some r := h
  clear h
  replace H := Option.bind_eq_some_iff.mp H
  obtain ⟨⟨t198, t201⟩, A10, H⟩ := H
  replace H : ((wires_Send.f t198 2 false ([] : List Int)).bind fun bt202 => ((wires_Fate.f bt202.1 1 0).bind fun bt206 => (if t201 = true then (if bt202.2 = true then (if bt206.2.2.2.2 = true then (if bt206.2.1 = 2 then (if (bt206.1.length : Int) = 1 then (if 0 < (bt206.1.length : Int) then (some (((rd_T54 bt206.1 0).f0) == 1)) else (none)) else (some false)) else (some false)) else (some false)) else (some false)) else (some false)))) = some r := H
  have A1 := Aside0.mk A10
  clear A10
  replace H := Option.bind_eq_some_iff.mp H
  obtain ⟨⟨t202, t205⟩, A20, H⟩ := H
  replace H : ((wires_Fate.f t202 1 0).bind fun bt206 => (if t201 = true then (if t205 = true then (if bt206.2.2.2.2 = true then (if bt206.2.1 = 2 then (if (bt206.1.length : Int) = 1 then (if 0 < (bt206.1.length : Int) then (some (((rd_T54 bt206.1 0).f0) == 1)) else (none)) else (some false)) else (some false)) else (some false)) else (some false)) else (some false))) = some r := H
  have A2 := Aside0.mk A20
  clear A20
  replace H := Option.bind_eq_some_iff.mp H
  obtain ⟨⟨t206, t209, t210, t211, t214⟩, A30, H⟩ := H
  replace H : (if t201 = true then (if t205 = true then (if t214 = true then (if t209 = 2 then (if (t206.length : Int) = 1 then (if 0 < (t206.length : Int) then (some (((rd_T54 t206 0).f0) == 1)) else (none)) else (some false)) else (some false)) else (some false)) else (some false)) else (some false)) = some r := H
  have A3 := Aside0.mk A30
  clear A30
  by_cases c4 : t201 = true
  · subst c4
    have H1 : (if t205 = true then (if t214 = true then (if t209 = 2 then (if (t206.length : Int) = 1 then (if 0 < (t206.length : Int) then (some (((rd_T54 t206 0).f0) == 1)) else (none)) else (some false)) else (some false)) else (some false)) else (some false)) = some r := by rw [if_pos rfl] at H; exact H
    clear H
    have H := H1
    clear H1
    by_cases c5 : t205 = true
    · subst c5
      have H1 : (if t214 = true then (if t209 = 2 then (if (t206.length : Int) = 1 then (if 0 < (t206.length : Int) then (some (((rd_T54 t206 0).f0) == 1)) else (none)) else (some false)) else (some false)) else (some false)) = some r := by rw [if_pos rfl] at H; exact H
      clear H
      have H := H1
      clear H1
      by_cases c6 : t214 = true
      · subst c6
        have H1 : (if t209 = 2 then (if (t206.length : Int) = 1 then (if 0 < (t206.length : Int) then (some (((rd_T54 t206 0).f0) == 1)) else (none)) else (some false)) else (some false)) = some r := by rw [if_pos rfl] at H; exact H
        clear H
        have H := H1
        clear H1
        by_cases c7 : t209 = 2
        · rw [if_pos c7] at H
          have c7b0 : (t209 == 2) = true := beq_iff_eq.mpr c7
          have c7b1 : (t209 != 2) = false := bne_eq_false_iff_eq.mpr c7
          clear c7
          by_cases c8 : (t206.length : Int) = 1
          · rw [if_pos c8] at H
            have c8b0 : ((t206.length : Int) == 1) = true := beq_iff_eq.mpr c8
            have c8b1 : ((t206.length : Int) != 1) = false := bne_eq_false_iff_eq.mpr c8
            clear c8
            by_cases c9 : 0 < (t206.length : Int)
            · rw [if_pos c9] at H
              have c9b0 : decide (0 < (t206.length : Int)) = true := decide_eq_true c9
              have c9b1 : decide (0 < t206.length) = true := decide_eq_true (by omega)
              clear c9
              obtain rfl := Option.some.inj H
              go_enter Try.func23, Try.ntmps23
              go_wp2_with (first | ((with_reducible refine gate_callee (f := 25) rfl ?_); refine goesL_ (some 10) rfl rfl Try.func25 (by kernel_rfl) rfl #[.slice none 0 0, .agg #[.int .i64 1, .bool false, .slice none 0 0]] rfl (by (try simp only [List.map_toArray, List.map_cons, List.map_nil]); first | done | rfl | (simp only [List.length_drop, List.length_take]; rfl)) ?_; (refine (wires_Send.calls _ _ ([] : List (S54)) 1 false _ _ ([] : List Int) t198 true _ ?side1 ?side2 ?side3 ?side4 A1.out).mono ?_); (case side1 => exact Kd.C_nil _ _); (case side2 => exact Nat.le_refl _); (case side3 => exact Kd.C_nil _ _); (case side4 => exact Nat.le_refl _); rintro e w10 ⟨v199, rfl, ho0, hb⟩; refine ⟨_, rfl, ?_⟩; have n0_ := Aside0.mk (Kd.V_lower (Kd.V_mono (ok' := fun k_ => True) ho0 (fun k_ hk_ => trivial)) (below_size (by repeat (first | (with_reducible first | exact HB.out | apply below_alloc | apply pw_below_drewN | apply below_drew1) | exact HB.out)))); have n1_ := Aside0.mk (below_step (by repeat (first | (with_reducible first | exact HB.out | apply below_alloc | apply pw_below_drewN | apply below_drew1) | exact HB.out)) hb); clear HB; have HO200 := n0_; have HB := n1_; clear n0_ n1_; (try clear hb); (try clear hb2); (try clear hk); (try clear hi); (try clear ho0); obtain ⟨Ao11, co11, eo11⟩ := Kd.V_slice HO200.out; subst eo11) | ((with_reducible refine gate_callee (f := 25) rfl ?_); refine goesL_ (some 16) rfl rfl Try.func25 (by kernel_rfl) rfl #[.slice Ao11 t198.length co11, .agg #[.int .i64 2, .bool false, .slice none 0 0]] rfl (by (try simp only [List.map_toArray, List.map_cons, List.map_nil]); first | done | rfl | (simp only [List.length_drop, List.length_take]; rfl)) ?_; (refine (wires_Send.calls _ _ t198 2 false _ _ ([] : List Int) t202 true _ ?side1 ?side2 ?side3 ?side4 A2.out).mono ?_); (case side1 => repeat (first | exact (Kd.V_reads' HO200.out).2.2 | (with_reducible refine Kd.C_alloc ?_ _) | (with_reducible refine Kd.C_drewN ?_ _) | (with_reducible refine Kd.C_drew ?_))); (case side2 => exact (Kd.V_reads' HO200.out).2.1); (case side3 => exact Kd.C_nil _ _); (case side4 => exact Nat.le_refl _); rintro e w12 ⟨v203, rfl, ho0, hb⟩; refine ⟨_, rfl, ?_⟩; have n0_ := Aside0.mk (Kd.V_below (by (with_reducible repeat (first | apply Kd.V_alloc | apply Kd.V_drewN | apply Kd.V_drew)); exact HO200.out) hb); have n1_ := Aside0.mk (Kd.V_lower (Kd.V_mono (ok' := fun k_ => True) ho0 (fun k_ hk_ => trivial)) (below_size (by repeat (first | (with_reducible first | exact HB.out | apply below_alloc | apply pw_below_drewN | apply below_drew1) | exact HB.out)))); have n2_ := Aside0.mk (below_step (by repeat (first | (with_reducible first | exact HB.out | apply below_alloc | apply pw_below_drewN | apply below_drew1) | exact HB.out)) hb); clear HO200; clear HB; have HO200 := n0_; have HO204 := n1_; have HB := n2_; clear n0_ n1_ n2_; (try clear hb); (try clear hb2); (try clear hk); (try clear hi); (try clear ho0); obtain ⟨Ao13, co13, eo13⟩ := Kd.V_slice HO204.out; subst eo13) | ((with_reducible refine gate_callee (f := 28) rfl ?_); refine goesL_ (some 21) rfl rfl Try.func28 (by kernel_rfl) rfl #[.slice Ao13 t202.length co13, .int .i64 1, .int .i64 0] rfl (by (try simp only [List.map_toArray, List.map_cons, List.map_nil]); first | done | rfl | (simp only [List.length_drop, List.length_take]; rfl)) ?_; (with_reducible refine (wires_Fate.calls _ _ t202 1 0 t206 t209 t210 t211 true _ ?side1 ?side2 A3.out).mono ?_); (case side1 => repeat (first | exact (Kd.V_reads' HO204.out).2.2 | (with_reducible refine Kd.C_alloc ?_ _) | (with_reducible refine Kd.C_drewN ?_ _) | (with_reducible refine Kd.C_drew ?_))); (case side2 => exact (Kd.V_reads' HO204.out).2.1); rintro e w14 ⟨v207, v212, rfl, ho0, ho1, hb⟩; refine ⟨_, rfl, ?_⟩; have n0_ := Aside0.mk (Kd.V_below (by (with_reducible repeat (first | apply Kd.V_alloc | apply Kd.V_drewN | apply Kd.V_drew)); exact HO200.out) hb); have n1_ := Aside0.mk (Kd.V_below (by (with_reducible repeat (first | apply Kd.V_alloc | apply Kd.V_drewN | apply Kd.V_drew)); exact HO204.out) hb); have n2_ := Aside0.mk (Kd.V_lower (Kd.V_mono (ok' := fun k_ => True) ho0 (fun k_ hk_ => trivial)) (below_size (by repeat (first | (with_reducible first | exact HB.out | apply below_alloc | apply pw_below_drewN | apply below_drew1) | exact HB.out)))); have n3_ := Aside0.mk (Kd.V_lower (Kd.V_mono (ok' := fun k_ => True) ho1 (fun k_ hk_ => trivial)) (below_size (by repeat (first | (with_reducible first | exact HB.out | apply below_alloc | apply pw_below_drewN | apply below_drew1) | exact HB.out)))); have n4_ := Aside0.mk (below_step (by repeat (first | (with_reducible first | exact HB.out | apply below_alloc | apply pw_below_drewN | apply below_drew1) | exact HB.out)) hb); clear HO200; clear HO204; clear HB; have HO200 := n0_; have HO204 := n1_; have HO208 := n2_; have HO213 := n3_; have HB := n4_; clear n0_ n1_ n2_ n3_ n4_; (try clear hb); (try clear hb2); (try clear hk); (try clear hi); (try clear ho0); (try clear ho1)) | ((with_reducible refine gate_dst (N := 6) rfl ?_); (try (refine gate_guard (by rfl) ?_; dsimp only)); refine box_event ?hg (N := 6) ?hd (cs := #[.int .i64 0, .bool false, .slice none 0 0]) (t := 54) ?hr ?_; (case hd => rfl); (case hg => rfl); (case hr => first | (go_simp; done) | (go_simp; rfl)); intro gb215 hg w15 hbox hb; have n0_ := Aside0.mk (Kd.V_below (Kd.V_elderB (by (with_reducible repeat (first | apply Kd.V_alloc | apply Kd.V_drewN | apply Kd.V_drew)); exact HO200.out) gb215 (Nat.le_of_eq hg.symm)) hb); have n1_ := Aside0.mk (Kd.V_below (Kd.V_elderB (by (with_reducible repeat (first | apply Kd.V_alloc | apply Kd.V_drewN | apply Kd.V_drew)); exact HO204.out) gb215 (Nat.le_of_eq hg.symm)) hb); have n2_ := Aside0.mk (Kd.V_below (Kd.V_elderB (by (with_reducible repeat (first | apply Kd.V_alloc | apply Kd.V_drewN | apply Kd.V_drew)); exact HO208.out) gb215 (Nat.le_of_eq hg.symm)) hb); have n3_ := Aside0.mk (Kd.V_below (Kd.V_elderB (by (with_reducible repeat (first | apply Kd.V_alloc | apply Kd.V_drewN | apply Kd.V_drew)); exact HO213.out) gb215 (Nat.le_of_eq hg.symm)) hb); have n4_ := Aside0.mk (below_step (by repeat (first | (with_reducible first | exact HB.out | apply below_alloc | apply pw_below_drewN | apply below_drew1) | exact HB.out)) hb); have n5_ := Aside0.mk (hbox); have n6_ := Aside0.mk ((by rw [hg]; exact (below_size (by repeat (first | (with_reducible first | exact HB.out | apply below_alloc | apply pw_below_drewN | apply below_drew1) | exact HB.out))) : w.heap.size ≤ gb215)); have n7_ := Aside0.mk ((by rw [hg]; exact (below_size (by repeat (first | (with_reducible first | exact HB.out | apply below_alloc | apply pw_below_drewN | apply below_drew1) | exact HB.out))) : w.heap.size ≤ gb215)); clear HO200; clear HO204; clear HO208; clear HO213; clear HB; have HO200 := n0_; have HO204 := n1_; have HO208 := n2_; have HO213 := n3_; have HB := n4_; have BK215 := n5_; have GW215 := n6_; have GE215 := n7_; clear n0_ n1_ n2_ n3_ n4_ n5_ n6_ n7_; clear hb hbox hg; have hcz16_0 : w15.cell? ⟨gb215, 0, none⟩ = some (.int .i64 0) := (blk_cell BK215.out 0).trans rfl; have hcz16_1 : w15.cell? ⟨gb215, 1, none⟩ = some (.bool false) := (blk_cell BK215.out 1).trans rfl; have hcz16_2 : w15.cell? ⟨gb215, 2, none⟩ = some (.slice none 0 0) := (blk_cell BK215.out 2).trans rfl; have hfz16_0 := blk_frozen BK215.out 0; have hfz16_1 := blk_frozen BK215.out 1; have hfz16_2 := blk_frozen BK215.out 2; obtain ⟨Ao17, co17, eo17⟩ := Kd.V_slice HO213.out; subst eo17) | ((with_reducible refine gate_store (t := 54) (p := 6) rfl ?_); refine store_event (t := 54) (p := 6) (v := ?vo_w18) (w1 := (((w15.setCell ⟨gb215, 0, none⟩ (.int .i64 t209)).setCell ⟨gb215, 1, none⟩ (.bool t210)).setCell ⟨gb215, 2, none⟩ (.slice Ao17 t211.length co17))) ?hg ?ho ?hn ?hr ?_; (case ho => rfl); (case hg => rfl); (case hn => rfl); (case hr => first | (go_simp; done) | (go_simp; rfl)); intro w18 hw; have n0_ : Aside0 (Kd.V k54 54 w18 w.heap.size (fun k_ => k_ ≠ gb215) (.slice Ao11 t198.length co11) t198) := ⟨(by rw [hw]; exact (by (with_reducible repeat (first | apply Kd.V_alloc | apply Kd.V_drewN | apply Kd.V_drew)); exact Kd.V_mono (Kd.V_far (p := ⟨gb215, 2, none⟩) (Kd.V_far (p := ⟨gb215, 1, none⟩) (Kd.V_far (p := ⟨gb215, 0, none⟩) (Kd.V_mono HO200.out (fun k_ hk => (⟨hk, hk.2⟩ : _ ∧ k_ ≠ gb215))) (fun _ hk => hk.2) (.int .i64 t209)) (fun _ hk => hk.2) (.bool t210)) (fun _ hk => hk.2) (.slice Ao17 t211.length co17)) (fun _ hk => hk.1.2)))⟩; have n1_ : Aside0 (Kd.V k54 54 w18 w.heap.size (fun k_ => k_ ≠ gb215) (.slice Ao13 t202.length co13) t202) := ⟨(by rw [hw]; exact (by (with_reducible repeat (first | apply Kd.V_alloc | apply Kd.V_drewN | apply Kd.V_drew)); exact Kd.V_mono (Kd.V_far (p := ⟨gb215, 2, none⟩) (Kd.V_far (p := ⟨gb215, 1, none⟩) (Kd.V_far (p := ⟨gb215, 0, none⟩) (Kd.V_mono HO204.out (fun k_ hk => (⟨hk, hk.2⟩ : _ ∧ k_ ≠ gb215))) (fun _ hk => hk.2) (.int .i64 t209)) (fun _ hk => hk.2) (.bool t210)) (fun _ hk => hk.2) (.slice Ao17 t211.length co17)) (fun _ hk => hk.1.2)))⟩; have n2_ : Aside0 (Kd.V k54 54 w18 w.heap.size (fun k_ => k_ ≠ gb215) v207 t206) := ⟨(by rw [hw]; exact (by (with_reducible repeat (first | apply Kd.V_alloc | apply Kd.V_drewN | apply Kd.V_drew)); exact Kd.V_mono (Kd.V_far (p := ⟨gb215, 2, none⟩) (Kd.V_far (p := ⟨gb215, 1, none⟩) (Kd.V_far (p := ⟨gb215, 0, none⟩) (Kd.V_mono HO208.out (fun k_ hk => (⟨hk, hk.2⟩ : _ ∧ k_ ≠ gb215))) (fun _ hk => hk.2) (.int .i64 t209)) (fun _ hk => hk.2) (.bool t210)) (fun _ hk => hk.2) (.slice Ao17 t211.length co17)) (fun _ hk => hk.1.2)))⟩; have n3_ : Aside0 (Kd.V (Kd.int .u8) 5 w18 w.heap.size (fun k_ => k_ ≠ gb215) (.slice Ao17 t211.length co17) t211) := ⟨(by rw [hw]; exact (by (with_reducible repeat (first | apply Kd.V_alloc | apply Kd.V_drewN | apply Kd.V_drew)); exact Kd.V_mono (Kd.V_far (p := ⟨gb215, 2, none⟩) (Kd.V_far (p := ⟨gb215, 1, none⟩) (Kd.V_far (p := ⟨gb215, 0, none⟩) (Kd.V_mono HO213.out (fun k_ hk => (⟨hk, hk.2⟩ : _ ∧ k_ ≠ gb215))) (fun _ hk => hk.2) (.int .i64 t209)) (fun _ hk => hk.2) (.bool t210)) (fun _ hk => hk.2) (.slice Ao17 t211.length co17)) (fun _ hk => hk.1.2)))⟩; have n4_ : Aside0 (w18.heap[gb215]? = some (.cells #[.int .i64 t209, .bool t210, .slice Ao17 t211.length co17] 54 (0, 0))) := ⟨(by rw [hw]; exact (by (with_reducible repeat (first | refine blk_drewN ?_ _ | refine blk_drew ?_ | refine blk_alloc ?_ _)); refine blk_put (cs := #[.int .i64 t209, .bool t210, .slice none 0 0]) ?_ 2 _ rfl; (with_reducible repeat (first | refine blk_drewN ?_ _ | refine blk_drew ?_ | refine blk_alloc ?_ _)); refine blk_put (cs := #[.int .i64 t209, .bool false, .slice none 0 0]) ?_ 1 _ rfl; (with_reducible repeat (first | refine blk_drewN ?_ _ | refine blk_drew ?_ | refine blk_alloc ?_ _)); refine blk_put (cs := #[.int .i64 0, .bool false, .slice none 0 0]) ?_ 0 _ rfl; (with_reducible repeat (first | refine blk_drewN ?_ _ | refine blk_drew ?_ | refine blk_alloc ?_ _)); exact BK215.out))⟩; have n5_ : Aside0 (Below w.heap.size w w18) := ⟨(by rw [hw]; exact (by repeat (first | (with_reducible first | exact HB.out | apply below_alloc | apply pw_below_drewN | apply below_drew1 | refine below_set ?_ GE215.out) | exact HB.out)))⟩; clear hw; clear HO200; clear HO204; clear HO208; clear HO213; clear BK215; clear HB; have HO200 := n0_; have HO204 := n1_; have HO208 := n2_; have HO213 := n3_; have BK215 := n4_; have HB := n5_; clear n0_ n1_ n2_ n3_ n4_ n5_; have hcz19_0 : w18.cell? ⟨gb215, 0, none⟩ = some (.int .i64 t209) := (blk_cell BK215.out 0).trans rfl; have hcz19_1 : w18.cell? ⟨gb215, 1, none⟩ = some (.bool t210) := (blk_cell BK215.out 1).trans rfl; have hcz19_2 : w18.cell? ⟨gb215, 2, none⟩ = some (.slice Ao17 t211.length co17) := (blk_cell BK215.out 2).trans rfl; have hfz19_0 := blk_frozen BK215.out 0; have hfz19_1 := blk_frozen BK215.out 1; have hfz19_2 := blk_frozen BK215.out 2; obtain ⟨Ao20, co20, eo20⟩ := Kd.V_slice HO208.out; subst eo20; have p216 : 0 ≤ (0 : Int) := (by omega); have q216 : 0 < (t206.length : Int) := of_decide_eq_true (by first | (with_reducible assumption) | assumption); obtain ⟨ad216, A216_2, c216_2, e216, hx216_0, hx216_1, hx216_2, hl216_2, hi216_2⟩ := at_T54 (Kd.V_reads' HO208.out).2.2 0 p216 q216; cases e216; obtain ⟨ce216, hce216, hMe216, hcc216⟩ := Kd.V_get HO208.out z54 0 p216 (by first | exact q216 | exact of_decide_eq_true (by first | (with_reducible assumption) | assumption) | (have e_ := (Kd.V_reads' HO208.out).1; omega)); obtain ⟨ua216_2, uc216_2, rfl, ul216_2, ge216_2⟩ := k54_openF hMe216; have hv216_2 := hcc216 2 _ rfl; rw [add_field _ _ 2 (by omega)] at hv216_2; replace hv216_2 := Option.some.inj (hv216_2.symm.trans hx216_2); injection hv216_2 with hva_ hvn_ hvc_; rw [hva_] at ge216_2; rw [hvc_] at ul216_2; have HL216_2 := Aside0.mk (show Kd.V (Kd.int .u8) 5 _ w.heap.size _ _ ((rd_T54 t206 0).f2) from Kd.V_mk ul216_2 ge216_2); clear hva_ hvn_ hvc_ ge216_2 ul216_2; clear hcc216 hce216; have qi216 : (0 < t206.length) = True := eq_true (by omega); (try rw [show ((0 : Int)).toNat = 0 from rfl] at hx216_0); (try rw [show 0 * 3 = 0 from rfl] at hx216_0); (try rw [Addr.add_zero'] at hx216_0); (try rw [show ((0 : Int)).toNat = 0 from rfl] at hx216_1); (try rw [show 0 * 3 = 0 from rfl] at hx216_1); (try rw [Addr.add_zero'] at hx216_1); (try rw [show ((0 : Int)).toNat = 0 from rfl] at hx216_2); (try rw [show 0 * 3 = 0 from rfl] at hx216_2); (try rw [Addr.add_zero'] at hx216_2); have HR216_2 := Aside0.mk hi216_2; have HC216_2 := Aside0.mk hl216_2; clear hi216_2 hl216_2; replace p216 := eq_true p216; replace q216 := eq_true q216))
              go_ret
              exact ⟨by first | rfl | (simp [errW_none, errW_some] <;> rfl) | (simp [*, errW_none, errW_some] <;> rfl), by repeat (first | (with_reducible first | exact HB.out | apply below_alloc | apply pw_below_drewN | apply below_drew1 | refine below_set ?_ GE215.out) | exact HB.out)⟩
            · rw [if_neg c9] at H
              exact absurd H (by simp)
          · rw [if_neg c8] at H
            have c8b0 : ((t206.length : Int) == 1) = false := beq_eq_false_iff_ne.mpr c8
            have c8b1 : ((t206.length : Int) != 1) = true := bne_iff_ne.mpr c8
            obtain rfl := Option.some.inj H
            go_enter Try.func23, Try.ntmps23
            go_wp2_with (first | ((with_reducible refine gate_callee (f := 25) rfl ?_); refine goesL_ (some 10) rfl rfl Try.func25 (by kernel_rfl) rfl #[.slice none 0 0, .agg #[.int .i64 1, .bool false, .slice none 0 0]] rfl (by (try simp only [List.map_toArray, List.map_cons, List.map_nil]); first | done | rfl | (simp only [List.length_drop, List.length_take]; rfl)) ?_; (refine (wires_Send.calls _ _ ([] : List (S54)) 1 false _ _ ([] : List Int) t198 true _ ?side1 ?side2 ?side3 ?side4 A1.out).mono ?_); (case side1 => exact Kd.C_nil _ _); (case side2 => exact Nat.le_refl _); (case side3 => exact Kd.C_nil _ _); (case side4 => exact Nat.le_refl _); rintro e w21 ⟨v199, rfl, ho0, hb⟩; refine ⟨_, rfl, ?_⟩; have n0_ := Aside0.mk (Kd.V_lower (Kd.V_mono (ok' := fun k_ => True) ho0 (fun k_ hk_ => trivial)) (below_size (by repeat (first | (with_reducible first | exact HB.out | apply below_alloc | apply pw_below_drewN | apply below_drew1) | exact HB.out)))); have n1_ := Aside0.mk (below_step (by repeat (first | (with_reducible first | exact HB.out | apply below_alloc | apply pw_below_drewN | apply below_drew1) | exact HB.out)) hb); clear HB; have HO200 := n0_; have HB := n1_; clear n0_ n1_; (try clear hb); (try clear hb2); (try clear hk); (try clear hi); (try clear ho0); obtain ⟨Ao22, co22, eo22⟩ := Kd.V_slice HO200.out; subst eo22) | ((with_reducible refine gate_callee (f := 25) rfl ?_); refine goesL_ (some 16) rfl rfl Try.func25 (by kernel_rfl) rfl #[.slice Ao22 t198.length co22, .agg #[.int .i64 2, .bool false, .slice none 0 0]] rfl (by (try simp only [List.map_toArray, List.map_cons, List.map_nil]); first | done | rfl | (simp only [List.length_drop, List.length_take]; rfl)) ?_; (refine (wires_Send.calls _ _ t198 2 false _ _ ([] : List Int) t202 true _ ?side1 ?side2 ?side3 ?side4 A2.out).mono ?_); (case side1 => repeat (first | exact (Kd.V_reads' HO200.out).2.2 | (with_reducible refine Kd.C_alloc ?_ _) | (with_reducible refine Kd.C_drewN ?_ _) | (with_reducible refine Kd.C_drew ?_))); (case side2 => exact (Kd.V_reads' HO200.out).2.1); (case side3 => exact Kd.C_nil _ _); (case side4 => exact Nat.le_refl _); rintro e w23 ⟨v203, rfl, ho0, hb⟩; refine ⟨_, rfl, ?_⟩; have n0_ := Aside0.mk (Kd.V_below (by (with_reducible repeat (first | apply Kd.V_alloc | apply Kd.V_drewN | apply Kd.V_drew)); exact HO200.out) hb); have n1_ := Aside0.mk (Kd.V_lower (Kd.V_mono (ok' := fun k_ => True) ho0 (fun k_ hk_ => trivial)) (below_size (by repeat (first | (with_reducible first | exact HB.out | apply below_alloc | apply pw_below_drewN | apply below_drew1) | exact HB.out)))); have n2_ := Aside0.mk (below_step (by repeat (first | (with_reducible first | exact HB.out | apply below_alloc | apply pw_below_drewN | apply below_drew1) | exact HB.out)) hb); clear HO200; clear HB; have HO200 := n0_; have HO204 := n1_; have HB := n2_; clear n0_ n1_ n2_; (try clear hb); (try clear hb2); (try clear hk); (try clear hi); (try clear ho0); obtain ⟨Ao24, co24, eo24⟩ := Kd.V_slice HO204.out; subst eo24) | ((with_reducible refine gate_callee (f := 28) rfl ?_); refine goesL_ (some 21) rfl rfl Try.func28 (by kernel_rfl) rfl #[.slice Ao24 t202.length co24, .int .i64 1, .int .i64 0] rfl (by (try simp only [List.map_toArray, List.map_cons, List.map_nil]); first | done | rfl | (simp only [List.length_drop, List.length_take]; rfl)) ?_; (with_reducible refine (wires_Fate.calls _ _ t202 1 0 t206 t209 t210 t211 true _ ?side1 ?side2 A3.out).mono ?_); (case side1 => repeat (first | exact (Kd.V_reads' HO204.out).2.2 | (with_reducible refine Kd.C_alloc ?_ _) | (with_reducible refine Kd.C_drewN ?_ _) | (with_reducible refine Kd.C_drew ?_))); (case side2 => exact (Kd.V_reads' HO204.out).2.1); rintro e w25 ⟨v207, v212, rfl, ho0, ho1, hb⟩; refine ⟨_, rfl, ?_⟩; have n0_ := Aside0.mk (Kd.V_below (by (with_reducible repeat (first | apply Kd.V_alloc | apply Kd.V_drewN | apply Kd.V_drew)); exact HO200.out) hb); have n1_ := Aside0.mk (Kd.V_below (by (with_reducible repeat (first | apply Kd.V_alloc | apply Kd.V_drewN | apply Kd.V_drew)); exact HO204.out) hb); have n2_ := Aside0.mk (Kd.V_lower (Kd.V_mono (ok' := fun k_ => True) ho0 (fun k_ hk_ => trivial)) (below_size (by repeat (first | (with_reducible first | exact HB.out | apply below_alloc | apply pw_below_drewN | apply below_drew1) | exact HB.out)))); have n3_ := Aside0.mk (Kd.V_lower (Kd.V_mono (ok' := fun k_ => True) ho1 (fun k_ hk_ => trivial)) (below_size (by repeat (first | (with_reducible first | exact HB.out | apply below_alloc | apply pw_below_drewN | apply below_drew1) | exact HB.out)))); have n4_ := Aside0.mk (below_step (by repeat (first | (with_reducible first | exact HB.out | apply below_alloc | apply pw_below_drewN | apply below_drew1) | exact HB.out)) hb); clear HO200; clear HO204; clear HB; have HO200 := n0_; have HO204 := n1_; have HO208 := n2_; have HO213 := n3_; have HB := n4_; clear n0_ n1_ n2_ n3_ n4_; (try clear hb); (try clear hb2); (try clear hk); (try clear hi); (try clear ho0); (try clear ho1)) | ((with_reducible refine gate_dst (N := 6) rfl ?_); (try (refine gate_guard (by rfl) ?_; dsimp only)); refine box_event ?hg (N := 6) ?hd (cs := #[.int .i64 0, .bool false, .slice none 0 0]) (t := 54) ?hr ?_; (case hd => rfl); (case hg => rfl); (case hr => first | (go_simp; done) | (go_simp; rfl)); intro gb215 hg w26 hbox hb; have n0_ := Aside0.mk (Kd.V_below (Kd.V_elderB (by (with_reducible repeat (first | apply Kd.V_alloc | apply Kd.V_drewN | apply Kd.V_drew)); exact HO200.out) gb215 (Nat.le_of_eq hg.symm)) hb); have n1_ := Aside0.mk (Kd.V_below (Kd.V_elderB (by (with_reducible repeat (first | apply Kd.V_alloc | apply Kd.V_drewN | apply Kd.V_drew)); exact HO204.out) gb215 (Nat.le_of_eq hg.symm)) hb); have n2_ := Aside0.mk (Kd.V_below (Kd.V_elderB (by (with_reducible repeat (first | apply Kd.V_alloc | apply Kd.V_drewN | apply Kd.V_drew)); exact HO208.out) gb215 (Nat.le_of_eq hg.symm)) hb); have n3_ := Aside0.mk (Kd.V_below (Kd.V_elderB (by (with_reducible repeat (first | apply Kd.V_alloc | apply Kd.V_drewN | apply Kd.V_drew)); exact HO213.out) gb215 (Nat.le_of_eq hg.symm)) hb); have n4_ := Aside0.mk (below_step (by repeat (first | (with_reducible first | exact HB.out | apply below_alloc | apply pw_below_drewN | apply below_drew1) | exact HB.out)) hb); have n5_ := Aside0.mk (hbox); have n6_ := Aside0.mk ((by rw [hg]; exact (below_size (by repeat (first | (with_reducible first | exact HB.out | apply below_alloc | apply pw_below_drewN | apply below_drew1) | exact HB.out))) : w.heap.size ≤ gb215)); have n7_ := Aside0.mk ((by rw [hg]; exact (below_size (by repeat (first | (with_reducible first | exact HB.out | apply below_alloc | apply pw_below_drewN | apply below_drew1) | exact HB.out))) : w.heap.size ≤ gb215)); clear HO200; clear HO204; clear HO208; clear HO213; clear HB; have HO200 := n0_; have HO204 := n1_; have HO208 := n2_; have HO213 := n3_; have HB := n4_; have BK215 := n5_; have GW215 := n6_; have GE215 := n7_; clear n0_ n1_ n2_ n3_ n4_ n5_ n6_ n7_; clear hb hbox hg; have hcz27_0 : w26.cell? ⟨gb215, 0, none⟩ = some (.int .i64 0) := (blk_cell BK215.out 0).trans rfl; have hcz27_1 : w26.cell? ⟨gb215, 1, none⟩ = some (.bool false) := (blk_cell BK215.out 1).trans rfl; have hcz27_2 : w26.cell? ⟨gb215, 2, none⟩ = some (.slice none 0 0) := (blk_cell BK215.out 2).trans rfl; have hfz27_0 := blk_frozen BK215.out 0; have hfz27_1 := blk_frozen BK215.out 1; have hfz27_2 := blk_frozen BK215.out 2; obtain ⟨Ao28, co28, eo28⟩ := Kd.V_slice HO213.out; subst eo28; obtain ⟨Ao29, co29, eo29⟩ := Kd.V_slice HO208.out; subst eo29))
            go_ret
            exact ⟨by first | rfl | (simp [errW_none, errW_some] <;> rfl) | (simp [*, errW_none, errW_some] <;> rfl), by repeat (first | (with_reducible first | exact HB.out | apply below_alloc | apply pw_below_drewN | apply below_drew1 | refine below_set ?_ GE215.out) | exact HB.out)⟩
        · rw [if_neg c7] at H
          have c7b0 : (t209 == 2) = false := beq_eq_false_iff_ne.mpr c7
          have c7b1 : (t209 != 2) = true := bne_iff_ne.mpr c7
          obtain rfl := Option.some.inj H
          go_enter Try.func23, Try.ntmps23
          go_wp2_with (first | ((with_reducible refine gate_callee (f := 25) rfl ?_); refine goesL_ (some 10) rfl rfl Try.func25 (by kernel_rfl) rfl #[.slice none 0 0, .agg #[.int .i64 1, .bool false, .slice none 0 0]] rfl (by (try simp only [List.map_toArray, List.map_cons, List.map_nil]); first | done | rfl | (simp only [List.length_drop, List.length_take]; rfl)) ?_; (refine (wires_Send.calls _ _ ([] : List (S54)) 1 false _ _ ([] : List Int) t198 true _ ?side1 ?side2 ?side3 ?side4 A1.out).mono ?_); (case side1 => exact Kd.C_nil _ _); (case side2 => exact Nat.le_refl _); (case side3 => exact Kd.C_nil _ _); (case side4 => exact Nat.le_refl _); rintro e w30 ⟨v199, rfl, ho0, hb⟩; refine ⟨_, rfl, ?_⟩; have n0_ := Aside0.mk (Kd.V_lower (Kd.V_mono (ok' := fun k_ => True) ho0 (fun k_ hk_ => trivial)) (below_size (by repeat (first | (with_reducible first | exact HB.out | apply below_alloc | apply pw_below_drewN | apply below_drew1) | exact HB.out)))); have n1_ := Aside0.mk (below_step (by repeat (first | (with_reducible first | exact HB.out | apply below_alloc | apply pw_below_drewN | apply below_drew1) | exact HB.out)) hb); clear HB; have HO200 := n0_; have HB := n1_; clear n0_ n1_; (try clear hb); (try clear hb2); (try clear hk); (try clear hi); (try clear ho0); obtain ⟨Ao31, co31, eo31⟩ := Kd.V_slice HO200.out; subst eo31) | ((with_reducible refine gate_callee (f := 25) rfl ?_); refine goesL_ (some 16) rfl rfl Try.func25 (by kernel_rfl) rfl #[.slice Ao31 t198.length co31, .agg #[.int .i64 2, .bool false, .slice none 0 0]] rfl (by (try simp only [List.map_toArray, List.map_cons, List.map_nil]); first | done | rfl | (simp only [List.length_drop, List.length_take]; rfl)) ?_; (refine (wires_Send.calls _ _ t198 2 false _ _ ([] : List Int) t202 true _ ?side1 ?side2 ?side3 ?side4 A2.out).mono ?_); (case side1 => repeat (first | exact (Kd.V_reads' HO200.out).2.2 | (with_reducible refine Kd.C_alloc ?_ _) | (with_reducible refine Kd.C_drewN ?_ _) | (with_reducible refine Kd.C_drew ?_))); (case side2 => exact (Kd.V_reads' HO200.out).2.1); (case side3 => exact Kd.C_nil _ _); (case side4 => exact Nat.le_refl _); rintro e w32 ⟨v203, rfl, ho0, hb⟩; refine ⟨_, rfl, ?_⟩; have n0_ := Aside0.mk (Kd.V_below (by (with_reducible repeat (first | apply Kd.V_alloc | apply Kd.V_drewN | apply Kd.V_drew)); exact HO200.out) hb); have n1_ := Aside0.mk (Kd.V_lower (Kd.V_mono (ok' := fun k_ => True) ho0 (fun k_ hk_ => trivial)) (below_size (by repeat (first | (with_reducible first | exact HB.out | apply below_alloc | apply pw_below_drewN | apply below_drew1) | exact HB.out)))); have n2_ := Aside0.mk (below_step (by repeat (first | (with_reducible first | exact HB.out | apply below_alloc | apply pw_below_drewN | apply below_drew1) | exact HB.out)) hb); clear HO200; clear HB; have HO200 := n0_; have HO204 := n1_; have HB := n2_; clear n0_ n1_ n2_; (try clear hb); (try clear hb2); (try clear hk); (try clear hi); (try clear ho0); obtain ⟨Ao33, co33, eo33⟩ := Kd.V_slice HO204.out; subst eo33) | ((with_reducible refine gate_callee (f := 28) rfl ?_); refine goesL_ (some 21) rfl rfl Try.func28 (by kernel_rfl) rfl #[.slice Ao33 t202.length co33, .int .i64 1, .int .i64 0] rfl (by (try simp only [List.map_toArray, List.map_cons, List.map_nil]); first | done | rfl | (simp only [List.length_drop, List.length_take]; rfl)) ?_; (with_reducible refine (wires_Fate.calls _ _ t202 1 0 t206 t209 t210 t211 true _ ?side1 ?side2 A3.out).mono ?_); (case side1 => repeat (first | exact (Kd.V_reads' HO204.out).2.2 | (with_reducible refine Kd.C_alloc ?_ _) | (with_reducible refine Kd.C_drewN ?_ _) | (with_reducible refine Kd.C_drew ?_))); (case side2 => exact (Kd.V_reads' HO204.out).2.1); rintro e w34 ⟨v207, v212, rfl, ho0, ho1, hb⟩; refine ⟨_, rfl, ?_⟩; have n0_ := Aside0.mk (Kd.V_below (by (with_reducible repeat (first | apply Kd.V_alloc | apply Kd.V_drewN | apply Kd.V_drew)); exact HO200.out) hb); have n1_ := Aside0.mk (Kd.V_below (by (with_reducible repeat (first | apply Kd.V_alloc | apply Kd.V_drewN | apply Kd.V_drew)); exact HO204.out) hb); have n2_ := Aside0.mk (Kd.V_lower (Kd.V_mono (ok' := fun k_ => True) ho0 (fun k_ hk_ => trivial)) (below_size (by repeat (first | (with_reducible first | exact HB.out | apply below_alloc | apply pw_below_drewN | apply below_drew1) | exact HB.out)))); have n3_ := Aside0.mk (Kd.V_lower (Kd.V_mono (ok' := fun k_ => True) ho1 (fun k_ hk_ => trivial)) (below_size (by repeat (first | (with_reducible first | exact HB.out | apply below_alloc | apply pw_below_drewN | apply below_drew1) | exact HB.out)))); have n4_ := Aside0.mk (below_step (by repeat (first | (with_reducible first | exact HB.out | apply below_alloc | apply pw_below_drewN | apply below_drew1) | exact HB.out)) hb); clear HO200; clear HO204; clear HB; have HO200 := n0_; have HO204 := n1_; have HO208 := n2_; have HO213 := n3_; have HB := n4_; clear n0_ n1_ n2_ n3_ n4_; (try clear hb); (try clear hb2); (try clear hk); (try clear hi); (try clear ho0); (try clear ho1)) | ((with_reducible refine gate_dst (N := 6) rfl ?_); (try (refine gate_guard (by rfl) ?_; dsimp only)); refine box_event ?hg (N := 6) ?hd (cs := #[.int .i64 0, .bool false, .slice none 0 0]) (t := 54) ?hr ?_; (case hd => rfl); (case hg => rfl); (case hr => first | (go_simp; done) | (go_simp; rfl)); intro gb215 hg w35 hbox hb; have n0_ := Aside0.mk (Kd.V_below (Kd.V_elderB (by (with_reducible repeat (first | apply Kd.V_alloc | apply Kd.V_drewN | apply Kd.V_drew)); exact HO200.out) gb215 (Nat.le_of_eq hg.symm)) hb); have n1_ := Aside0.mk (Kd.V_below (Kd.V_elderB (by (with_reducible repeat (first | apply Kd.V_alloc | apply Kd.V_drewN | apply Kd.V_drew)); exact HO204.out) gb215 (Nat.le_of_eq hg.symm)) hb); have n2_ := Aside0.mk (Kd.V_below (Kd.V_elderB (by (with_reducible repeat (first | apply Kd.V_alloc | apply Kd.V_drewN | apply Kd.V_drew)); exact HO208.out) gb215 (Nat.le_of_eq hg.symm)) hb); have n3_ := Aside0.mk (Kd.V_below (Kd.V_elderB (by (with_reducible repeat (first | apply Kd.V_alloc | apply Kd.V_drewN | apply Kd.V_drew)); exact HO213.out) gb215 (Nat.le_of_eq hg.symm)) hb); have n4_ := Aside0.mk (below_step (by repeat (first | (with_reducible first | exact HB.out | apply below_alloc | apply pw_below_drewN | apply below_drew1) | exact HB.out)) hb); have n5_ := Aside0.mk (hbox); have n6_ := Aside0.mk ((by rw [hg]; exact (below_size (by repeat (first | (with_reducible first | exact HB.out | apply below_alloc | apply pw_below_drewN | apply below_drew1) | exact HB.out))) : w.heap.size ≤ gb215)); have n7_ := Aside0.mk ((by rw [hg]; exact (below_size (by repeat (first | (with_reducible first | exact HB.out | apply below_alloc | apply pw_below_drewN | apply below_drew1) | exact HB.out))) : w.heap.size ≤ gb215)); clear HO200; clear HO204; clear HO208; clear HO213; clear HB; have HO200 := n0_; have HO204 := n1_; have HO208 := n2_; have HO213 := n3_; have HB := n4_; have BK215 := n5_; have GW215 := n6_; have GE215 := n7_; clear n0_ n1_ n2_ n3_ n4_ n5_ n6_ n7_; clear hb hbox hg; have hcz36_0 : w35.cell? ⟨gb215, 0, none⟩ = some (.int .i64 0) := (blk_cell BK215.out 0).trans rfl; have hcz36_1 : w35.cell? ⟨gb215, 1, none⟩ = some (.bool false) := (blk_cell BK215.out 1).trans rfl; have hcz36_2 : w35.cell? ⟨gb215, 2, none⟩ = some (.slice none 0 0) := (blk_cell BK215.out 2).trans rfl; have hfz36_0 := blk_frozen BK215.out 0; have hfz36_1 := blk_frozen BK215.out 1; have hfz36_2 := blk_frozen BK215.out 2; obtain ⟨Ao37, co37, eo37⟩ := Kd.V_slice HO213.out; subst eo37))
          go_ret
          exact ⟨by first | rfl | (simp [errW_none, errW_some] <;> rfl) | (simp [*, errW_none, errW_some] <;> rfl), by repeat (first | (with_reducible first | exact HB.out | apply below_alloc | apply pw_below_drewN | apply below_drew1 | refine below_set ?_ GE215.out) | exact HB.out)⟩
      · replace c6 := Bool.eq_false_iff.mpr c6
        subst c6
        have H1 : (some false) = some r := by rw [if_neg (show ¬ (false = true) by decide)] at H; exact H
        clear H
        have H := H1
        clear H1
        obtain rfl := Option.some.inj H
        go_enter Try.func23, Try.ntmps23
        go_wp2_with (first | ((with_reducible refine gate_callee (f := 25) rfl ?_); refine goesL_ (some 10) rfl rfl Try.func25 (by kernel_rfl) rfl #[.slice none 0 0, .agg #[.int .i64 1, .bool false, .slice none 0 0]] rfl (by (try simp only [List.map_toArray, List.map_cons, List.map_nil]); first | done | rfl | (simp only [List.length_drop, List.length_take]; rfl)) ?_; (refine (wires_Send.calls _ _ ([] : List (S54)) 1 false _ _ ([] : List Int) t198 true _ ?side1 ?side2 ?side3 ?side4 A1.out).mono ?_); (case side1 => exact Kd.C_nil _ _); (case side2 => exact Nat.le_refl _); (case side3 => exact Kd.C_nil _ _); (case side4 => exact Nat.le_refl _); rintro e w38 ⟨v199, rfl, ho0, hb⟩; refine ⟨_, rfl, ?_⟩; have n0_ := Aside0.mk (Kd.V_lower (Kd.V_mono (ok' := fun k_ => True) ho0 (fun k_ hk_ => trivial)) (below_size (by repeat (first | (with_reducible first | exact HB.out | apply below_alloc | apply pw_below_drewN | apply below_drew1) | exact HB.out)))); have n1_ := Aside0.mk (below_step (by repeat (first | (with_reducible first | exact HB.out | apply below_alloc | apply pw_below_drewN | apply below_drew1) | exact HB.out)) hb); clear HB; have HO200 := n0_; have HB := n1_; clear n0_ n1_; (try clear hb); (try clear hb2); (try clear hk); (try clear hi); (try clear ho0); obtain ⟨Ao39, co39, eo39⟩ := Kd.V_slice HO200.out; subst eo39) | ((with_reducible refine gate_callee (f := 25) rfl ?_); refine goesL_ (some 16) rfl rfl Try.func25 (by kernel_rfl) rfl #[.slice Ao39 t198.length co39, .agg #[.int .i64 2, .bool false, .slice none 0 0]] rfl (by (try simp only [List.map_toArray, List.map_cons, List.map_nil]); first | done | rfl | (simp only [List.length_drop, List.length_take]; rfl)) ?_; (refine (wires_Send.calls _ _ t198 2 false _ _ ([] : List Int) t202 true _ ?side1 ?side2 ?side3 ?side4 A2.out).mono ?_); (case side1 => repeat (first | exact (Kd.V_reads' HO200.out).2.2 | (with_reducible refine Kd.C_alloc ?_ _) | (with_reducible refine Kd.C_drewN ?_ _) | (with_reducible refine Kd.C_drew ?_))); (case side2 => exact (Kd.V_reads' HO200.out).2.1); (case side3 => exact Kd.C_nil _ _); (case side4 => exact Nat.le_refl _); rintro e w40 ⟨v203, rfl, ho0, hb⟩; refine ⟨_, rfl, ?_⟩; have n0_ := Aside0.mk (Kd.V_below (by (with_reducible repeat (first | apply Kd.V_alloc | apply Kd.V_drewN | apply Kd.V_drew)); exact HO200.out) hb); have n1_ := Aside0.mk (Kd.V_lower (Kd.V_mono (ok' := fun k_ => True) ho0 (fun k_ hk_ => trivial)) (below_size (by repeat (first | (with_reducible first | exact HB.out | apply below_alloc | apply pw_below_drewN | apply below_drew1) | exact HB.out)))); have n2_ := Aside0.mk (below_step (by repeat (first | (with_reducible first | exact HB.out | apply below_alloc | apply pw_below_drewN | apply below_drew1) | exact HB.out)) hb); clear HO200; clear HB; have HO200 := n0_; have HO204 := n1_; have HB := n2_; clear n0_ n1_ n2_; (try clear hb); (try clear hb2); (try clear hk); (try clear hi); (try clear ho0); obtain ⟨Ao41, co41, eo41⟩ := Kd.V_slice HO204.out; subst eo41) | ((with_reducible refine gate_callee (f := 28) rfl ?_); refine goesL_ (some 21) rfl rfl Try.func28 (by kernel_rfl) rfl #[.slice Ao41 t202.length co41, .int .i64 1, .int .i64 0] rfl (by (try simp only [List.map_toArray, List.map_cons, List.map_nil]); first | done | rfl | (simp only [List.length_drop, List.length_take]; rfl)) ?_; (with_reducible refine (wires_Fate.calls _ _ t202 1 0 t206 t209 t210 t211 false _ ?side1 ?side2 A3.out).mono ?_); (case side1 => repeat (first | exact (Kd.V_reads' HO204.out).2.2 | (with_reducible refine Kd.C_alloc ?_ _) | (with_reducible refine Kd.C_drewN ?_ _) | (with_reducible refine Kd.C_drew ?_))); (case side2 => exact (Kd.V_reads' HO204.out).2.1); rintro e w42 ⟨v207, v212, rfl, ho0, ho1, hb⟩; refine ⟨_, rfl, ?_⟩; have n0_ := Aside0.mk (Kd.V_below (by (with_reducible repeat (first | apply Kd.V_alloc | apply Kd.V_drewN | apply Kd.V_drew)); exact HO200.out) hb); have n1_ := Aside0.mk (Kd.V_below (by (with_reducible repeat (first | apply Kd.V_alloc | apply Kd.V_drewN | apply Kd.V_drew)); exact HO204.out) hb); have n2_ := Aside0.mk (Kd.V_lower (Kd.V_mono (ok' := fun k_ => True) ho0 (fun k_ hk_ => trivial)) (below_size (by repeat (first | (with_reducible first | exact HB.out | apply below_alloc | apply pw_below_drewN | apply below_drew1) | exact HB.out)))); have n3_ := Aside0.mk (Kd.V_lower (Kd.V_mono (ok' := fun k_ => True) ho1 (fun k_ hk_ => trivial)) (below_size (by repeat (first | (with_reducible first | exact HB.out | apply below_alloc | apply pw_below_drewN | apply below_drew1) | exact HB.out)))); have n4_ := Aside0.mk (below_step (by repeat (first | (with_reducible first | exact HB.out | apply below_alloc | apply pw_below_drewN | apply below_drew1) | exact HB.out)) hb); clear HO200; clear HO204; clear HB; have HO200 := n0_; have HO204 := n1_; have HO208 := n2_; have HO213 := n3_; have HB := n4_; clear n0_ n1_ n2_ n3_ n4_; (try clear hb); (try clear hb2); (try clear hk); (try clear hi); (try clear ho0); (try clear ho1)) | ((with_reducible refine gate_dst (N := 6) rfl ?_); (try (refine gate_guard (by rfl) ?_; dsimp only)); refine box_event ?hg (N := 6) ?hd (cs := #[.int .i64 0, .bool false, .slice none 0 0]) (t := 54) ?hr ?_; (case hd => rfl); (case hg => rfl); (case hr => first | (go_simp; done) | (go_simp; rfl)); intro gb215 hg w43 hbox hb; have n0_ := Aside0.mk (Kd.V_below (Kd.V_elderB (by (with_reducible repeat (first | apply Kd.V_alloc | apply Kd.V_drewN | apply Kd.V_drew)); exact HO200.out) gb215 (Nat.le_of_eq hg.symm)) hb); have n1_ := Aside0.mk (Kd.V_below (Kd.V_elderB (by (with_reducible repeat (first | apply Kd.V_alloc | apply Kd.V_drewN | apply Kd.V_drew)); exact HO204.out) gb215 (Nat.le_of_eq hg.symm)) hb); have n2_ := Aside0.mk (Kd.V_below (Kd.V_elderB (by (with_reducible repeat (first | apply Kd.V_alloc | apply Kd.V_drewN | apply Kd.V_drew)); exact HO208.out) gb215 (Nat.le_of_eq hg.symm)) hb); have n3_ := Aside0.mk (Kd.V_below (Kd.V_elderB (by (with_reducible repeat (first | apply Kd.V_alloc | apply Kd.V_drewN | apply Kd.V_drew)); exact HO213.out) gb215 (Nat.le_of_eq hg.symm)) hb); have n4_ := Aside0.mk (below_step (by repeat (first | (with_reducible first | exact HB.out | apply below_alloc | apply pw_below_drewN | apply below_drew1) | exact HB.out)) hb); have n5_ := Aside0.mk (hbox); have n6_ := Aside0.mk ((by rw [hg]; exact (below_size (by repeat (first | (with_reducible first | exact HB.out | apply below_alloc | apply pw_below_drewN | apply below_drew1) | exact HB.out))) : w.heap.size ≤ gb215)); have n7_ := Aside0.mk ((by rw [hg]; exact (below_size (by repeat (first | (with_reducible first | exact HB.out | apply below_alloc | apply pw_below_drewN | apply below_drew1) | exact HB.out))) : w.heap.size ≤ gb215)); clear HO200; clear HO204; clear HO208; clear HO213; clear HB; have HO200 := n0_; have HO204 := n1_; have HO208 := n2_; have HO213 := n3_; have HB := n4_; have BK215 := n5_; have GW215 := n6_; have GE215 := n7_; clear n0_ n1_ n2_ n3_ n4_ n5_ n6_ n7_; clear hb hbox hg; have hcz44_0 : w43.cell? ⟨gb215, 0, none⟩ = some (.int .i64 0) := (blk_cell BK215.out 0).trans rfl; have hcz44_1 : w43.cell? ⟨gb215, 1, none⟩ = some (.bool false) := (blk_cell BK215.out 1).trans rfl; have hcz44_2 : w43.cell? ⟨gb215, 2, none⟩ = some (.slice none 0 0) := (blk_cell BK215.out 2).trans rfl; have hfz44_0 := blk_frozen BK215.out 0; have hfz44_1 := blk_frozen BK215.out 1; have hfz44_2 := blk_frozen BK215.out 2; obtain ⟨Ao45, co45, eo45⟩ := Kd.V_slice HO213.out; subst eo45))
        go_ret
        exact ⟨by first | rfl | (simp [errW_none, errW_some] <;> rfl) | (simp [*, errW_none, errW_some] <;> rfl), by repeat (first | (with_reducible first | exact HB.out | apply below_alloc | apply pw_below_drewN | apply below_drew1 | refine below_set ?_ GE215.out) | exact HB.out)⟩
    · replace c5 := Bool.eq_false_iff.mpr c5
      subst c5
      have H1 : (some false) = some r := by rw [if_neg (show ¬ (false = true) by decide)] at H; exact H
      clear H
      have H := H1
      clear H1
      obtain rfl := Option.some.inj H
      go_enter Try.func23, Try.ntmps23
      go_wp2_with (first | ((with_reducible refine gate_callee (f := 25) rfl ?_); refine goesL_ (some 10) rfl rfl Try.func25 (by kernel_rfl) rfl #[.slice none 0 0, .agg #[.int .i64 1, .bool false, .slice none 0 0]] rfl (by (try simp only [List.map_toArray, List.map_cons, List.map_nil]); first | done | rfl | (simp only [List.length_drop, List.length_take]; rfl)) ?_; (refine (wires_Send.calls _ _ ([] : List (S54)) 1 false _ _ ([] : List Int) t198 true _ ?side1 ?side2 ?side3 ?side4 A1.out).mono ?_); (case side1 => exact Kd.C_nil _ _); (case side2 => exact Nat.le_refl _); (case side3 => exact Kd.C_nil _ _); (case side4 => exact Nat.le_refl _); rintro e w46 ⟨v199, rfl, ho0, hb⟩; refine ⟨_, rfl, ?_⟩; have n0_ := Aside0.mk (Kd.V_lower (Kd.V_mono (ok' := fun k_ => True) ho0 (fun k_ hk_ => trivial)) (below_size (by repeat (first | (with_reducible first | exact HB.out | apply below_alloc | apply pw_below_drewN | apply below_drew1) | exact HB.out)))); have n1_ := Aside0.mk (below_step (by repeat (first | (with_reducible first | exact HB.out | apply below_alloc | apply pw_below_drewN | apply below_drew1) | exact HB.out)) hb); clear HB; have HO200 := n0_; have HB := n1_; clear n0_ n1_; (try clear hb); (try clear hb2); (try clear hk); (try clear hi); (try clear ho0); obtain ⟨Ao47, co47, eo47⟩ := Kd.V_slice HO200.out; subst eo47) | ((with_reducible refine gate_callee (f := 25) rfl ?_); refine goesL_ (some 16) rfl rfl Try.func25 (by kernel_rfl) rfl #[.slice Ao47 t198.length co47, .agg #[.int .i64 2, .bool false, .slice none 0 0]] rfl (by (try simp only [List.map_toArray, List.map_cons, List.map_nil]); first | done | rfl | (simp only [List.length_drop, List.length_take]; rfl)) ?_; (refine (wires_Send.calls _ _ t198 2 false _ _ ([] : List Int) t202 false _ ?side1 ?side2 ?side3 ?side4 A2.out).mono ?_); (case side1 => repeat (first | exact (Kd.V_reads' HO200.out).2.2 | (with_reducible refine Kd.C_alloc ?_ _) | (with_reducible refine Kd.C_drewN ?_ _) | (with_reducible refine Kd.C_drew ?_))); (case side2 => exact (Kd.V_reads' HO200.out).2.1); (case side3 => exact Kd.C_nil _ _); (case side4 => exact Nat.le_refl _); rintro e w48 ⟨v203, rfl, ho0, hb⟩; refine ⟨_, rfl, ?_⟩; have n0_ := Aside0.mk (Kd.V_below (by (with_reducible repeat (first | apply Kd.V_alloc | apply Kd.V_drewN | apply Kd.V_drew)); exact HO200.out) hb); have n1_ := Aside0.mk (Kd.V_lower (Kd.V_mono (ok' := fun k_ => True) ho0 (fun k_ hk_ => trivial)) (below_size (by repeat (first | (with_reducible first | exact HB.out | apply below_alloc | apply pw_below_drewN | apply below_drew1) | exact HB.out)))); have n2_ := Aside0.mk (below_step (by repeat (first | (with_reducible first | exact HB.out | apply below_alloc | apply pw_below_drewN | apply below_drew1) | exact HB.out)) hb); clear HO200; clear HB; have HO200 := n0_; have HO204 := n1_; have HB := n2_; clear n0_ n1_ n2_; (try clear hb); (try clear hb2); (try clear hk); (try clear hi); (try clear ho0); obtain ⟨Ao49, co49, eo49⟩ := Kd.V_slice HO204.out; subst eo49) | ((with_reducible refine gate_callee (f := 28) rfl ?_); refine goesL_ (some 21) rfl rfl Try.func28 (by kernel_rfl) rfl #[.slice Ao49 t202.length co49, .int .i64 1, .int .i64 0] rfl (by (try simp only [List.map_toArray, List.map_cons, List.map_nil]); first | done | rfl | (simp only [List.length_drop, List.length_take]; rfl)) ?_; (with_reducible refine (wires_Fate.calls _ _ t202 1 0 t206 t209 t210 t211 t214 _ ?side1 ?side2 A3.out).mono ?_); (case side1 => repeat (first | exact (Kd.V_reads' HO204.out).2.2 | (with_reducible refine Kd.C_alloc ?_ _) | (with_reducible refine Kd.C_drewN ?_ _) | (with_reducible refine Kd.C_drew ?_))); (case side2 => exact (Kd.V_reads' HO204.out).2.1); rintro e w50 ⟨v207, v212, rfl, ho0, ho1, hb⟩; refine ⟨_, rfl, ?_⟩; have n0_ := Aside0.mk (Kd.V_below (by (with_reducible repeat (first | apply Kd.V_alloc | apply Kd.V_drewN | apply Kd.V_drew)); exact HO200.out) hb); have n1_ := Aside0.mk (Kd.V_below (by (with_reducible repeat (first | apply Kd.V_alloc | apply Kd.V_drewN | apply Kd.V_drew)); exact HO204.out) hb); have n2_ := Aside0.mk (Kd.V_lower (Kd.V_mono (ok' := fun k_ => True) ho0 (fun k_ hk_ => trivial)) (below_size (by repeat (first | (with_reducible first | exact HB.out | apply below_alloc | apply pw_below_drewN | apply below_drew1) | exact HB.out)))); have n3_ := Aside0.mk (Kd.V_lower (Kd.V_mono (ok' := fun k_ => True) ho1 (fun k_ hk_ => trivial)) (below_size (by repeat (first | (with_reducible first | exact HB.out | apply below_alloc | apply pw_below_drewN | apply below_drew1) | exact HB.out)))); have n4_ := Aside0.mk (below_step (by repeat (first | (with_reducible first | exact HB.out | apply below_alloc | apply pw_below_drewN | apply below_drew1) | exact HB.out)) hb); clear HO200; clear HO204; clear HB; have HO200 := n0_; have HO204 := n1_; have HO208 := n2_; have HO213 := n3_; have HB := n4_; clear n0_ n1_ n2_ n3_ n4_; (try clear hb); (try clear hb2); (try clear hk); (try clear hi); (try clear ho0); (try clear ho1)) | ((with_reducible refine gate_dst (N := 6) rfl ?_); (try (refine gate_guard (by rfl) ?_; dsimp only)); refine box_event ?hg (N := 6) ?hd (cs := #[.int .i64 0, .bool false, .slice none 0 0]) (t := 54) ?hr ?_; (case hd => rfl); (case hg => rfl); (case hr => first | (go_simp; done) | (go_simp; rfl)); intro gb215 hg w51 hbox hb; have n0_ := Aside0.mk (Kd.V_below (Kd.V_elderB (by (with_reducible repeat (first | apply Kd.V_alloc | apply Kd.V_drewN | apply Kd.V_drew)); exact HO200.out) gb215 (Nat.le_of_eq hg.symm)) hb); have n1_ := Aside0.mk (Kd.V_below (Kd.V_elderB (by (with_reducible repeat (first | apply Kd.V_alloc | apply Kd.V_drewN | apply Kd.V_drew)); exact HO204.out) gb215 (Nat.le_of_eq hg.symm)) hb); have n2_ := Aside0.mk (Kd.V_below (Kd.V_elderB (by (with_reducible repeat (first | apply Kd.V_alloc | apply Kd.V_drewN | apply Kd.V_drew)); exact HO208.out) gb215 (Nat.le_of_eq hg.symm)) hb); have n3_ := Aside0.mk (Kd.V_below (Kd.V_elderB (by (with_reducible repeat (first | apply Kd.V_alloc | apply Kd.V_drewN | apply Kd.V_drew)); exact HO213.out) gb215 (Nat.le_of_eq hg.symm)) hb); have n4_ := Aside0.mk (below_step (by repeat (first | (with_reducible first | exact HB.out | apply below_alloc | apply pw_below_drewN | apply below_drew1) | exact HB.out)) hb); have n5_ := Aside0.mk (hbox); have n6_ := Aside0.mk ((by rw [hg]; exact (below_size (by repeat (first | (with_reducible first | exact HB.out | apply below_alloc | apply pw_below_drewN | apply below_drew1) | exact HB.out))) : w.heap.size ≤ gb215)); have n7_ := Aside0.mk ((by rw [hg]; exact (below_size (by repeat (first | (with_reducible first | exact HB.out | apply below_alloc | apply pw_below_drewN | apply below_drew1) | exact HB.out))) : w.heap.size ≤ gb215)); clear HO200; clear HO204; clear HO208; clear HO213; clear HB; have HO200 := n0_; have HO204 := n1_; have HO208 := n2_; have HO213 := n3_; have HB := n4_; have BK215 := n5_; have GW215 := n6_; have GE215 := n7_; clear n0_ n1_ n2_ n3_ n4_ n5_ n6_ n7_; clear hb hbox hg; have hcz52_0 : w51.cell? ⟨gb215, 0, none⟩ = some (.int .i64 0) := (blk_cell BK215.out 0).trans rfl; have hcz52_1 : w51.cell? ⟨gb215, 1, none⟩ = some (.bool false) := (blk_cell BK215.out 1).trans rfl; have hcz52_2 : w51.cell? ⟨gb215, 2, none⟩ = some (.slice none 0 0) := (blk_cell BK215.out 2).trans rfl; have hfz52_0 := blk_frozen BK215.out 0; have hfz52_1 := blk_frozen BK215.out 1; have hfz52_2 := blk_frozen BK215.out 2; obtain ⟨Ao53, co53, eo53⟩ := Kd.V_slice HO213.out; subst eo53))
      go_ret
      exact ⟨by first | rfl | (simp [errW_none, errW_some] <;> rfl) | (simp [*, errW_none, errW_some] <;> rfl), by repeat (first | (with_reducible first | exact HB.out | apply below_alloc | apply pw_below_drewN | apply below_drew1 | refine below_set ?_ GE215.out) | exact HB.out)⟩
  · replace c4 := Bool.eq_false_iff.mpr c4
    subst c4
    have H1 : (some false) = some r := by rw [if_neg (show ¬ (false = true) by decide)] at H; exact H
    clear H
    have H := H1
    clear H1
    obtain rfl := Option.some.inj H
    go_enter Try.func23, Try.ntmps23
    go_wp2_with (first | ((with_reducible refine gate_callee (f := 25) rfl ?_); refine goesL_ (some 10) rfl rfl Try.func25 (by kernel_rfl) rfl #[.slice none 0 0, .agg #[.int .i64 1, .bool false, .slice none 0 0]] rfl (by (try simp only [List.map_toArray, List.map_cons, List.map_nil]); first | done | rfl | (simp only [List.length_drop, List.length_take]; rfl)) ?_; (refine (wires_Send.calls _ _ ([] : List (S54)) 1 false _ _ ([] : List Int) t198 false _ ?side1 ?side2 ?side3 ?side4 A1.out).mono ?_); (case side1 => exact Kd.C_nil _ _); (case side2 => exact Nat.le_refl _); (case side3 => exact Kd.C_nil _ _); (case side4 => exact Nat.le_refl _); rintro e w54 ⟨v199, rfl, ho0, hb⟩; refine ⟨_, rfl, ?_⟩; have n0_ := Aside0.mk (Kd.V_lower (Kd.V_mono (ok' := fun k_ => True) ho0 (fun k_ hk_ => trivial)) (below_size (by repeat (first | (with_reducible first | exact HB.out | apply below_alloc | apply pw_below_drewN | apply below_drew1) | exact HB.out)))); have n1_ := Aside0.mk (below_step (by repeat (first | (with_reducible first | exact HB.out | apply below_alloc | apply pw_below_drewN | apply below_drew1) | exact HB.out)) hb); clear HB; have HO200 := n0_; have HB := n1_; clear n0_ n1_; (try clear hb); (try clear hb2); (try clear hk); (try clear hi); (try clear ho0); obtain ⟨Ao55, co55, eo55⟩ := Kd.V_slice HO200.out; subst eo55) | ((with_reducible refine gate_callee (f := 25) rfl ?_); refine goesL_ (some 16) rfl rfl Try.func25 (by kernel_rfl) rfl #[.slice Ao55 t198.length co55, .agg #[.int .i64 2, .bool false, .slice none 0 0]] rfl (by (try simp only [List.map_toArray, List.map_cons, List.map_nil]); first | done | rfl | (simp only [List.length_drop, List.length_take]; rfl)) ?_; (refine (wires_Send.calls _ _ t198 2 false _ _ ([] : List Int) t202 t205 _ ?side1 ?side2 ?side3 ?side4 A2.out).mono ?_); (case side1 => repeat (first | exact (Kd.V_reads' HO200.out).2.2 | (with_reducible refine Kd.C_alloc ?_ _) | (with_reducible refine Kd.C_drewN ?_ _) | (with_reducible refine Kd.C_drew ?_))); (case side2 => exact (Kd.V_reads' HO200.out).2.1); (case side3 => exact Kd.C_nil _ _); (case side4 => exact Nat.le_refl _); rintro e w56 ⟨v203, rfl, ho0, hb⟩; refine ⟨_, rfl, ?_⟩; have n0_ := Aside0.mk (Kd.V_below (by (with_reducible repeat (first | apply Kd.V_alloc | apply Kd.V_drewN | apply Kd.V_drew)); exact HO200.out) hb); have n1_ := Aside0.mk (Kd.V_lower (Kd.V_mono (ok' := fun k_ => True) ho0 (fun k_ hk_ => trivial)) (below_size (by repeat (first | (with_reducible first | exact HB.out | apply below_alloc | apply pw_below_drewN | apply below_drew1) | exact HB.out)))); have n2_ := Aside0.mk (below_step (by repeat (first | (with_reducible first | exact HB.out | apply below_alloc | apply pw_below_drewN | apply below_drew1) | exact HB.out)) hb); clear HO200; clear HB; have HO200 := n0_; have HO204 := n1_; have HB := n2_; clear n0_ n1_ n2_; (try clear hb); (try clear hb2); (try clear hk); (try clear hi); (try clear ho0); obtain ⟨Ao57, co57, eo57⟩ := Kd.V_slice HO204.out; subst eo57) | ((with_reducible refine gate_callee (f := 28) rfl ?_); refine goesL_ (some 21) rfl rfl Try.func28 (by kernel_rfl) rfl #[.slice Ao57 t202.length co57, .int .i64 1, .int .i64 0] rfl (by (try simp only [List.map_toArray, List.map_cons, List.map_nil]); first | done | rfl | (simp only [List.length_drop, List.length_take]; rfl)) ?_; (with_reducible refine (wires_Fate.calls _ _ t202 1 0 t206 t209 t210 t211 t214 _ ?side1 ?side2 A3.out).mono ?_); (case side1 => repeat (first | exact (Kd.V_reads' HO204.out).2.2 | (with_reducible refine Kd.C_alloc ?_ _) | (with_reducible refine Kd.C_drewN ?_ _) | (with_reducible refine Kd.C_drew ?_))); (case side2 => exact (Kd.V_reads' HO204.out).2.1); rintro e w58 ⟨v207, v212, rfl, ho0, ho1, hb⟩; refine ⟨_, rfl, ?_⟩; have n0_ := Aside0.mk (Kd.V_below (by (with_reducible repeat (first | apply Kd.V_alloc | apply Kd.V_drewN | apply Kd.V_drew)); exact HO200.out) hb); have n1_ := Aside0.mk (Kd.V_below (by (with_reducible repeat (first | apply Kd.V_alloc | apply Kd.V_drewN | apply Kd.V_drew)); exact HO204.out) hb); have n2_ := Aside0.mk (Kd.V_lower (Kd.V_mono (ok' := fun k_ => True) ho0 (fun k_ hk_ => trivial)) (below_size (by repeat (first | (with_reducible first | exact HB.out | apply below_alloc | apply pw_below_drewN | apply below_drew1) | exact HB.out)))); have n3_ := Aside0.mk (Kd.V_lower (Kd.V_mono (ok' := fun k_ => True) ho1 (fun k_ hk_ => trivial)) (below_size (by repeat (first | (with_reducible first | exact HB.out | apply below_alloc | apply pw_below_drewN | apply below_drew1) | exact HB.out)))); have n4_ := Aside0.mk (below_step (by repeat (first | (with_reducible first | exact HB.out | apply below_alloc | apply pw_below_drewN | apply below_drew1) | exact HB.out)) hb); clear HO200; clear HO204; clear HB; have HO200 := n0_; have HO204 := n1_; have HO208 := n2_; have HO213 := n3_; have HB := n4_; clear n0_ n1_ n2_ n3_ n4_; (try clear hb); (try clear hb2); (try clear hk); (try clear hi); (try clear ho0); (try clear ho1)) | ((with_reducible refine gate_dst (N := 6) rfl ?_); (try (refine gate_guard (by rfl) ?_; dsimp only)); refine box_event ?hg (N := 6) ?hd (cs := #[.int .i64 0, .bool false, .slice none 0 0]) (t := 54) ?hr ?_; (case hd => rfl); (case hg => rfl); (case hr => first | (go_simp; done) | (go_simp; rfl)); intro gb215 hg w59 hbox hb; have n0_ := Aside0.mk (Kd.V_below (Kd.V_elderB (by (with_reducible repeat (first | apply Kd.V_alloc | apply Kd.V_drewN | apply Kd.V_drew)); exact HO200.out) gb215 (Nat.le_of_eq hg.symm)) hb); have n1_ := Aside0.mk (Kd.V_below (Kd.V_elderB (by (with_reducible repeat (first | apply Kd.V_alloc | apply Kd.V_drewN | apply Kd.V_drew)); exact HO204.out) gb215 (Nat.le_of_eq hg.symm)) hb); have n2_ := Aside0.mk (Kd.V_below (Kd.V_elderB (by (with_reducible repeat (first | apply Kd.V_alloc | apply Kd.V_drewN | apply Kd.V_drew)); exact HO208.out) gb215 (Nat.le_of_eq hg.symm)) hb); have n3_ := Aside0.mk (Kd.V_below (Kd.V_elderB (by (with_reducible repeat (first | apply Kd.V_alloc | apply Kd.V_drewN | apply Kd.V_drew)); exact HO213.out) gb215 (Nat.le_of_eq hg.symm)) hb); have n4_ := Aside0.mk (below_step (by repeat (first | (with_reducible first | exact HB.out | apply below_alloc | apply pw_below_drewN | apply below_drew1) | exact HB.out)) hb); have n5_ := Aside0.mk (hbox); have n6_ := Aside0.mk ((by rw [hg]; exact (below_size (by repeat (first | (with_reducible first | exact HB.out | apply below_alloc | apply pw_below_drewN | apply below_drew1) | exact HB.out))) : w.heap.size ≤ gb215)); have n7_ := Aside0.mk ((by rw [hg]; exact (below_size (by repeat (first | (with_reducible first | exact HB.out | apply below_alloc | apply pw_below_drewN | apply below_drew1) | exact HB.out))) : w.heap.size ≤ gb215)); clear HO200; clear HO204; clear HO208; clear HO213; clear HB; have HO200 := n0_; have HO204 := n1_; have HO208 := n2_; have HO213 := n3_; have HB := n4_; have BK215 := n5_; have GW215 := n6_; have GE215 := n7_; clear n0_ n1_ n2_ n3_ n4_ n5_ n6_ n7_; clear hb hbox hg; have hcz60_0 : w59.cell? ⟨gb215, 0, none⟩ = some (.int .i64 0) := (blk_cell BK215.out 0).trans rfl; have hcz60_1 : w59.cell? ⟨gb215, 1, none⟩ = some (.bool false) := (blk_cell BK215.out 1).trans rfl; have hcz60_2 : w59.cell? ⟨gb215, 2, none⟩ = some (.slice none 0 0) := (blk_cell BK215.out 2).trans rfl; have hfz60_0 := blk_frozen BK215.out 0; have hfz60_1 := blk_frozen BK215.out 1; have hfz60_2 := blk_frozen BK215.out 2; obtain ⟨Ao61, co61, eo61⟩ := Kd.V_slice HO213.out; subst eo61))
    go_ret
    exact ⟨by first | rfl | (simp [errW_none, errW_some] <;> rfl) | (simp [*, errW_none, errW_some] <;> rfl), by repeat (first | (with_reducible first | exact HB.out | apply below_alloc | apply pw_below_drewN | apply below_drew1 | refine below_set ?_ GE215.out) | exact HB.out)⟩

/-! ### wayfinderlaw14_Few: function 24 -/
def wayfinderlaw14_Few.l0 : Nat → List (S54) → Int → Option (Bool)
  | 0, _, _ => none
  | k + 1, x0, x3 => if x3 < (x0.length : Int) then (if 0 ≤ x3 then (if (((rd_T54 x0 x3).f2).length : Int) > 300 then (some false) else (wayfinderlaw14_Few.l0 k x0 (wrap64 (x3 + 1)))) else (none)) else (some true)
def wayfinderlaw14_Few.f (k : Nat) (l0 : List (S54)) : Option (Bool) := if (l0.length : Int) > 100 then (some false) else (wayfinderlaw14_Few.l0 k l0 0)
theorem wayfinderlaw14_Few.mono_l : ∀ k, (∀ y0 y1, LeO (wayfinderlaw14_Few.l0 k y0 y1) (wayfinderlaw14_Few.l0 (k + 1) y0 y1))
  | 0 => fun _ _ r h => by simp [wayfinderlaw14_Few.l0] at h
  | k + 1 => by
    have ih0 := wayfinderlaw14_Few.mono_l k
    · intro y0 y1
      unfold wayfinderlaw14_Few.l0
      repeat' first
      | (with_reducible exact ih0 _ _)
      | (with_reducible exact LeO.refl _)
      | (with_reducible exact LeO.none _)
      | (with_reducible refine LeO.ite ?_ ?_)
      | (with_reducible refine LeO.bind ?_ (fun _ => ?_))
      | exact ih0 _ _
      | exact LeO.none _
      | refine LeO.ite ?_ ?_
      | refine LeO.bind ?_ (fun _ => ?_)
theorem wayfinderlaw14_Few.mono : ∀ a0 k, LeO (wayfinderlaw14_Few.f k a0) (wayfinderlaw14_Few.f (k + 1) a0) := by
  intro a0 k
  have ih0 := wayfinderlaw14_Few.mono_l k
  unfold wayfinderlaw14_Few.f
  repeat' first
      | (with_reducible exact ih0 _ _)
      | (with_reducible exact LeO.refl _)
      | (with_reducible exact LeO.none _)
      | (with_reducible refine LeO.ite ?_ ?_)
      | (with_reducible refine LeO.bind ?_ (fun _ => ?_))
      | exact ih0 _ _
      | exact LeO.none _
      | refine LeO.ite ?_ ?_
      | refine LeO.bind ?_ (fun _ => ?_)
set_option maxHeartbeats 8000000 in
set_option maxRecDepth 100000 in
theorem wayfinderlaw14_Few.calls (k : Nat) (A0 : Option Addr) (c0 : Nat) (l0 : List (S54)) (r : Bool) (w : World) (hr0 : Kd.C k54 w A0 l0.length l0) (hc0 : l0.length ≤ c0) (h : wayfinderlaw14_Few.f k l0 = some r) :
    Calls Try.prog 24 #[.slice A0 l0.length c0] w fun e w' => e = .returned (.bool r) ∧ Drawn0 w w' := by
  have HR0 := Aside0.mk hr0
  have HC0 := Aside0.mk hc0
  clear hr0 hc0
  have H : (if (l0.length : Int) > 100 then (some false) else (wayfinderlaw14_Few.l0 k l0 0)) = some r := h
  clear h
  by_cases c2 : (l0.length : Int) > 100
  · rw [if_pos c2] at H
    have c2b0 : decide (100 < (l0.length : Int)) = true := decide_eq_true c2
    have c2b1 : decide (100 < l0.length) = true := decide_eq_true (by omega)
    clear c2
    obtain rfl := Option.some.inj H
    go_enter Try.func24, Try.ntmps24
    go_wp2
    go_ret
    exact ⟨by first | rfl | (simp; done) | (simp [*]; done), by repeat (first | exact Drawn0.refl _ | apply Drawn0.step)⟩
  · rw [if_neg c2] at H
    have c2b0 : decide (100 < (l0.length : Int)) = false := decide_eq_false c2
    have c2b1 : decide (100 < l0.length) = false := decide_eq_false (by omega)
    clear c2
    have H' := Aside0.mk H
    clear H
    go_enter Try.func24, Try.ntmps24
    go_wp2
    go_loopg [3] k (fun kq v3 w' => ∃ (x3_1 : Int), v3 = .int .i64 x3_1 ∧ Aside0 (wayfinderlaw14_Few.l0 kq l0 x3_1 = some r) ∧ Aside0 (kq ≤ k) ∧ Drawn0 w w')
    case atStart => exact ⟨(0), (by first | rfl | (simp; done) | (simp [*]; done)), H', ⟨Nat.le_refl _⟩, by repeat (first | exact Drawn0.refl _ | apply Drawn0.step)⟩
    case round =>
      clear H'
      try clear c2
      try clear c2b0
      try clear c2b1
      try clear p2
      obtain ⟨x3_1, rfl, HA, HK1, ⟨m1, rfl⟩⟩ := hrel
      cases gk with
      | zero => exact absurd HA.out (by simp [wayfinderlaw14_Few.l0])
      | succ k1 =>
        have H := HA.out
        clear HA
        simp only [wayfinderlaw14_Few.l0] at H
        by_cases c3 : x3_1 < (l0.length : Int)
        · rw [if_pos c3] at H
          have c3b0 : decide (x3_1 < (l0.length : Int)) = true := decide_eq_true c3
          clear c3
          by_cases c4 : 0 ≤ x3_1
          · rw [if_pos c4] at H
            have c4b0 : decide (0 ≤ x3_1) = true := decide_eq_true c4
            clear c4
            by_cases c5 : (((rd_T54 l0 x3_1).f2).length : Int) > 300
            · rw [if_pos c5] at H
              have c5b0 : decide (300 < (((rd_T54 l0 x3_1).f2).length : Int)) = true := decide_eq_true c5
              have c5b1 : decide (300 < ((rd_T54 l0 x3_1).f2).length) = true := decide_eq_true (by omega)
              clear c5
              obtain rfl := Option.some.inj H
              have p217 : 0 ≤ (x3_1 : Int) := of_decide_eq_true (by first | (with_reducible assumption) | assumption)
              have q217 : x3_1 < (l0.length : Int) := of_decide_eq_true (by first | (with_reducible assumption) | assumption)
              obtain ⟨ad217, A217_2, c217_2, e217, hx217_0, hx217_1, hx217_2, hl217_2, hi217_2⟩ := at_T54 HR0.out x3_1 p217 q217
              cases e217
              have HR217_2 := Aside0.mk hi217_2
              have HC217_2 := Aside0.mk hl217_2
              clear hi217_2 hl217_2
              replace p217 := eq_true p217
              replace q217 := eq_true q217
              go_wp2
              go_ret
              exact ⟨by first | rfl | (simp; done) | (simp [*]; done), by repeat (first | exact Drawn0.refl _ | apply Drawn0.step)⟩
            · rw [if_neg c5] at H
              have c5b0 : decide (300 < (((rd_T54 l0 x3_1).f2).length : Int)) = false := decide_eq_false c5
              have c5b1 : decide (300 < ((rd_T54 l0 x3_1).f2).length) = false := decide_eq_false (by omega)
              clear c5
              have H' := Aside0.mk H
              clear H
              have p217 : 0 ≤ (x3_1 : Int) := of_decide_eq_true (by first | (with_reducible assumption) | assumption)
              have q217 : x3_1 < (l0.length : Int) := of_decide_eq_true (by first | (with_reducible assumption) | assumption)
              obtain ⟨ad217, A217_2, c217_2, e217, hx217_0, hx217_1, hx217_2, hl217_2, hi217_2⟩ := at_T54 HR0.out x3_1 p217 q217
              cases e217
              have HR217_2 := Aside0.mk hi217_2
              have HC217_2 := Aside0.mk hl217_2
              clear hi217_2 hl217_2
              replace p217 := eq_true p217
              replace q217 := eq_true q217
              go_wp2
              go_roundg k1
              case measure => have := HK1.out; omega
              case rel => exact ⟨(wrap64 (x3_1 + 1)), (by first | rfl | (simp; done) | (simp [*]; done)), H', ⟨by have := HK1.out; omega⟩, by repeat (first | exact Drawn0.refl _ | apply Drawn0.step)⟩
          · rw [if_neg c4] at H
            exact absurd H (by simp)
        · rw [if_neg c3] at H
          have c3b0 : decide (x3_1 < (l0.length : Int)) = false := decide_eq_false c3
          clear c3
          obtain rfl := Option.some.inj H
          go_wp2
          go_ret
          exact ⟨by first | rfl | (simp; done) | (simp [*]; done), by repeat (first | exact Drawn0.refl _ | apply Drawn0.step)⟩

/-! ### wayfinderref14_Send: function 26 -/
def wayfinderref14_Send.f (l0 : List (S54)) (a1_0 : Int) (a1_1 : Bool) (l1_2 : List Int) : Option ((List (S54)) × Bool) := if (l0.length : Int) ≥ 60 then (some (l0, false)) else (if ([] : List (S54)).length + l0.length < 3518437208883 then ((some (([] : List (S54)) ++ l0 : List (S54))).bind fun y219 => ((some (([(⟨a1_0, a1_1, l1_2⟩ : S54)] : List (S54)) : List (S54))).bind fun y222 => (if y219.length + y222.length < 3518437208883 then (some ((y219 ++ y222), true)) else (none)))) else (none))
set_option maxHeartbeats 8000000 in
set_option maxRecDepth 100000 in
theorem wayfinderref14_Send.calls (P0_ : Nat → Prop) (A0 : Option Addr) (c0 : Nat) (l0 : List (S54)) (a1_0 : Int) (a1_1 : Bool) (P1_2_ : Nat → Prop) (A1_2 : Option Addr) (c1_2 : Nat) (l1_2 : List Int) (r1 : List (S54)) (r2 : Bool) (w : World) (hs0 : Kd.V k54 54 w w.heap.size (fun k_ => P0_ k_) (.slice A0 l0.length c0) l0) (hs1_2 : Kd.V (Kd.int .u8) 5 w w.heap.size (fun k_ => P1_2_ k_) (.slice A1_2 l1_2.length c1_2) l1_2) (h : wayfinderref14_Send.f l0 a1_0 a1_1 l1_2 = some (r1, r2)) :
    Calls Try.prog 26 #[.slice A0 l0.length c0, .agg #[.int .i64 a1_0, .bool a1_1, .slice A1_2 l1_2.length c1_2]] w fun e w' => ∃ v0_ : Value, e = .returned (.tuple #[v0_, .bool r2]) ∧ Kd.V k54 54 w' w.heap.size (fun k_ => ((P0_ k_ ∨ P1_2_ k_) ∨ w.heap.size ≤ k_)) v0_ r1 ∧ Below w.heap.size w w' := by
  have hu54 := Try.underlying54
  have HO0 := Aside0.mk (show Kd.V k54 54 w w.heap.size (fun k_ => ((P0_ k_ ∨ P1_2_ k_) ∨ w.heap.size ≤ k_)) (.slice A0 l0.length c0) l0 from Kd.V_mono hs0 (fun k_ hk => .inl (.inl hk)))
  have HO1_2 := Aside0.mk (show Kd.V (Kd.int .u8) 5 w w.heap.size (fun k_ => ((P0_ k_ ∨ P1_2_ k_) ∨ w.heap.size ≤ k_)) (.slice A1_2 l1_2.length c1_2) l1_2 from Kd.V_mono hs1_2 (fun k_ hk => .inl (.inr hk)))
  have HB := Aside0.mk (Below.refl w.heap.size w)
  have H : (if (l0.length : Int) ≥ 60 then (some (l0, false)) else (if ([] : List (S54)).length + l0.length < 3518437208883 then ((some (([] : List (S54)) ++ l0 : List (S54))).bind fun y219 => ((some (([(⟨a1_0, a1_1, l1_2⟩ : S54)] : List (S54)) : List (S54))).bind fun y222 => (if y219.length + y222.length < 3518437208883 then (some ((y219 ++ y222), true)) else (none)))) else (none))) = some (r1, r2) := h
  clear h
  by_cases c3 : (l0.length : Int) ≥ 60
  · rw [if_pos c3] at H
    have c3b0 : decide (60 ≤ (l0.length : Int)) = true := decide_eq_true c3
    have c3b1 : decide (60 ≤ l0.length) = true := decide_eq_true (by omega)
    clear c3
    simp only [Option.some.injEq, Prod.mk.injEq] at H
    obtain ⟨rfl, rfl⟩ := H
    go_enter Try.func26, Try.ntmps26
    go_wp2_with (first | ((with_reducible refine gate_dst (N := 3) rfl ?_); refine box_event ?hg (N := 3) ?hd (cs := #[.int .i64 a1_0, .bool a1_1, .slice A1_2 l1_2.length c1_2]) (t := 54) ?hr ?_; (case hd => rfl); (case hg => rfl); (case hr => first | (go_simp; done) | (go_simp; rfl)); intro gb218 hg w4 hbox hb; have n0_ := Aside0.mk (Kd.V_below (Kd.V_elderB (by (with_reducible repeat (first | apply Kd.V_alloc | apply Kd.V_drewN | apply Kd.V_drew)); exact HO0.out) gb218 (Nat.le_of_eq hg.symm)) hb); have n1_ := Aside0.mk (Kd.V_below (Kd.V_elderB (by (with_reducible repeat (first | apply Kd.V_alloc | apply Kd.V_drewN | apply Kd.V_drew)); exact HO1_2.out) gb218 (Nat.le_of_eq hg.symm)) hb); have n2_ := Aside0.mk (below_step (by repeat (first | (with_reducible first | exact HB.out | apply below_alloc | apply pw_below_drewN | apply below_drew1) | exact HB.out)) hb); have n3_ := Aside0.mk (hbox); have n4_ := Aside0.mk ((by rw [hg]; exact (below_size (by repeat (first | (with_reducible first | exact HB.out | apply below_alloc | apply pw_below_drewN | apply below_drew1) | exact HB.out))) : w.heap.size ≤ gb218)); have n5_ := Aside0.mk ((by rw [hg]; exact (below_size (by repeat (first | (with_reducible first | exact HB.out | apply below_alloc | apply pw_below_drewN | apply below_drew1) | exact HB.out))) : w.heap.size ≤ gb218)); clear HO0; clear HO1_2; clear HB; have HO0 := n0_; have HO1_2 := n1_; have HB := n2_; have BK218 := n3_; have GW218 := n4_; have GE218 := n5_; clear n0_ n1_ n2_ n3_ n4_ n5_; clear hb hbox hg))
    go_ret2
    exact ⟨_, by first | rfl | (simp [errW_none, errW_some] <;> rfl) | (simp [*, errW_none, errW_some] <;> rfl), by (with_reducible repeat (first | apply Kd.V_alloc | apply Kd.V_drewN | apply Kd.V_drew)); exact Kd.V_mono HO0.out (fun _ hk => hk.1), by repeat (first | (with_reducible first | exact HB.out | apply below_alloc | apply pw_below_drewN | apply below_drew1 | refine below_set ?_ GE218.out) | exact HB.out)⟩
  · rw [if_neg c3] at H
    have c3b0 : decide (60 ≤ (l0.length : Int)) = false := decide_eq_false c3
    have c3b1 : decide (60 ≤ l0.length) = false := decide_eq_false (by omega)
    clear c3
    by_cases c5 : ([] : List (S54)).length + l0.length < 3518437208883
    · rw [if_pos c5] at H
      have LMc5 := Aside0.mk c5
      clear c5
      obtain ⟨y219, hy219⟩ : ∃ y_ : List (S54), y_ = (([] : List (S54)) ++ l0) := ⟨_, rfl⟩
      replace H : ((some (([(⟨a1_0, a1_1, l1_2⟩ : S54)] : List (S54)) : List (S54))).bind fun y222 => (if y219.length + y222.length < 3518437208883 then (some ((y219 ++ y222), true)) else (none))) = some (r1, r2) := by first | (rw [hy219]; with_reducible exact H) | (have H2_ := (Option.bind_some _ _).symm.trans H; rw [hy219]; with_reducible exact H2_) | (have H2_ := (Option.bind_some _ _).symm.trans H; with_reducible exact H2_) | with_reducible exact H | (rw [hy219]; exact H) | exact H
      have Ny219 := Aside0.mk hy219
      clear hy219
      obtain ⟨y222, hy222⟩ : ∃ y_ : List (S54), y_ = (([(⟨a1_0, a1_1, l1_2⟩ : S54)] : List (S54))) := ⟨_, rfl⟩
      replace H : (if y219.length + y222.length < 3518437208883 then (some ((y219 ++ y222), true)) else (none)) = some (r1, r2) := by first | (rw [hy222]; with_reducible exact H) | (have H2_ := (Option.bind_some _ _).symm.trans H; rw [hy222]; with_reducible exact H2_) | (have H2_ := (Option.bind_some _ _).symm.trans H; with_reducible exact H2_) | with_reducible exact H | (rw [hy222]; exact H) | exact H
      have Ny222 := Aside0.mk hy222
      clear hy222
      by_cases c6 : y219.length + y222.length < 3518437208883
      · rw [if_pos c6] at H
        have LMc6 := Aside0.mk c6
        clear c6
        obtain ⟨y225, hy225⟩ : ∃ y_ : List (S54), y_ = (y219 ++ y222) := ⟨_, rfl⟩
        replace H : (some (y225, true)) = some (r1, r2) := by first | (rw [hy225]; with_reducible exact H) | (have H2_ := (Option.bind_some _ _).symm.trans H; rw [hy225]; with_reducible exact H2_) | (have H2_ := (Option.bind_some _ _).symm.trans H; with_reducible exact H2_) | with_reducible exact H | (rw [hy225]; exact H) | exact H
        have Ny225 := Aside0.mk hy225
        clear hy225
        simp only [Option.some.injEq, Prod.mk.injEq] at H
        obtain ⟨rfl, rfl⟩ := H
        go_enter Try.func26, Try.ntmps26
        try go_wp2_with (first | ((with_reducible refine gate_dst (N := 3) rfl ?_); refine box_event ?hg (N := 3) ?hd (cs := #[.int .i64 a1_0, .bool a1_1, .slice A1_2 l1_2.length c1_2]) (t := 54) ?hr ?_; (case hd => rfl); (case hg => rfl); (case hr => first | (go_simp; done) | (go_simp; rfl)); intro gb218 hg w7 hbox hb; have n0_ := Aside0.mk (Kd.V_below (Kd.V_elderB (by (with_reducible repeat (first | apply Kd.V_alloc | apply Kd.V_drewN | apply Kd.V_drew)); exact HO0.out) gb218 (Nat.le_of_eq hg.symm)) hb); have n1_ := Aside0.mk (Kd.V_below (Kd.V_elderB (by (with_reducible repeat (first | apply Kd.V_alloc | apply Kd.V_drewN | apply Kd.V_drew)); exact HO1_2.out) gb218 (Nat.le_of_eq hg.symm)) hb); have n2_ := Aside0.mk (below_step (by repeat (first | (with_reducible first | exact HB.out | apply below_alloc | apply pw_below_drewN | apply below_drew1) | exact HB.out)) hb); have n3_ := Aside0.mk (hbox); have n4_ := Aside0.mk ((by rw [hg]; exact (below_size (by repeat (first | (with_reducible first | exact HB.out | apply below_alloc | apply pw_below_drewN | apply below_drew1) | exact HB.out))) : w.heap.size ≤ gb218)); have n5_ := Aside0.mk ((by rw [hg]; exact (below_size (by repeat (first | (with_reducible first | exact HB.out | apply below_alloc | apply pw_below_drewN | apply below_drew1) | exact HB.out))) : w.heap.size ≤ gb218)); clear HO0; clear HO1_2; clear HB; have HO0 := n0_; have HO1_2 := n1_; have HB := n2_; have BK218 := n3_; have GW218 := n4_; have GE218 := n5_; clear n0_ n1_ n2_ n3_ n4_ n5_; clear hb hbox hg))
        have n0_ := Aside0.mk (Kd.V_drew HO0.out)
        have n1_ := Aside0.mk (Kd.V_drew HO1_2.out)
        have n2_ := Aside0.mk (blk_drew BK218.out)
        have n3_ := Aside0.mk (below_drew1 HB.out)
        clear HO0
        clear HO1_2
        clear BK218
        clear HB
        have HO0 := n0_
        have HO1_2 := n1_
        have BK218 := n2_
        have HB := n3_
        clear n0_ n1_ n2_ n3_
        refine start_ (n := 7) (S := fun w' => w'.cell? ⟨gb218, 0, none⟩ = some (.int .i64 a1_0) ∧ w'.cell? ⟨gb218, 1, none⟩ = some (.bool a1_1) ∧ w'.cell? ⟨gb218, 2, none⟩ = some (.slice A1_2 l1_2.length c1_2)) (ds := []) #[false, false, false, false, false, false, false] (by kernel_rfl) rfl rfl ⟨(blk_cell BK218.out 0).trans rfl, (blk_cell BK218.out 1).trans rfl, (blk_cell BK218.out 2).trans rfl⟩ (fun hHeld => ?_)
        generalize w7.drew = w8 at HO0 HO1_2 BK218 HB hHeld ⊢
        refine pure_ (i := 0) (N := some 10) (v := ?_) (a' := ?_) #[true, false, false, false, false, false, false] rfl rfl (by kernel_rfl) (fun _ _ _ h => h) (Or.inl ⟨by rfl, ?_⟩) ?_ ?_
        rotate_left
        · intro w'
          go_simp
          with_reducible rfl
        rotate_left
        · simp only [Act.put, List.setIfInBounds_toArray, List.set_cons_zero, List.set_cons_succ, i64_w, i32_w]
          rfl
        refine take_ (i := 2) (N := some 12) (v := ?_) (a' := ?_) #[true, false, true, false, false, false, false] rfl rfl (by kernel_rfl) (fun _ _ _ h => h) (Or.inl ⟨by rfl, ?_⟩) hHeld ?_ ?_
        rotate_left
        · rintro w' ⟨s0, s1, s2⟩
          go_simp
          with_reducible rfl
        rotate_left
        · simp only [Act.put, List.setIfInBounds_toArray, List.set_cons_zero, List.set_cons_succ, i64_w, i32_w]
          rfl
        refine join_ (σ := Value × Value) 3 #[true, true, true, true, false, false, false] (fun s_ => [(11, s_.1), (13, s_.2)]) (fun s_ w' => (w'.cell? ⟨gb218, 0, none⟩ = some (.int .i64 a1_0) ∧ w'.cell? ⟨gb218, 1, none⟩ = some (.bool a1_1) ∧ w'.cell? ⟨gb218, 2, none⟩ = some (.slice A1_2 l1_2.length c1_2)) ∧ (Kd.V k54 54 w' w.heap.size (fun k_ => ((P0_ k_ ∨ P1_2_ k_) ∨ w.heap.size ≤ k_) ∧ some k_ ≠ (s_.1 : Value).ownBlock ∧ some k_ ≠ (s_.2 : Value).ownBlock ∧ k_ ≠ gb218) (.slice A0 l0.length c0) l0) ∧ (Kd.V (Kd.int .u8) 5 w' w.heap.size (fun k_ => ((P0_ k_ ∨ P1_2_ k_) ∨ w.heap.size ≤ k_) ∧ some k_ ≠ (s_.1 : Value).ownBlock ∧ some k_ ≠ (s_.2 : Value).ownBlock ∧ k_ ≠ gb218) (.slice A1_2 l1_2.length c1_2) l1_2) ∧ (Kd.N k54 54 w' w.heap.size (fun k_ => ((P0_ k_ ∨ P1_2_ k_) ∨ w.heap.size ≤ k_) ∧ some k_ ≠ (s_.2 : Value).ownBlock ∧ k_ ≠ gb218) s_.1 y219) ∧ (Kd.N k54 54 w' w.heap.size (fun k_ => ((P0_ k_ ∨ P1_2_ k_) ∨ w.heap.size ≤ k_) ∧ some k_ ≠ (s_.1 : Value).ownBlock ∧ k_ ≠ gb218) s_.2 y222) ∧ (w'.heap[gb218]? = some (.cells #[.int .i64 a1_0, .bool a1_1, .slice A1_2 l1_2.length c1_2] 54 (0, 0))) ∧ (Below w.heap.size w w')) ?_ ?_
        rotate_left
        · intro hCont
          refine two_ (i := 1) (j := 3) (Ni := some 11) (Nj := some 13) #[true, true, true, false, false, false, false] #[true, false, true, true, false, false, false] rfl rfl rfl rfl (by kernel_rfl) (by decide) (by decide) (fun K hK => ?_) (fun K hK => ?_)
          · skip
            refine Kd.N_append_rows_step k54 (w0 := w) w.heap.size (by rfl) (.const (.slice none 0 0)) (.tmp 10) 51 54 (.agg #[(.int .i64 0), (.bool false), (.slice none 0 0)]) 40 rfl Try.underlying51 info54 rfl (by decide) (by omega) (.slice none 0 0) ([] : List (S54)) l0 _ _ _ (fun k_ => ((P0_ k_ ∨ P1_2_ k_) ∨ w.heap.size ≤ k_) ∧ k_ ≠ gb218) (fun k_ => ((fun k_ => ((P0_ k_ ∨ P1_2_ k_) ∨ w.heap.size ≤ k_) ∧ k_ ≠ gb218)) k_ ∧ some k_ ≠ (.slice none 0 0 : Value).ownBlock) rfl rfl ?aO ?aR (fun _ hk => hk) ?aF ?aB ?aS ?aL ?_
            (case aR => exact (by skip; exact Kd.V_F (Kd.V_mono (ok' := (fun k_ => ((fun k_ => ((P0_ k_ ∨ P1_2_ k_) ∨ w.heap.size ≤ k_) ∧ k_ ≠ gb218)) k_ ∧ some k_ ≠ (.slice none 0 0 : Value).ownBlock)) (HO0.out) (fun k_ hk => ⟨⟨hk.1, hk.2⟩, (by simp [Value.ownBlock])⟩))))
            (case aB => exact (by repeat (first | (with_reducible first | exact HB.out | apply below_alloc | apply pw_below_drewN | apply below_drew1 | refine below_set ?_ GE218.out) | exact HB.out)))
            (case aF => exact (fun k_ hk => ⟨(.inr (Nat.le_trans (below_size (by repeat (first | (with_reducible first | exact HB.out | apply below_alloc | apply pw_below_drewN | apply below_drew1 | refine below_set ?_ GE218.out) | exact HB.out))) hk)), Kd.freshB (g := gb218) (o := .cells #[.int .i64 a1_0, .bool a1_1, .slice A1_2 l1_2.length c1_2] 54 (0, 0)) (by (with_reducible repeat (first | refine blk_drewN ?_ _ | refine blk_drew ?_ | refine blk_alloc ?_ _)); exact BK218.out) k_ hk⟩))
            (case aO => exact ((Kd.N_nil _ _ _ _ (fun k_ => ((P0_ k_ ∨ P1_2_ k_) ∨ w.heap.size ≤ k_) ∧ k_ ≠ gb218))))
            (case aS => exact (below_size (by repeat (first | (with_reducible first | exact HB.out | apply below_alloc | apply pw_below_drewN | apply below_drew1 | refine below_set ?_ GE218.out) | exact HB.out))))
            (case aL => have := LMc5.out; omega)
            intro v220 w9 ho hb hg hat
            rw [← Ny219.out] at ho
            have n0_ := Aside0.mk (Kd.V_afterv (Kd.V_apart_nil (by (with_reducible repeat (first | apply Kd.V_alloc | apply Kd.V_drewN | apply Kd.V_drew)); exact HO0.out)) hg hat)
            have n1_ := Aside0.mk (Kd.V_afterv (Kd.V_apart_nil (by (with_reducible repeat (first | apply Kd.V_alloc | apply Kd.V_drewN | apply Kd.V_drew)); exact HO1_2.out)) hg hat)
            have n2_ := Aside0.mk (blk_grown (g := gb218) (o := .cells #[.int .i64 a1_0, .bool a1_1, .slice A1_2 l1_2.length c1_2] 54 (0, 0)) (by (with_reducible repeat (first | refine blk_drewN ?_ _ | refine blk_drew ?_ | refine blk_alloc ?_ _)); exact BK218.out) hg (by simp [Value.ownBlock]))
            have n3_ := Aside0.mk (hb)
            have n4_ := Aside0.mk (ho)
            clear HO0
            clear HO1_2
            clear BK218
            clear HB
            have HO0 := n0_
            have HO1_2 := n1_
            have BK218 := n2_
            have HB := n3_
            have HO221 := n4_
            clear n0_ n1_ n2_ n3_ n4_
            clear ho hb hg hat
            refine hK.out _ _ ⟨(blk_cell BK218.out 0).trans rfl, (blk_cell BK218.out 1).trans rfl, (blk_cell BK218.out 2).trans rfl⟩ (fun hHeld => ?_)
            clear hK K
            refine norm_ (a' := ?_) ?_ ?_
            rotate_left
            · show Act.put _ (some 11) _ = _
              simp only [Act.put, List.setIfInBounds_toArray, List.set_cons_zero, List.set_cons_succ, i64_w, i32_w]
              rfl
            refine one_ (i := 3) (N := some 13) #[true, true, true, true, false, false, false] rfl rfl (by kernel_rfl) (by decide) (fun K hK => ?_)
            refine Kd.N_lit_step k54 _ 54 ?hg (N' := 13) ?hd (xs := ([(⟨a1_0, a1_1, l1_2⟩ : S54)] : List (S54))) (inner := [.int .i64 a1_0, .bool a1_1, .slice A1_2 l1_2.length c1_2]) (ok := (fun k_ => ((P0_ k_ ∨ P1_2_ k_) ∨ w.heap.size ≤ k_) ∧ some k_ ≠ (v220 : Value).ownBlock ∧ k_ ≠ gb218)) (okp := (fun k_ => ((P0_ k_ ∨ P1_2_ k_) ∨ w.heap.size ≤ k_) ∧ some k_ ≠ (v220 : Value).ownBlock ∧ k_ ≠ gb218)) ?hr ?hp (fun _ hk => hk) ((show ∀ k_, w9.heap.size ≤ k_ → (fun k_ => ((P0_ k_ ∨ P1_2_ k_) ∨ w.heap.size ≤ k_) ∧ some k_ ≠ (v220 : Value).ownBlock ∧ k_ ≠ gb218) k_ from fun k_ hk => ⟨(.inr (Nat.le_trans (below_size (by repeat (first | (with_reducible first | exact HB.out | apply below_alloc | apply pw_below_drewN | apply below_drew1 | refine below_set ?_ GE218.out) | exact HB.out))) hk)), Kd.fresh' (Kd.N_lt (by (with_reducible repeat (first | apply Kd.N_alloc | apply Kd.N_drewN | apply Kd.N_drew)); exact HO221.out)) k_ hk, Kd.freshB (g := gb218) (o := .cells #[.int .i64 a1_0, .bool a1_1, .slice A1_2 l1_2.length c1_2] 54 (0, 0)) (by (with_reducible repeat (first | refine blk_drewN ?_ _ | refine blk_drew ?_ | refine blk_alloc ?_ _)); exact BK218.out) k_ hk⟩) _ (Nat.le_refl _)) (Below.refl _ _) (Nat.le_refl _) (by simp) ?_; (case hd => rfl); (case hg => rfl); (case hr => first | (go_simp; done) | (go_simp; rfl)); (case hp => exact (Reps.c3 (show Kd.FK k54 _ _ (⟨a1_0, a1_1, l1_2⟩ : S54) [.int .i64 a1_0, .bool a1_1, .slice A1_2 l1_2.length c1_2] from (k54_mkF _ _ (⟨a1_0, a1_1, l1_2⟩ : S54) (Kd.V_reads' (Kd.V_mono (ok' := (fun k_ => ((P0_ k_ ∨ P1_2_ k_) ∨ w.heap.size ≤ k_) ∧ some k_ ≠ (v220 : Value).ownBlock ∧ k_ ≠ gb218)) (HO1_2.out) (fun k_ hk => ⟨hk.1.1, ⟨hk.2, hk.1.2⟩⟩))).2.1 (Kd.V_F (Kd.V_mono (ok' := (fun k_ => ((P0_ k_ ∨ P1_2_ k_) ∨ w.heap.size ≤ k_) ∧ some k_ ≠ (v220 : Value).ownBlock ∧ k_ ≠ gb218)) (HO1_2.out) (fun k_ hk => ⟨hk.1.1, ⟨hk.2, hk.1.2⟩⟩))))) (Reps.none _ _)))
            intro v223 w10 ho11 hb hg_ hnew_
            clear hg_ hnew_
            (first | rw [← Ny222.out] at ho11 | (simp only [Int.reduceToNat] at ho11; rw [← Ny222.out] at ho11))
            have n0_ := Aside0.mk (Kd.V_elder' (by (with_reducible repeat (first | apply Kd.V_alloc | apply Kd.V_drewN | apply Kd.V_drew)); exact HO0.out) (Kd.N_base ho11) hb)
            have n1_ := Aside0.mk (Kd.V_elder' (by (with_reducible repeat (first | apply Kd.V_alloc | apply Kd.V_drewN | apply Kd.V_drew)); exact HO1_2.out) (Kd.N_base ho11) hb)
            have n2_ := Aside0.mk (Kd.N_elder' (by (with_reducible repeat (first | apply Kd.N_alloc | apply Kd.N_drewN | apply Kd.N_drew)); exact HO221.out) (Kd.N_base ho11) hb)
            have n3_ := Aside0.mk (Kd.N_lower ho11 (below_size (by repeat (first | (with_reducible first | exact HB.out | apply below_alloc | apply pw_below_drewN | apply below_drew1 | refine below_set ?_ GE218.out) | exact HB.out))))
            have n4_ := Aside0.mk (blk_below (g := gb218) (o := .cells #[.int .i64 a1_0, .bool a1_1, .slice A1_2 l1_2.length c1_2] 54 (0, 0)) (by (with_reducible repeat (first | refine blk_drewN ?_ _ | refine blk_drew ?_ | refine blk_alloc ?_ _)); exact BK218.out) hb)
            have n5_ := Aside0.mk (below_step (by repeat (first | (with_reducible first | exact HB.out | apply below_alloc | apply pw_below_drewN | apply below_drew1 | refine below_set ?_ GE218.out) | exact HB.out)) hb)
            clear HO0
            clear HO1_2
            clear HO221
            clear BK218
            clear HB
            have HO0 := n0_
            have HO1_2 := n1_
            have HO221 := n2_
            have HO224 := n3_
            have BK218 := n4_
            have HB := n5_
            clear n0_ n1_ n2_ n3_ n4_ n5_
            clear hb ho11
            refine hK.out _ _ ⟨(blk_cell BK218.out 0).trans rfl, (blk_cell BK218.out 1).trans rfl, (blk_cell BK218.out 2).trans rfl⟩ (fun hHeld => ?_)
            clear hK K
            refine norm_ (a' := ?_) ?_ ?_
            rotate_left
            · show Act.put _ (some 13) _ = _
              simp only [Act.put, List.setIfInBounds_toArray, List.set_cons_zero, List.set_cons_succ, i64_w, i32_w]
              rfl
            exact norm_ (by simp only [putAll, Act.put, List.setIfInBounds_toArray, List.set_cons_zero, List.set_cons_succ]) (hCont (v220, v223) _ ⟨hHeld, (by (with_reducible repeat (first | apply Kd.V_alloc | apply Kd.V_drewN | apply Kd.V_drew)); exact Kd.V_mono HO0.out (fun _ hk => ⟨hk.1.1.1, ⟨hk.1.2, ⟨hk.2, hk.1.1.2⟩⟩⟩)), (by (with_reducible repeat (first | apply Kd.V_alloc | apply Kd.V_drewN | apply Kd.V_drew)); exact Kd.V_mono HO1_2.out (fun _ hk => ⟨hk.1.1.1, ⟨hk.1.2, ⟨hk.2, hk.1.1.2⟩⟩⟩)), (by (with_reducible repeat (first | apply Kd.N_alloc | apply Kd.N_drewN | apply Kd.N_drew)); exact Kd.N_mono HO221.out (fun _ hk => ⟨hk.1.1, ⟨hk.2, hk.1.2⟩⟩)), (by (with_reducible repeat (first | apply Kd.N_alloc | apply Kd.N_drewN | apply Kd.N_drew)); exact HO224.out), (by (with_reducible repeat (first | refine blk_drewN ?_ _ | refine blk_drew ?_ | refine blk_alloc ?_ _)); exact BK218.out), (by repeat (first | (with_reducible first | exact HB.out | apply below_alloc | apply pw_below_drewN | apply below_drew1 | refine below_set ?_ GE218.out) | exact HB.out))⟩)
          · skip
            refine Kd.N_lit_step k54 _ 54 ?hg (N' := 13) ?hd (xs := ([(⟨a1_0, a1_1, l1_2⟩ : S54)] : List (S54))) (inner := [.int .i64 a1_0, .bool a1_1, .slice A1_2 l1_2.length c1_2]) (ok := (fun k_ => ((P0_ k_ ∨ P1_2_ k_) ∨ w.heap.size ≤ k_) ∧ k_ ≠ gb218)) (okp := (fun k_ => ((P0_ k_ ∨ P1_2_ k_) ∨ w.heap.size ≤ k_) ∧ k_ ≠ gb218)) ?hr ?hp (fun _ hk => hk) ((show ∀ k_, w8.heap.size ≤ k_ → (fun k_ => ((P0_ k_ ∨ P1_2_ k_) ∨ w.heap.size ≤ k_) ∧ k_ ≠ gb218) k_ from fun k_ hk => ⟨(.inr (Nat.le_trans (below_size (by repeat (first | (with_reducible first | exact HB.out | apply below_alloc | apply pw_below_drewN | apply below_drew1 | refine below_set ?_ GE218.out) | exact HB.out))) hk)), Kd.freshB (g := gb218) (o := .cells #[.int .i64 a1_0, .bool a1_1, .slice A1_2 l1_2.length c1_2] 54 (0, 0)) (by (with_reducible repeat (first | refine blk_drewN ?_ _ | refine blk_drew ?_ | refine blk_alloc ?_ _)); exact BK218.out) k_ hk⟩) _ (Nat.le_refl _)) (Below.refl _ _) (Nat.le_refl _) (by simp) ?_; (case hd => rfl); (case hg => rfl); (case hr => first | (go_simp; done) | (go_simp; rfl)); (case hp => exact (Reps.c3 (show Kd.FK k54 _ _ (⟨a1_0, a1_1, l1_2⟩ : S54) [.int .i64 a1_0, .bool a1_1, .slice A1_2 l1_2.length c1_2] from (k54_mkF _ _ (⟨a1_0, a1_1, l1_2⟩ : S54) (Kd.V_reads' (Kd.V_mono (ok' := (fun k_ => ((P0_ k_ ∨ P1_2_ k_) ∨ w.heap.size ≤ k_) ∧ k_ ≠ gb218)) (HO1_2.out) (fun k_ hk => ⟨hk.1, hk.2⟩))).2.1 (Kd.V_F (Kd.V_mono (ok' := (fun k_ => ((P0_ k_ ∨ P1_2_ k_) ∨ w.heap.size ≤ k_) ∧ k_ ≠ gb218)) (HO1_2.out) (fun k_ hk => ⟨hk.1, hk.2⟩))))) (Reps.none _ _)))
            intro v223 w9 ho10 hb hg_ hnew_
            clear hg_ hnew_
            (first | rw [← Ny222.out] at ho10 | (simp only [Int.reduceToNat] at ho10; rw [← Ny222.out] at ho10))
            have n0_ := Aside0.mk (Kd.V_elder' (by (with_reducible repeat (first | apply Kd.V_alloc | apply Kd.V_drewN | apply Kd.V_drew)); exact HO0.out) (Kd.N_base ho10) hb)
            have n1_ := Aside0.mk (Kd.V_elder' (by (with_reducible repeat (first | apply Kd.V_alloc | apply Kd.V_drewN | apply Kd.V_drew)); exact HO1_2.out) (Kd.N_base ho10) hb)
            have n2_ := Aside0.mk (Kd.N_lower ho10 (below_size (by repeat (first | (with_reducible first | exact HB.out | apply below_alloc | apply pw_below_drewN | apply below_drew1 | refine below_set ?_ GE218.out) | exact HB.out))))
            have n3_ := Aside0.mk (blk_below (g := gb218) (o := .cells #[.int .i64 a1_0, .bool a1_1, .slice A1_2 l1_2.length c1_2] 54 (0, 0)) (by (with_reducible repeat (first | refine blk_drewN ?_ _ | refine blk_drew ?_ | refine blk_alloc ?_ _)); exact BK218.out) hb)
            have n4_ := Aside0.mk (below_step (by repeat (first | (with_reducible first | exact HB.out | apply below_alloc | apply pw_below_drewN | apply below_drew1 | refine below_set ?_ GE218.out) | exact HB.out)) hb)
            clear HO0
            clear HO1_2
            clear BK218
            clear HB
            have HO0 := n0_
            have HO1_2 := n1_
            have HO224 := n2_
            have BK218 := n3_
            have HB := n4_
            clear n0_ n1_ n2_ n3_ n4_
            clear hb ho10
            refine hK.out _ _ ⟨(blk_cell BK218.out 0).trans rfl, (blk_cell BK218.out 1).trans rfl, (blk_cell BK218.out 2).trans rfl⟩ (fun hHeld => ?_)
            clear hK K
            refine norm_ (a' := ?_) ?_ ?_
            rotate_left
            · show Act.put _ (some 13) _ = _
              simp only [Act.put, List.setIfInBounds_toArray, List.set_cons_zero, List.set_cons_succ, i64_w, i32_w]
              rfl
            refine one_ (i := 1) (N := some 11) #[true, true, true, true, false, false, false] rfl rfl (by kernel_rfl) (by decide) (fun K hK => ?_)
            refine Kd.N_append_rows_step k54 (w0 := w) w.heap.size (by rfl) (.const (.slice none 0 0)) (.tmp 10) 51 54 (.agg #[(.int .i64 0), (.bool false), (.slice none 0 0)]) 40 rfl Try.underlying51 info54 rfl (by decide) (by omega) (.slice none 0 0) ([] : List (S54)) l0 _ _ _ (fun k_ => ((P0_ k_ ∨ P1_2_ k_) ∨ w.heap.size ≤ k_) ∧ some k_ ≠ (v223 : Value).ownBlock ∧ k_ ≠ gb218) (fun k_ => ((fun k_ => ((P0_ k_ ∨ P1_2_ k_) ∨ w.heap.size ≤ k_) ∧ some k_ ≠ (v223 : Value).ownBlock ∧ k_ ≠ gb218)) k_ ∧ some k_ ≠ (.slice none 0 0 : Value).ownBlock) rfl rfl ?aO ?aR (fun _ hk => hk) ?aF ?aB ?aS ?aL ?_
            (case aR => exact (by skip; exact Kd.V_F (Kd.V_mono (ok' := (fun k_ => ((fun k_ => ((P0_ k_ ∨ P1_2_ k_) ∨ w.heap.size ≤ k_) ∧ some k_ ≠ (v223 : Value).ownBlock ∧ k_ ≠ gb218)) k_ ∧ some k_ ≠ (.slice none 0 0 : Value).ownBlock)) (HO0.out) (fun k_ hk => ⟨⟨hk.1.1, ⟨hk.2, hk.1.2⟩⟩, (by simp [Value.ownBlock])⟩))))
            (case aB => exact (by repeat (first | (with_reducible first | exact HB.out | apply below_alloc | apply pw_below_drewN | apply below_drew1 | refine below_set ?_ GE218.out) | exact HB.out)))
            (case aF => exact (fun k_ hk => ⟨(.inr (Nat.le_trans (below_size (by repeat (first | (with_reducible first | exact HB.out | apply below_alloc | apply pw_below_drewN | apply below_drew1 | refine below_set ?_ GE218.out) | exact HB.out))) hk)), Kd.fresh' (Kd.N_lt (by (with_reducible repeat (first | apply Kd.N_alloc | apply Kd.N_drewN | apply Kd.N_drew)); exact HO224.out)) k_ hk, Kd.freshB (g := gb218) (o := .cells #[.int .i64 a1_0, .bool a1_1, .slice A1_2 l1_2.length c1_2] 54 (0, 0)) (by (with_reducible repeat (first | refine blk_drewN ?_ _ | refine blk_drew ?_ | refine blk_alloc ?_ _)); exact BK218.out) k_ hk⟩))
            (case aO => exact ((Kd.N_nil _ _ _ _ (fun k_ => ((P0_ k_ ∨ P1_2_ k_) ∨ w.heap.size ≤ k_) ∧ some k_ ≠ (v223 : Value).ownBlock ∧ k_ ≠ gb218))))
            (case aS => exact (below_size (by repeat (first | (with_reducible first | exact HB.out | apply below_alloc | apply pw_below_drewN | apply below_drew1 | refine below_set ?_ GE218.out) | exact HB.out))))
            (case aL => have := LMc5.out; omega)
            intro v220 w11 ho hb hg hat
            rw [← Ny219.out] at ho
            have n0_ := Aside0.mk (Kd.V_afterv (Kd.V_apart_nil (by (with_reducible repeat (first | apply Kd.V_alloc | apply Kd.V_drewN | apply Kd.V_drew)); exact HO0.out)) hg hat)
            have n1_ := Aside0.mk (Kd.V_afterv (Kd.V_apart_nil (by (with_reducible repeat (first | apply Kd.V_alloc | apply Kd.V_drewN | apply Kd.V_drew)); exact HO1_2.out)) hg hat)
            have n2_ := Aside0.mk (blk_grown (g := gb218) (o := .cells #[.int .i64 a1_0, .bool a1_1, .slice A1_2 l1_2.length c1_2] 54 (0, 0)) (by (with_reducible repeat (first | refine blk_drewN ?_ _ | refine blk_drew ?_ | refine blk_alloc ?_ _)); exact BK218.out) hg (by simp [Value.ownBlock]))
            have n3_ := Aside0.mk (Kd.N_afterv (Kd.N_apart_nil (by (with_reducible repeat (first | apply Kd.N_alloc | apply Kd.N_drewN | apply Kd.N_drew)); exact HO224.out)) hg hat)
            have n4_ := Aside0.mk (hb)
            have n5_ := Aside0.mk (ho)
            clear HO0
            clear HO1_2
            clear BK218
            clear HO224
            clear HB
            have HO0 := n0_
            have HO1_2 := n1_
            have BK218 := n2_
            have HO224 := n3_
            have HB := n4_
            have HO221 := n5_
            clear n0_ n1_ n2_ n3_ n4_ n5_
            clear ho hb hg hat
            refine hK.out _ _ ⟨(blk_cell BK218.out 0).trans rfl, (blk_cell BK218.out 1).trans rfl, (blk_cell BK218.out 2).trans rfl⟩ (fun hHeld => ?_)
            clear hK K
            refine norm_ (a' := ?_) ?_ ?_
            rotate_left
            · show Act.put _ (some 11) _ = _
              simp only [Act.put, List.setIfInBounds_toArray, List.set_cons_zero, List.set_cons_succ, i64_w, i32_w]
              rfl
            exact norm_ (by simp only [putAll, Act.put, List.setIfInBounds_toArray, List.set_cons_zero, List.set_cons_succ]) (hCont (v220, v223) _ ⟨hHeld, (by (with_reducible repeat (first | apply Kd.V_alloc | apply Kd.V_drewN | apply Kd.V_drew)); exact Kd.V_mono HO0.out (fun _ hk => ⟨hk.1.1.1, ⟨hk.2, ⟨hk.1.2, hk.1.1.2⟩⟩⟩)), (by (with_reducible repeat (first | apply Kd.V_alloc | apply Kd.V_drewN | apply Kd.V_drew)); exact Kd.V_mono HO1_2.out (fun _ hk => ⟨hk.1.1.1, ⟨hk.2, ⟨hk.1.2, hk.1.1.2⟩⟩⟩)), (by (with_reducible repeat (first | apply Kd.N_alloc | apply Kd.N_drewN | apply Kd.N_drew)); exact HO221.out), (by (with_reducible repeat (first | apply Kd.N_alloc | apply Kd.N_drewN | apply Kd.N_drew)); exact Kd.N_mono HO224.out (fun _ hk => ⟨hk.1.1, ⟨hk.2, hk.1.2⟩⟩)), (by (with_reducible repeat (first | refine blk_drewN ?_ _ | refine blk_drew ?_ | refine blk_alloc ?_ _)); exact BK218.out), (by repeat (first | (with_reducible first | exact HB.out | apply below_alloc | apply pw_below_drewN | apply below_drew1 | refine below_set ?_ GE218.out) | exact HB.out))⟩)
        rintro ⟨v220, v223⟩ w12 ⟨hS_, h0_, h1_, h2_, h3_, h4_, h5_⟩
        have n0_ : Aside0 (Kd.V k54 54 w12 w.heap.size (fun k_ => ((P0_ k_ ∨ P1_2_ k_) ∨ w.heap.size ≤ k_) ∧ some k_ ≠ (v220 : Value).ownBlock ∧ some k_ ≠ (v223 : Value).ownBlock ∧ k_ ≠ gb218) (.slice A0 l0.length c0) l0) := ⟨h0_⟩
        have n1_ : Aside0 (Kd.V (Kd.int .u8) 5 w12 w.heap.size (fun k_ => ((P0_ k_ ∨ P1_2_ k_) ∨ w.heap.size ≤ k_) ∧ some k_ ≠ (v220 : Value).ownBlock ∧ some k_ ≠ (v223 : Value).ownBlock ∧ k_ ≠ gb218) (.slice A1_2 l1_2.length c1_2) l1_2) := ⟨h1_⟩
        have n2_ : Aside0 (Kd.N k54 54 w12 w.heap.size (fun k_ => ((P0_ k_ ∨ P1_2_ k_) ∨ w.heap.size ≤ k_) ∧ some k_ ≠ (v223 : Value).ownBlock ∧ k_ ≠ gb218) v220 y219) := ⟨h2_⟩
        have n3_ : Aside0 (Kd.N k54 54 w12 w.heap.size (fun k_ => ((P0_ k_ ∨ P1_2_ k_) ∨ w.heap.size ≤ k_) ∧ some k_ ≠ (v220 : Value).ownBlock ∧ k_ ≠ gb218) v223 y222) := ⟨h3_⟩
        have n4_ : Aside0 (w12.heap[gb218]? = some (.cells #[.int .i64 a1_0, .bool a1_1, .slice A1_2 l1_2.length c1_2] 54 (0, 0))) := ⟨h4_⟩
        have n5_ : Aside0 (Below w.heap.size w w12) := ⟨h5_⟩
        clear HO0
        clear HO1_2
        clear BK218
        clear HB
        clear h0_ h1_ h2_ h3_ h4_ h5_
        have HO0 := n0_
        have HO1_2 := n1_
        have HO221 := n2_
        have HO224 := n3_
        have BK218 := n4_
        have HB := n5_
        clear n0_ n1_ n2_ n3_ n4_ n5_
        have hHeld : w12.cell? ⟨gb218, 0, none⟩ = some (.int .i64 a1_0) ∧ w12.cell? ⟨gb218, 1, none⟩ = some (.bool a1_1) ∧ w12.cell? ⟨gb218, 2, none⟩ = some (.slice A1_2 l1_2.length c1_2) := hS_
        obtain ⟨Ao14, co14, eo14⟩ := Kd.N_slice HO224.out
        (first | subst eo14 | (injection eo14 with f1_ f2_ f3_; have f4_ := f1_.symm; have f5_ := f3_.symm; clear f1_ f2_ f3_; subst f4_; subst f5_))
        refine norm_ (a' := ?_) ?_ ?_
        rotate_left
        · simp only [putAll, Act.put, List.setIfInBounds_toArray, List.set_cons_zero, List.set_cons_succ]
          rfl
        refine one_ (i := 4) (N := some 14) #[true, true, true, true, true, false, false] rfl rfl (by kernel_rfl) (by decide) (fun K hK => ?_)
        refine Kd.N_append_rows_step k54 (w0 := w) w.heap.size (by rfl) (.tmp 11) (.tmp 13) 51 54 (.agg #[(.int .i64 0), (.bool false), (.slice none 0 0)]) 40 rfl Try.underlying51 info54 rfl (by decide) (by omega) v220 y219 y222 _ _ _ (fun k_ => ((P0_ k_ ∨ P1_2_ k_) ∨ w.heap.size ≤ k_) ∧ k_ ≠ gb218) (fun k_ => ((fun k_ => ((P0_ k_ ∨ P1_2_ k_) ∨ w.heap.size ≤ k_) ∧ k_ ≠ gb218)) k_ ∧ some k_ ≠ (v220 : Value).ownBlock) rfl rfl ?aO ?aR (fun _ hk => hk) ?aF ?aB ?aS ?aL ?_
        (case aR => exact (by skip; exact Kd.N_F (Kd.N_mono (ok' := (fun k_ => ((fun k_ => ((P0_ k_ ∨ P1_2_ k_) ∨ w.heap.size ≤ k_) ∧ k_ ≠ gb218)) k_ ∧ some k_ ≠ (v220 : Value).ownBlock)) (HO224.out) (fun k_ hk => ⟨⟨hk.1, hk.2.2⟩, hk.2.1⟩))))
        (case aB => exact (by repeat (first | (with_reducible first | exact HB.out | apply below_alloc | apply pw_below_drewN | apply below_drew1 | refine below_set ?_ GE218.out) | exact HB.out)))
        (case aF => exact (fun k_ hk => ⟨(.inr (Nat.le_trans (below_size (by repeat (first | (with_reducible first | exact HB.out | apply below_alloc | apply pw_below_drewN | apply below_drew1 | refine below_set ?_ GE218.out) | exact HB.out))) hk)), Kd.freshB (g := gb218) (o := .cells #[.int .i64 a1_0, .bool a1_1, .slice A1_2 l1_2.length c1_2] 54 (0, 0)) (by (with_reducible repeat (first | refine blk_drewN ?_ _ | refine blk_drew ?_ | refine blk_alloc ?_ _)); exact BK218.out) k_ hk⟩))
        (case aO => exact (by (with_reducible repeat (first | apply Kd.N_alloc | apply Kd.N_drewN | apply Kd.N_drew)); exact Kd.N_mono HO221.out (fun _ hk => ⟨hk.1, hk.2.2⟩)))
        (case aS => exact (below_size (by repeat (first | (with_reducible first | exact HB.out | apply below_alloc | apply pw_below_drewN | apply below_drew1 | refine below_set ?_ GE218.out) | exact HB.out))))
        (case aL => have := LMc6.out; omega)
        intro v226 w13 ho hb hg hat
        rw [← Ny225.out] at ho
        have n0_ := Aside0.mk (Kd.V_afterv (ok := (fun k_ => ((P0_ k_ ∨ P1_2_ k_) ∨ w.heap.size ≤ k_) ∧ some k_ ≠ (.slice Ao14 y222.length co14 : Value).ownBlock ∧ k_ ≠ gb218)) (by (with_reducible repeat (first | apply Kd.V_alloc | apply Kd.V_drewN | apply Kd.V_drew)); exact Kd.V_mono HO0.out (fun _ hk => ⟨⟨hk.1, ⟨hk.2.2.1, hk.2.2.2⟩⟩, hk.2.1⟩)) hg hat)
        have n1_ := Aside0.mk (Kd.V_afterv (ok := (fun k_ => ((P0_ k_ ∨ P1_2_ k_) ∨ w.heap.size ≤ k_) ∧ some k_ ≠ (.slice Ao14 y222.length co14 : Value).ownBlock ∧ k_ ≠ gb218)) (by (with_reducible repeat (first | apply Kd.V_alloc | apply Kd.V_drewN | apply Kd.V_drew)); exact Kd.V_mono HO1_2.out (fun _ hk => ⟨⟨hk.1, ⟨hk.2.2.1, hk.2.2.2⟩⟩, hk.2.1⟩)) hg hat)
        have n2_ := Aside0.mk (blk_grown (g := gb218) (o := .cells #[.int .i64 a1_0, .bool a1_1, .slice A1_2 l1_2.length c1_2] 54 (0, 0)) (by (with_reducible repeat (first | refine blk_drewN ?_ _ | refine blk_drew ?_ | refine blk_alloc ?_ _)); exact BK218.out) hg (Kd.N_away HO221.out (fun _ hk => hk.2.2)))
        have n3_ := Aside0.mk (Kd.N_afterv (ok := (fun k_ => ((P0_ k_ ∨ P1_2_ k_) ∨ w.heap.size ≤ k_) ∧ k_ ≠ gb218)) (by (with_reducible repeat (first | apply Kd.N_alloc | apply Kd.N_drewN | apply Kd.N_drew)); exact Kd.N_mono HO224.out (fun _ hk => ⟨⟨hk.1, hk.2.2⟩, hk.2.1⟩)) hg hat)
        have n4_ := Aside0.mk (hb)
        have n5_ := Aside0.mk (ho)
        clear HO0
        clear HO1_2
        clear BK218
        clear HO224
        clear HB
        clear HO221
        have HO0 := n0_
        have HO1_2 := n1_
        have BK218 := n2_
        have HO224 := n3_
        have HB := n4_
        have HO227 := n5_
        clear n0_ n1_ n2_ n3_ n4_ n5_
        clear ho hb hg hat
        refine hK.out _ _ ⟨(blk_cell BK218.out 0).trans rfl, (blk_cell BK218.out 1).trans rfl, (blk_cell BK218.out 2).trans rfl⟩ (fun hHeld => ?_)
        clear hK K
        refine norm_ (a' := ?_) ?_ ?_
        rotate_left
        · show Act.put _ (some 14) _ = _
          simp only [Act.put, List.setIfInBounds_toArray, List.set_cons_zero, List.set_cons_succ, i64_w, i32_w]
          rfl
        refine pure_ (i := 5) (N := some 4) (v := ?_) (a' := ?_) #[true, true, true, true, true, true, false] rfl rfl (by kernel_rfl) (fun _ _ _ h => h) (Or.inl ⟨by rfl, ?_⟩) ?_ ?_
        rotate_left
        · intro w'
          go_simp
          with_reducible rfl
        rotate_left
        · simp only [Act.put, List.setIfInBounds_toArray, List.set_cons_zero, List.set_cons_succ, i64_w, i32_w]
          rfl
        refine pure_ (i := 6) (N := some 5) (v := ?_) (a' := ?_) #[true, true, true, true, true, true, true] rfl rfl (by kernel_rfl) (fun _ _ _ h => h) (Or.inl ⟨by rfl, ?_⟩) ?_ ?_
        rotate_left
        · intro w'
          go_simp
          with_reducible rfl
        rotate_left
        · simp only [Act.put, List.setIfInBounds_toArray, List.set_cons_zero, List.set_cons_succ, i64_w, i32_w]
          rfl
        refine done_ (by kernel_rfl) ?_
        try go_wp2
        go_ret2
        exact ⟨_, by first | rfl | (simp [errW_none, errW_some] <;> rfl) | (simp [*, errW_none, errW_some] <;> rfl), Kd.N_V (by (with_reducible repeat (first | apply Kd.N_alloc | apply Kd.N_drewN | apply Kd.N_drew)); exact Kd.N_mono HO227.out (fun _ hk => hk.1)), by repeat (first | (with_reducible first | exact HB.out | apply below_alloc | apply pw_below_drewN | apply below_drew1 | refine below_set ?_ GE218.out) | exact HB.out)⟩
      · rw [if_neg c6] at H
        exact absurd H (by simp)
    · rw [if_neg c5] at H
      exact absurd H (by simp)

/-! ### wayfinderref14_One: function 30 -/
def wayfinderref14_One.f (a0_0 : Int) (a0_1 : Bool) (l0_2 : List Int) (a1_0 : Int) (a1_1 : Bool) (l1_2 : List Int) : Option (Bool) := if a0_0 = a1_0 then (if (a0_1 == a1_1) = true then (some ((strOfNums l0_2).toList == (strOfNums l1_2).toList)) else (some false)) else (some false)
set_option maxHeartbeats 8000000 in
set_option maxRecDepth 100000 in
theorem wayfinderref14_One.calls (a0_0 : Int) (a0_1 : Bool) (A0_2 : Option Addr) (c0_2 : Nat) (l0_2 : List Int) (a1_0 : Int) (a1_1 : Bool) (A1_2 : Option Addr) (c1_2 : Nat) (l1_2 : List Int) (r : Bool) (w : World) (hr0_2 : Kd.C (Kd.int .u8) w A0_2 l0_2.length l0_2) (hc0_2 : l0_2.length ≤ c0_2) (hr1_2 : Kd.C (Kd.int .u8) w A1_2 l1_2.length l1_2) (hc1_2 : l1_2.length ≤ c1_2) (h : wayfinderref14_One.f a0_0 a0_1 l0_2 a1_0 a1_1 l1_2 = some r) :
    Calls Try.prog 30 #[.agg #[.int .i64 a0_0, .bool a0_1, .slice A0_2 l0_2.length c0_2], .agg #[.int .i64 a1_0, .bool a1_1, .slice A1_2 l1_2.length c1_2]] w fun e w' => e = .returned (.bool r) ∧ Below w.heap.size w w' := by
  have hu54 := Try.underlying54
  have HR0_2 := Aside0.mk hr0_2
  have HC0_2 := Aside0.mk hc0_2
  clear hr0_2 hc0_2
  have HR1_2 := Aside0.mk hr1_2
  have HC1_2 := Aside0.mk hc1_2
  clear hr1_2 hc1_2
  have HB := Aside0.mk (Below.refl w.heap.size w)
  have H : (if a0_0 = a1_0 then (if (a0_1 == a1_1) = true then (some ((strOfNums l0_2).toList == (strOfNums l1_2).toList)) else (some false)) else (some false)) = some r := h
  clear h
  by_cases c3 : a0_0 = a1_0
  · rw [if_pos c3] at H
    have c3b0 : (a0_0 == a1_0) = true := beq_iff_eq.mpr c3
    have c3b1 : (a0_0 != a1_0) = false := bne_eq_false_iff_eq.mpr c3
    clear c3
    by_cases c4 : (a0_1 == a1_1) = true
    · rw [if_pos c4] at H
      have c4b0 : (a0_1 == a1_1) = true := c4
      (try (have c4b1 : decide (a0_1 = a1_1) = true := by simpa using c4))
      (try (have c4b2 : (a0_1 == a1_1) = true := by simpa using c4))
      clear c4
      obtain rfl := Option.some.inj H
      go_enter Try.func30, Try.ntmps30
      go_wp2_with (first | ((with_reducible refine gate_dst (N := 2) rfl ?_); refine box_event ?hg (N := 2) ?hd (cs := #[.int .i64 a0_0, .bool a0_1, .slice A0_2 l0_2.length c0_2]) (t := 54) ?hr ?_; (case hd => rfl); (case hg => rfl); (case hr => first | (go_simp; done) | (go_simp; rfl)); intro gb228 hg w5 hbox hb; have n0_ := Aside0.mk (below_step (by repeat (first | (with_reducible first | exact HB.out | apply below_alloc | apply pw_below_drewN | apply below_drew1) | exact HB.out)) hb); have n1_ := Aside0.mk (hbox); have n2_ := Aside0.mk ((by rw [hg]; exact (below_size (by repeat (first | (with_reducible first | exact HB.out | apply below_alloc | apply pw_below_drewN | apply below_drew1) | exact HB.out))) : w.heap.size ≤ gb228)); have n3_ := Aside0.mk ((by rw [hg]; exact (below_size (by repeat (first | (with_reducible first | exact HB.out | apply below_alloc | apply pw_below_drewN | apply below_drew1) | exact HB.out))) : w.heap.size ≤ gb228)); clear HB; have HB := n0_; have BK228 := n1_; have GW228 := n2_; have GE228 := n3_; clear n0_ n1_ n2_ n3_; clear hb hbox hg) | ((with_reducible refine gate_dst (N := 3) rfl ?_); refine box_event ?hg (N := 3) ?hd (cs := #[.int .i64 a1_0, .bool a1_1, .slice A1_2 l1_2.length c1_2]) (t := 54) ?hr ?_; (case hd => rfl); (case hg => rfl); (case hr => first | (go_simp; done) | (go_simp; rfl)); intro gb229 hg w6 hbox hb; have n0_ := Aside0.mk (blk_below (g := gb228) (o := .cells #[.int .i64 a0_0, .bool a0_1, .slice A0_2 l0_2.length c0_2] 54 (0, 0)) (by (with_reducible repeat (first | refine blk_drewN ?_ _ | refine blk_drew ?_ | refine blk_alloc ?_ _)); exact BK228.out) hb); have n1_ := Aside0.mk (below_step (by repeat (first | (with_reducible first | exact HB.out | apply below_alloc | apply pw_below_drewN | apply below_drew1 | refine below_set ?_ GE228.out) | exact HB.out)) hb); have n2_ := Aside0.mk (hbox); have n3_ := Aside0.mk ((by rw [hg]; exact (below_size (by repeat (first | (with_reducible first | exact HB.out | apply below_alloc | apply pw_below_drewN | apply below_drew1 | refine below_set ?_ GE228.out) | exact HB.out))) : w.heap.size ≤ gb229)); have n4_ := Aside0.mk ((by rw [hg]; exact (below_size (by repeat (first | (with_reducible first | exact HB.out | apply below_alloc | apply pw_below_drewN | apply below_drew1 | refine below_set ?_ GE228.out) | exact HB.out))) : w.heap.size ≤ gb229)); have n5_ := Aside0.mk ((by rw [hg]; exact Nat.ne_of_lt (blk_lt (g := gb228) (o := .cells #[.int .i64 a0_0, .bool a0_1, .slice A0_2 l0_2.length c0_2] 54 (0, 0)) (by (with_reducible repeat (first | refine blk_drewN ?_ _ | refine blk_drew ?_ | refine blk_alloc ?_ _)); exact BK228.out)) : gb228 ≠ gb229)); have n6_ := Aside0.mk ((by rw [hg]; exact Nat.ne_of_gt (blk_lt (g := gb228) (o := .cells #[.int .i64 a0_0, .bool a0_1, .slice A0_2 l0_2.length c0_2] 54 (0, 0)) (by (with_reducible repeat (first | refine blk_drewN ?_ _ | refine blk_drew ?_ | refine blk_alloc ?_ _)); exact BK228.out)) : gb229 ≠ gb228)); clear BK228; clear HB; have BK228 := n0_; have HB := n1_; have BK229 := n2_; have GW229 := n3_; have GE229 := n4_; have NB228_229 := n5_; have NB229_228 := n6_; clear n0_ n1_ n2_ n3_ n4_ n5_ n6_; clear hb hbox hg; have hnb7 := NB228_229.out; have hnc7 := NB229_228.out; have hcz8_0 : w6.cell? ⟨gb228, 0, none⟩ = some (.int .i64 a0_0) := (blk_cell BK228.out 0).trans rfl; have hcz8_1 : w6.cell? ⟨gb228, 1, none⟩ = some (.bool a0_1) := (blk_cell BK228.out 1).trans rfl; have hcz8_2 : w6.cell? ⟨gb228, 2, none⟩ = some (.slice A0_2 l0_2.length c0_2) := (blk_cell BK228.out 2).trans rfl; have hfz8_0 := blk_frozen BK228.out 0; have hfz8_1 := blk_frozen BK228.out 1; have hfz8_2 := blk_frozen BK228.out 2; have hcz9_0 : w6.cell? ⟨gb229, 0, none⟩ = some (.int .i64 a1_0) := (blk_cell BK229.out 0).trans rfl; have hcz9_1 : w6.cell? ⟨gb229, 1, none⟩ = some (.bool a1_1) := (blk_cell BK229.out 1).trans rfl; have hcz9_2 : w6.cell? ⟨gb229, 2, none⟩ = some (.slice A1_2 l1_2.length c1_2) := (blk_cell BK229.out 2).trans rfl; have hfz9_0 := blk_frozen BK229.out 0; have hfz9_1 := blk_frozen BK229.out 1; have hfz9_2 := blk_frozen BK229.out 2; have hcv10 := Kd.C_string (P := Try.prog) (A := A0_2) (c := c0_2) Try.underlying52 Try.underlying5 Try.underlying9 (Kd.C_below HR0_2.out HB.out); have hcv11 := Kd.C_string (P := Try.prog) (A := A1_2) (c := c1_2) Try.underlying52 Try.underlying5 Try.underlying9 (Kd.C_below HR1_2.out HB.out)))
      go_ret
      exact ⟨by first | rfl | (simp [errW_none, errW_some] <;> rfl) | (simp [*, errW_none, errW_some] <;> rfl), by repeat (first | (with_reducible first | exact HB.out | apply below_alloc | apply pw_below_drewN | apply below_drew1 | refine below_set ?_ GE228.out | refine below_set ?_ GE229.out) | exact HB.out)⟩
    · rw [if_neg c4] at H
      have c4b0 : (a0_1 == a1_1) = false := by simpa using c4
      (try (have c4b1 : decide (a0_1 = a1_1) = false := by simpa using c4))
      (try (have c4b2 : (a0_1 == a1_1) = false := by simpa using c4))
      (try (have c4b3 : ¬ (a0_1 = a1_1) := by simpa using c4))
      clear c4
      obtain rfl := Option.some.inj H
      go_enter Try.func30, Try.ntmps30
      go_wp2_with (first | ((with_reducible refine gate_dst (N := 2) rfl ?_); refine box_event ?hg (N := 2) ?hd (cs := #[.int .i64 a0_0, .bool a0_1, .slice A0_2 l0_2.length c0_2]) (t := 54) ?hr ?_; (case hd => rfl); (case hg => rfl); (case hr => first | (go_simp; done) | (go_simp; rfl)); intro gb228 hg w12 hbox hb; have n0_ := Aside0.mk (below_step (by repeat (first | (with_reducible first | exact HB.out | apply below_alloc | apply pw_below_drewN | apply below_drew1) | exact HB.out)) hb); have n1_ := Aside0.mk (hbox); have n2_ := Aside0.mk ((by rw [hg]; exact (below_size (by repeat (first | (with_reducible first | exact HB.out | apply below_alloc | apply pw_below_drewN | apply below_drew1) | exact HB.out))) : w.heap.size ≤ gb228)); have n3_ := Aside0.mk ((by rw [hg]; exact (below_size (by repeat (first | (with_reducible first | exact HB.out | apply below_alloc | apply pw_below_drewN | apply below_drew1) | exact HB.out))) : w.heap.size ≤ gb228)); clear HB; have HB := n0_; have BK228 := n1_; have GW228 := n2_; have GE228 := n3_; clear n0_ n1_ n2_ n3_; clear hb hbox hg) | ((with_reducible refine gate_dst (N := 3) rfl ?_); refine box_event ?hg (N := 3) ?hd (cs := #[.int .i64 a1_0, .bool a1_1, .slice A1_2 l1_2.length c1_2]) (t := 54) ?hr ?_; (case hd => rfl); (case hg => rfl); (case hr => first | (go_simp; done) | (go_simp; rfl)); intro gb229 hg w13 hbox hb; have n0_ := Aside0.mk (blk_below (g := gb228) (o := .cells #[.int .i64 a0_0, .bool a0_1, .slice A0_2 l0_2.length c0_2] 54 (0, 0)) (by (with_reducible repeat (first | refine blk_drewN ?_ _ | refine blk_drew ?_ | refine blk_alloc ?_ _)); exact BK228.out) hb); have n1_ := Aside0.mk (below_step (by repeat (first | (with_reducible first | exact HB.out | apply below_alloc | apply pw_below_drewN | apply below_drew1 | refine below_set ?_ GE228.out) | exact HB.out)) hb); have n2_ := Aside0.mk (hbox); have n3_ := Aside0.mk ((by rw [hg]; exact (below_size (by repeat (first | (with_reducible first | exact HB.out | apply below_alloc | apply pw_below_drewN | apply below_drew1 | refine below_set ?_ GE228.out) | exact HB.out))) : w.heap.size ≤ gb229)); have n4_ := Aside0.mk ((by rw [hg]; exact (below_size (by repeat (first | (with_reducible first | exact HB.out | apply below_alloc | apply pw_below_drewN | apply below_drew1 | refine below_set ?_ GE228.out) | exact HB.out))) : w.heap.size ≤ gb229)); have n5_ := Aside0.mk ((by rw [hg]; exact Nat.ne_of_lt (blk_lt (g := gb228) (o := .cells #[.int .i64 a0_0, .bool a0_1, .slice A0_2 l0_2.length c0_2] 54 (0, 0)) (by (with_reducible repeat (first | refine blk_drewN ?_ _ | refine blk_drew ?_ | refine blk_alloc ?_ _)); exact BK228.out)) : gb228 ≠ gb229)); have n6_ := Aside0.mk ((by rw [hg]; exact Nat.ne_of_gt (blk_lt (g := gb228) (o := .cells #[.int .i64 a0_0, .bool a0_1, .slice A0_2 l0_2.length c0_2] 54 (0, 0)) (by (with_reducible repeat (first | refine blk_drewN ?_ _ | refine blk_drew ?_ | refine blk_alloc ?_ _)); exact BK228.out)) : gb229 ≠ gb228)); clear BK228; clear HB; have BK228 := n0_; have HB := n1_; have BK229 := n2_; have GW229 := n3_; have GE229 := n4_; have NB228_229 := n5_; have NB229_228 := n6_; clear n0_ n1_ n2_ n3_ n4_ n5_ n6_; clear hb hbox hg; have hnb14 := NB228_229.out; have hnc14 := NB229_228.out; have hcz15_0 : w13.cell? ⟨gb228, 0, none⟩ = some (.int .i64 a0_0) := (blk_cell BK228.out 0).trans rfl; have hcz15_1 : w13.cell? ⟨gb228, 1, none⟩ = some (.bool a0_1) := (blk_cell BK228.out 1).trans rfl; have hcz15_2 : w13.cell? ⟨gb228, 2, none⟩ = some (.slice A0_2 l0_2.length c0_2) := (blk_cell BK228.out 2).trans rfl; have hfz15_0 := blk_frozen BK228.out 0; have hfz15_1 := blk_frozen BK228.out 1; have hfz15_2 := blk_frozen BK228.out 2; have hcz16_0 : w13.cell? ⟨gb229, 0, none⟩ = some (.int .i64 a1_0) := (blk_cell BK229.out 0).trans rfl; have hcz16_1 : w13.cell? ⟨gb229, 1, none⟩ = some (.bool a1_1) := (blk_cell BK229.out 1).trans rfl; have hcz16_2 : w13.cell? ⟨gb229, 2, none⟩ = some (.slice A1_2 l1_2.length c1_2) := (blk_cell BK229.out 2).trans rfl; have hfz16_0 := blk_frozen BK229.out 0; have hfz16_1 := blk_frozen BK229.out 1; have hfz16_2 := blk_frozen BK229.out 2))
      go_ret
      exact ⟨by first | rfl | (simp [errW_none, errW_some] <;> rfl) | (simp [*, errW_none, errW_some] <;> rfl), by repeat (first | (with_reducible first | exact HB.out | apply below_alloc | apply pw_below_drewN | apply below_drew1 | refine below_set ?_ GE228.out | refine below_set ?_ GE229.out) | exact HB.out)⟩
  · rw [if_neg c3] at H
    have c3b0 : (a0_0 == a1_0) = false := beq_eq_false_iff_ne.mpr c3
    have c3b1 : (a0_0 != a1_0) = true := bne_iff_ne.mpr c3
    obtain rfl := Option.some.inj H
    go_enter Try.func30, Try.ntmps30
    go_wp2_with (first | ((with_reducible refine gate_dst (N := 2) rfl ?_); refine box_event ?hg (N := 2) ?hd (cs := #[.int .i64 a0_0, .bool a0_1, .slice A0_2 l0_2.length c0_2]) (t := 54) ?hr ?_; (case hd => rfl); (case hg => rfl); (case hr => first | (go_simp; done) | (go_simp; rfl)); intro gb228 hg w17 hbox hb; have n0_ := Aside0.mk (below_step (by repeat (first | (with_reducible first | exact HB.out | apply below_alloc | apply pw_below_drewN | apply below_drew1) | exact HB.out)) hb); have n1_ := Aside0.mk (hbox); have n2_ := Aside0.mk ((by rw [hg]; exact (below_size (by repeat (first | (with_reducible first | exact HB.out | apply below_alloc | apply pw_below_drewN | apply below_drew1) | exact HB.out))) : w.heap.size ≤ gb228)); have n3_ := Aside0.mk ((by rw [hg]; exact (below_size (by repeat (first | (with_reducible first | exact HB.out | apply below_alloc | apply pw_below_drewN | apply below_drew1) | exact HB.out))) : w.heap.size ≤ gb228)); clear HB; have HB := n0_; have BK228 := n1_; have GW228 := n2_; have GE228 := n3_; clear n0_ n1_ n2_ n3_; clear hb hbox hg) | ((with_reducible refine gate_dst (N := 3) rfl ?_); refine box_event ?hg (N := 3) ?hd (cs := #[.int .i64 a1_0, .bool a1_1, .slice A1_2 l1_2.length c1_2]) (t := 54) ?hr ?_; (case hd => rfl); (case hg => rfl); (case hr => first | (go_simp; done) | (go_simp; rfl)); intro gb229 hg w18 hbox hb; have n0_ := Aside0.mk (blk_below (g := gb228) (o := .cells #[.int .i64 a0_0, .bool a0_1, .slice A0_2 l0_2.length c0_2] 54 (0, 0)) (by (with_reducible repeat (first | refine blk_drewN ?_ _ | refine blk_drew ?_ | refine blk_alloc ?_ _)); exact BK228.out) hb); have n1_ := Aside0.mk (below_step (by repeat (first | (with_reducible first | exact HB.out | apply below_alloc | apply pw_below_drewN | apply below_drew1 | refine below_set ?_ GE228.out) | exact HB.out)) hb); have n2_ := Aside0.mk (hbox); have n3_ := Aside0.mk ((by rw [hg]; exact (below_size (by repeat (first | (with_reducible first | exact HB.out | apply below_alloc | apply pw_below_drewN | apply below_drew1 | refine below_set ?_ GE228.out) | exact HB.out))) : w.heap.size ≤ gb229)); have n4_ := Aside0.mk ((by rw [hg]; exact (below_size (by repeat (first | (with_reducible first | exact HB.out | apply below_alloc | apply pw_below_drewN | apply below_drew1 | refine below_set ?_ GE228.out) | exact HB.out))) : w.heap.size ≤ gb229)); have n5_ := Aside0.mk ((by rw [hg]; exact Nat.ne_of_lt (blk_lt (g := gb228) (o := .cells #[.int .i64 a0_0, .bool a0_1, .slice A0_2 l0_2.length c0_2] 54 (0, 0)) (by (with_reducible repeat (first | refine blk_drewN ?_ _ | refine blk_drew ?_ | refine blk_alloc ?_ _)); exact BK228.out)) : gb228 ≠ gb229)); have n6_ := Aside0.mk ((by rw [hg]; exact Nat.ne_of_gt (blk_lt (g := gb228) (o := .cells #[.int .i64 a0_0, .bool a0_1, .slice A0_2 l0_2.length c0_2] 54 (0, 0)) (by (with_reducible repeat (first | refine blk_drewN ?_ _ | refine blk_drew ?_ | refine blk_alloc ?_ _)); exact BK228.out)) : gb229 ≠ gb228)); clear BK228; clear HB; have BK228 := n0_; have HB := n1_; have BK229 := n2_; have GW229 := n3_; have GE229 := n4_; have NB228_229 := n5_; have NB229_228 := n6_; clear n0_ n1_ n2_ n3_ n4_ n5_ n6_; clear hb hbox hg; have hnb19 := NB228_229.out; have hnc19 := NB229_228.out; have hcz20_0 : w18.cell? ⟨gb228, 0, none⟩ = some (.int .i64 a0_0) := (blk_cell BK228.out 0).trans rfl; have hcz20_1 : w18.cell? ⟨gb228, 1, none⟩ = some (.bool a0_1) := (blk_cell BK228.out 1).trans rfl; have hcz20_2 : w18.cell? ⟨gb228, 2, none⟩ = some (.slice A0_2 l0_2.length c0_2) := (blk_cell BK228.out 2).trans rfl; have hfz20_0 := blk_frozen BK228.out 0; have hfz20_1 := blk_frozen BK228.out 1; have hfz20_2 := blk_frozen BK228.out 2; have hcz21_0 : w18.cell? ⟨gb229, 0, none⟩ = some (.int .i64 a1_0) := (blk_cell BK229.out 0).trans rfl; have hcz21_1 : w18.cell? ⟨gb229, 1, none⟩ = some (.bool a1_1) := (blk_cell BK229.out 1).trans rfl; have hcz21_2 : w18.cell? ⟨gb229, 2, none⟩ = some (.slice A1_2 l1_2.length c1_2) := (blk_cell BK229.out 2).trans rfl; have hfz21_0 := blk_frozen BK229.out 0; have hfz21_1 := blk_frozen BK229.out 1; have hfz21_2 := blk_frozen BK229.out 2))
    go_ret
    exact ⟨by first | rfl | (simp [errW_none, errW_some] <;> rfl) | (simp [*, errW_none, errW_some] <;> rfl), by repeat (first | (with_reducible first | exact HB.out | apply below_alloc | apply pw_below_drewN | apply below_drew1 | refine below_set ?_ GE228.out | refine below_set ?_ GE229.out) | exact HB.out)⟩

end Go.Proofs.Ytifgncaihpoijaa.Print
