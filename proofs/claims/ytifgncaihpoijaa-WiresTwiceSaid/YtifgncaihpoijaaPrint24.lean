/- A text that a program of this session printed out of the translation: checked by Lean alone. -/
import Derived.Test.YtifgncaihpoijaaPrint0
import Derived.Test.YtifgncaihpoijaaPrint23
import Derived.Test.YtifgncaihpoijaaPrintH
namespace Go.Proofs.Ytifgncaihpoijaa.Print
open Go.RowKit Go.Proofs.YtifgncaihpoijaaW.PrintWords Go.Proofs.YtifgncaihpoijaaW.PrintLast Go.Proofs.YtifgncaihpoijaaW.PrintMore
attribute [local go_sem] max2_int min2_int max_two min_two max_three min_three max_four min_four   -- for this text's walks alone
set_option linter.unusedVariables false
set_option linter.unusedSimpArgs false

/-! ### wayfinderref14_Fate: function 29 -/
def wayfinderref14_Fate.j0 : Nat → List (S54) → Int → Int → Bool → Option ((List (S54)) × Int × Bool × List Int × Bool)
  | 0, _, _, _, _ => none
  | k + 1, x0, x1, x2, x16 => if x16 = true then (some (x0, 0, false, ([] : List Int), false)) else (if x2 = 0 then ((wayfinderref14_without.f k x0 x1).bind fun t238 => (if 0 ≤ x1 then (if x1 < (x0.length : Int) then (some (t238, (rd_T54 x0 x1).f0, (rd_T54 x0 x1).f1, (rd_T54 x0 x1).f2, true)) else (none)) else (none))) else (if x2 = 1 then ((wayfinderref14_without.f k x0 x1).bind fun t242 => (some (t242, 0, false, ([] : List Int), false))) else (if x2 = 2 then (if 0 ≤ x1 then (if x1 < (x0.length : Int) then (some (x0, (rd_T54 x0 x1).f0, (rd_T54 x0 x1).f1, (rd_T54 x0 x1).f2, true)) else (none)) else (none)) else (some (x0, 0, false, ([] : List Int), false)))))
def wayfinderref14_Fate.f (k : Nat) (l0 : List (S54)) (a1 : Int) (a2 : Int) : Option ((List (S54)) × Int × Bool × List Int × Bool) := if a1 < 0 then (wayfinderref14_Fate.j0 k l0 a1 a2 true) else (wayfinderref14_Fate.j0 k l0 a1 a2 (decide (a1 ≥ (l0.length : Int))))
theorem wayfinderref14_Fate.mono_l : ∀ k, (∀ y0 y1 y2 y3, LeO (wayfinderref14_Fate.j0 k y0 y1 y2 y3) (wayfinderref14_Fate.j0 (k + 1) y0 y1 y2 y3))
  | 0 => fun _ _ _ _ r h => by simp [wayfinderref14_Fate.j0] at h
  | k + 1 => by
    have ih0 := wayfinderref14_Fate.mono_l k
    · intro y0 y1 y2 y3
      unfold wayfinderref14_Fate.j0
      repeat' first
      | (with_reducible exact ih0 _ _ _ _)
      | (with_reducible exact wayfinderref14_without.mono _ _ _)
      | (with_reducible exact LeO.refl _)
      | (with_reducible exact LeO.none _)
      | (with_reducible refine LeO.ite ?_ ?_)
      | (with_reducible refine LeO.bind ?_ (fun _ => ?_))
      | exact ih0 _ _ _ _
      | exact wayfinderref14_without.mono _ _ _
      | exact LeO.none _
      | refine LeO.ite ?_ ?_
      | refine LeO.bind ?_ (fun _ => ?_)
theorem wayfinderref14_Fate.mono : ∀ a0 a1 a2 k, LeO (wayfinderref14_Fate.f k a0 a1 a2) (wayfinderref14_Fate.f (k + 1) a0 a1 a2) := by
  intro a0 a1 a2 k
  have ih0 := wayfinderref14_Fate.mono_l k
  unfold wayfinderref14_Fate.f
  repeat' first
      | (with_reducible exact ih0 _ _ _ _)
      | (with_reducible exact wayfinderref14_without.mono _ _ _)
      | (with_reducible exact LeO.refl _)
      | (with_reducible exact LeO.none _)
      | (with_reducible refine LeO.ite ?_ ?_)
      | (with_reducible refine LeO.bind ?_ (fun _ => ?_))
      | exact ih0 _ _ _ _
      | exact wayfinderref14_without.mono _ _ _
      | exact LeO.none _
      | refine LeO.ite ?_ ?_
      | refine LeO.bind ?_ (fun _ => ?_)
def wayfinderref14_Fate.T5 : Bool × List (List Nat × List Nat) := (true, [([], []), ([], []), ([0, 1], [0, 1]), ([], []), ([], []), ([3, 4], [3, 4]), ([5], [5]), ([2, 2, 0, 1, 2], [2]), ([6, 7, 0, 1, 2, 3, 4, 5, 6, 7], [6]), ([8, 0, 1, 2, 3, 4, 5, 6, 7, 8], [])])
def wayfinderref14_Fate.B5 : List Nat := [0, 0, 3, 0, 0, 24, 56, 7, 255, 511]
theorem wayfinderref14_Fate.tab5 : rtab .any (opsOf Try.f29 5) = wayfinderref14_Fate.T5 := by kernel_rfl
theorem wayfinderref14_Fate.bits5 : waitsOk wayfinderref14_Fate.T5.2 wayfinderref14_Fate.B5 = true := by kernel_rfl
def wayfinderref14_Fate.T9 : Bool × List (List Nat × List Nat) := (true, [([], []), ([], []), ([], []), ([1, 2], [1, 2]), ([3], [3]), ([0, 0], [0]), ([4, 5, 0, 1, 2, 3, 4, 5], [4]), ([6, 0, 1, 2, 3, 4, 5, 6], [])])
def wayfinderref14_Fate.B9 : List Nat := [0, 0, 0, 6, 14, 1, 63, 127]
theorem wayfinderref14_Fate.tab9 : rtab .any (opsOf Try.f29 9) = wayfinderref14_Fate.T9 := by kernel_rfl
theorem wayfinderref14_Fate.bits9 : waitsOk wayfinderref14_Fate.T9.2 wayfinderref14_Fate.B9 = true := by kernel_rfl
set_option maxHeartbeats 8000000 in
set_option maxRecDepth 100000 in
theorem wayfinderref14_Fate.calls (k : Nat) (P0_ : Nat → Prop) (A0 : Option Addr) (c0 : Nat) (l0 : List (S54)) (a1 : Int) (a2 : Int) (r1 : List (S54)) (r2 : Int) (r3 : Bool) (r4 : List Int) (r5 : Bool) (w : World) (hs0 : Kd.V k54 54 w w.heap.size (fun k_ => P0_ k_) (.slice A0 l0.length c0) l0) (h : wayfinderref14_Fate.f k l0 a1 a2 = some (r1, r2, r3, r4, r5)) :
    Calls Try.prog 29 #[.slice A0 l0.length c0, .int .i64 a1, .int .i64 a2] w fun e w' => ∃ v0_ v3_ : Value, e = .returned (.tuple #[v0_, .agg #[.int .i64 r2, .bool r3, v3_], .bool r5]) ∧ Kd.V k54 54 w' w.heap.size (fun k_ => (P0_ k_ ∨ w.heap.size ≤ k_)) v0_ r1 ∧ Kd.V (Kd.int .u8) 5 w' w.heap.size (fun k_ => (P0_ k_ ∨ w.heap.size ≤ k_)) v3_ r4 ∧ Below w.heap.size w w' := by
  have hu54 := Try.underlying54
  have HO0 := Aside0.mk (show Kd.V k54 54 w w.heap.size (fun k_ => (P0_ k_ ∨ w.heap.size ≤ k_)) (.slice A0 l0.length c0) l0 from Kd.V_mono hs0 (fun k_ hk => .inl hk))
  have HB := Aside0.mk (Below.refl w.heap.size w)
  have H : (if a1 < 0 then (wayfinderref14_Fate.j0 k l0 a1 a2 true) else (wayfinderref14_Fate.j0 k l0 a1 a2 (decide (a1 ≥ (l0.length : Int))))) = some (r1, r2, r3, r4, r5) := h
  clear h
  have HC4 := Aside0.mk H
  clear H
  go_enter Try.func29, Try.ntmps29
  go_upto_region 1 with (first | ((with_reducible refine gate_dst (N := 7) rfl ?_); (try (refine gate_guard (by rfl) ?_; dsimp only)); refine box_event ?hg (N := 7) ?hd (cs := #[.int .i64 0, .bool false, .slice none 0 0]) (t := 54) ?hr ?_; (case hd => rfl); (case hg => rfl); (case hr => first | (go_simp; done) | (go_simp; rfl)); intro gb237 hg w5 hbox hb; have n0_ := Aside0.mk (Kd.V_below (Kd.V_elderB (by (with_reducible repeat (first | apply Kd.V_alloc | apply Kd.V_drewN | apply Kd.V_drew)); exact HO0.out) gb237 (Nat.le_of_eq hg.symm)) hb); have n1_ := Aside0.mk (below_step (by repeat (first | (with_reducible first | exact HB.out | apply below_alloc | apply pw_below_drewN | apply below_drew1) | exact HB.out)) hb); have n2_ := Aside0.mk (hbox); have n3_ := Aside0.mk ((by rw [hg]; exact (below_size (by repeat (first | (with_reducible first | exact HB.out | apply below_alloc | apply pw_below_drewN | apply below_drew1) | exact HB.out))) : w.heap.size ≤ gb237)); have n4_ := Aside0.mk ((by rw [hg]; exact (below_size (by repeat (first | (with_reducible first | exact HB.out | apply below_alloc | apply pw_below_drewN | apply below_drew1) | exact HB.out))) : w.heap.size ≤ gb237)); clear HO0; clear HB; have HO0 := n0_; have HB := n1_; have BK237 := n2_; have GW237 := n3_; have GE237 := n4_; clear n0_ n1_ n2_ n3_ n4_; clear hb hbox hg))
  (try simp only [Act.put, List.setIfInBounds_toArray, List.set_cons_zero, List.set_cons_succ])
  go_cut [16] (fun v16 wc => ∃ (kq : Nat) (x16_3 : Bool), v16 = .bool x16_3 ∧ Aside0 (wayfinderref14_Fate.j0 kq l0 a1 a2 x16_3 = some (r1, r2, r3, r4, r5)) ∧ Aside0 (kq ≤ k) ∧ Aside0 (Kd.V k54 54 wc w.heap.size (fun k_ => (P0_ k_ ∨ w.heap.size ≤ k_) ∧ k_ ≠ gb237) (.slice A0 l0.length c0) l0) ∧ Aside0 (wc.heap[gb237]? = some (.cells #[.int .i64 0, .bool false, (.slice none 0 0)] 54 (0, 0))) ∧ Aside0 (Below w.heap.size w wc))
  case first =>
    have H := HC4.out
    clear HC4
    by_cases c6 : a1 < 0
    · rw [if_pos c6] at H
      have c6b0 : decide (a1 < 0) = true := decide_eq_true c6
      clear c6
      (first | rw [c6b0] | (simp only [i64_w, i32_w]; rw [c6b0]) | skip)
      have H' := Aside0.mk H
      clear H
      go_wp2
      go_meet
      case rel => exact ⟨_, (true), (by first | rfl | (simp; done) | (simp [*]; done)), H', ⟨by first | omega | exact Nat.le_refl _⟩, ⟨by (with_reducible repeat (first | apply Kd.V_alloc | apply Kd.V_drewN | apply Kd.V_drew)); exact HO0.out⟩, ⟨by (with_reducible repeat (first | refine blk_drewN ?_ _ | refine blk_drew ?_ | refine blk_alloc ?_ _)); exact BK237.out⟩, ⟨by repeat (first | (with_reducible first | exact HB.out | apply below_alloc | apply pw_below_drewN | apply below_drew1 | refine below_set ?_ GE237.out) | exact HB.out)⟩⟩
    · rw [if_neg c6] at H
      have c6b0 : decide (a1 < 0) = false := decide_eq_false c6
      clear c6
      (first | rw [c6b0] | (simp only [i64_w, i32_w]; rw [c6b0]) | skip)
      have H' := Aside0.mk H
      clear H
      go_wp2
      go_meet
      case rel => exact ⟨_, (decide (a1 ≥ (l0.length : Int))), (by first | rfl | (simp; done) | (simp [*]; done)), H', ⟨by first | omega | exact Nat.le_refl _⟩, ⟨by (with_reducible repeat (first | apply Kd.V_alloc | apply Kd.V_drewN | apply Kd.V_drew)); exact HO0.out⟩, ⟨by (with_reducible repeat (first | refine blk_drewN ?_ _ | refine blk_drew ?_ | refine blk_alloc ?_ _)); exact BK237.out⟩, ⟨by repeat (first | (with_reducible first | exact HB.out | apply below_alloc | apply pw_below_drewN | apply below_drew1 | refine below_set ?_ GE237.out) | exact HB.out)⟩⟩
  case rest =>
    clear HC4
    try clear c2
    try clear p2
    try clear c6
    try clear c6b0
    obtain ⟨kq, x16_3, rfl, HA, HJ3, HO_0, BK237, HB⟩ := hcut
    cases kq with
    | zero => exact absurd HA.out (by simp [wayfinderref14_Fate.j0])
    | succ kj3 =>
      have H := HA.out
      clear HA
      simp only [wayfinderref14_Fate.j0] at H
      by_cases c7 : x16_3 = true
      · subst c7
        have H1 : (some (l0, 0, false, ([] : List Int), false)) = some (r1, r2, r3, r4, r5) := by rw [if_pos rfl] at H; exact H
        clear H
        have H := H1
        clear H1
        simp only [Option.some.injEq, Prod.mk.injEq] at H
        obtain ⟨rfl, rfl, rfl, rfl, rfl⟩ := H
        have hcz8_0 : wc.cell? ⟨gb237, 0, none⟩ = some (.int .i64 0) := (blk_cell BK237.out 0).trans rfl
        have hcz8_1 : wc.cell? ⟨gb237, 1, none⟩ = some (.bool false) := (blk_cell BK237.out 1).trans rfl
        have hcz8_2 : wc.cell? ⟨gb237, 2, none⟩ = some (.slice none 0 0) := (blk_cell BK237.out 2).trans rfl
        have hfz8_0 := blk_frozen BK237.out 0
        have hfz8_1 := blk_frozen BK237.out 1
        have hfz8_2 := blk_frozen BK237.out 2
        go_wp2
        refine bodyPost_ret (results_list (rs := [.tmp 6, .cell 7 54, .tmp 8]) rfl (by simp) (.tmp (.cell gb237 54 #[.int .i64 0, .bool false, .slice none 0 0] (0, 0) _ rfl (by (with_reducible repeat (first | refine blk_drewN ?_ _ | refine blk_drew ?_ | refine blk_alloc ?_ _)); refine blk_put (cs := #[.int .i64 0, .bool false, .slice none 0 0]) ?_ 2 _ rfl; (with_reducible repeat (first | refine blk_drewN ?_ _ | refine blk_drew ?_ | refine blk_alloc ?_ _)); refine blk_put (cs := #[.int .i64 0, .bool false, .slice none 0 0]) ?_ 1 _ rfl; (with_reducible repeat (first | refine blk_drewN ?_ _ | refine blk_drew ?_ | refine blk_alloc ?_ _)); refine blk_put (cs := #[.int .i64 0, .bool false, .slice none 0 0]) ?_ 0 _ rfl; (with_reducible repeat (first | refine blk_drewN ?_ _ | refine blk_drew ?_ | refine blk_alloc ?_ _)); exact BK237.out) Try.underlying54 rfl (by kernel_rfl) (.tmp .nil)))) rfl ?_
        exact ⟨_, _, by first | rfl | (simp [errW_none, errW_some] <;> rfl) | (simp [*, errW_none, errW_some] <;> rfl), by (with_reducible repeat (first | apply Kd.V_alloc | apply Kd.V_drewN | apply Kd.V_drew)); exact Kd.V_mono (Kd.V_far (p := ⟨gb237, 2, none⟩) (Kd.V_far (p := ⟨gb237, 1, none⟩) (Kd.V_far (p := ⟨gb237, 0, none⟩) (Kd.V_mono HO_0.out (fun k_ hk => (⟨hk, hk.2⟩ : _ ∧ k_ ≠ gb237))) (fun _ hk => hk.2) (.int .i64 0)) (fun _ hk => hk.2) (.bool false)) (fun _ hk => hk.2) (.slice none 0 0)) (fun _ hk => hk.1.1), V_none, by repeat (first | (with_reducible first | exact HB.out | apply below_alloc | apply pw_below_drewN | apply below_drew1 | refine below_set ?_ GE237.out) | exact HB.out)⟩
      · replace c7 := Bool.eq_false_iff.mpr c7
        subst c7
        have H1 : (if a2 = 0 then ((wayfinderref14_without.f kj3 l0 a1).bind fun t238 => (if 0 ≤ a1 then (if a1 < (l0.length : Int) then (some (t238, (rd_T54 l0 a1).f0, (rd_T54 l0 a1).f1, (rd_T54 l0 a1).f2, true)) else (none)) else (none))) else (if a2 = 1 then ((wayfinderref14_without.f kj3 l0 a1).bind fun t242 => (some (t242, 0, false, ([] : List Int), false))) else (if a2 = 2 then (if 0 ≤ a1 then (if a1 < (l0.length : Int) then (some (l0, (rd_T54 l0 a1).f0, (rd_T54 l0 a1).f1, (rd_T54 l0 a1).f2, true)) else (none)) else (none)) else (some (l0, 0, false, ([] : List Int), false))))) = some (r1, r2, r3, r4, r5) := by rw [if_neg (show ¬ (false = true) by decide)] at H; exact H
        clear H
        have H := H1
        clear H1
        by_cases c9 : a2 = 0
        · rw [if_pos c9] at H
          have c9b0 : (a2 == 0) = true := beq_iff_eq.mpr c9
          have c9b1 : (a2 != 0) = false := bne_eq_false_iff_eq.mpr c9
          clear c9
          replace H := Option.bind_eq_some_iff.mp H
          obtain ⟨t238, A100, H⟩ := H
          replace H : (if 0 ≤ a1 then (if a1 < (l0.length : Int) then (some (t238, (rd_T54 l0 a1).f0, (rd_T54 l0 a1).f1, (rd_T54 l0 a1).f2, true)) else (none)) else (none)) = some (r1, r2, r3, r4, r5) := H
          have A10 := Aside0.mk A100
          clear A100
          by_cases c11 : 0 ≤ a1
          · rw [if_pos c11] at H
            have c11b0 : decide (0 ≤ a1) = true := decide_eq_true c11
            clear c11
            by_cases c12 : a1 < (l0.length : Int)
            · rw [if_pos c12] at H
              have c12b0 : decide (a1 < (l0.length : Int)) = true := decide_eq_true c12
              clear c12
              simp only [Option.some.injEq, Prod.mk.injEq] at H
              obtain ⟨rfl, rfl, rfl, rfl, rfl⟩ := H
              try go_wp2
              have n0_ := Aside0.mk (Kd.V_drew HO_0.out)
              have n1_ := Aside0.mk (blk_drew BK237.out)
              have n2_ := Aside0.mk (below_drew1 HB.out)
              clear HO_0
              clear BK237
              clear HB
              have HO_0 := n0_
              have BK237 := n1_
              have HB := n2_
              clear n0_ n1_ n2_
              have p241 : 0 ≤ (a1 : Int) := of_decide_eq_true (by first | (with_reducible assumption) | assumption)
              have q241 : a1 < (l0.length : Int) := of_decide_eq_true (by first | (with_reducible assumption) | assumption)
              obtain ⟨ad241, A241_2, c241_2, e241, hx241_0, hx241_1, hx241_2, hl241_2, hi241_2⟩ := at_T54 (Kd.V_reads' HO_0.out).2.2 a1 p241 q241
              cases e241
              obtain ⟨ce241, hce241, hMe241, hcc241⟩ := Kd.V_get HO_0.out z54 a1 p241 (by first | exact q241 | exact of_decide_eq_true (by first | (with_reducible assumption) | assumption) | (have e_ := (Kd.V_reads' HO_0.out).1; omega))
              obtain ⟨ua241_2, uc241_2, rfl, ul241_2, ge241_2⟩ := k54_openF hMe241
              have hv241_2 := hcc241 2 _ rfl
              rw [add_field _ _ 2 (by omega)] at hv241_2
              replace hv241_2 := Option.some.inj (hv241_2.symm.trans hx241_2)
              injection hv241_2 with hva_ hvn_ hvc_
              rw [hva_] at ge241_2
              rw [hvc_] at ul241_2
              have HL241_2 := Aside0.mk (show Kd.V (Kd.int .u8) 5 _ w.heap.size _ _ ((rd_T54 l0 a1).f2) from Kd.V_mk ul241_2 ge241_2)
              clear hva_ hvn_ hvc_ ge241_2 ul241_2
              clear hcc241 hce241
              have HR241_2 := Aside0.mk hi241_2
              have HC241_2 := Aside0.mk hl241_2
              clear hi241_2 hl241_2
              replace p241 := eq_true p241
              replace q241 := eq_true q241
              refine start_ (n := 10) (S := fun w' => w'.cell? (ad241.add ((a1).toNat * 3)) = some (.int .i64 ((rd_T54 l0 a1).f0)) ∧ w'.cell? ⟨(ad241.add ((a1).toNat * 3)).block, (ad241.add ((a1).toNat * 3)).off + 1, none⟩ = some (.bool ((rd_T54 l0 a1).f1)) ∧ w'.cell? ⟨(ad241.add ((a1).toNat * 3)).block, (ad241.add ((a1).toNat * 3)).off + 2, none⟩ = some (.slice A241_2 ((rd_T54 l0 a1).f2).length c241_2)) (ds := []) #[false, false, false, false, false, false, false, false, false, false] (by kernel_rfl) rfl rfl ⟨hx241_0, hx241_1, hx241_2⟩ (fun hHeld => ?_); refine with_tabW wayfinderref14_Fate.tab5 wayfinderref14_Fate.bits5 (fun HT_ HW_ => ?_)
              generalize wc.drew = w13 at HO_0 BK237 HB HL241_2 HR241_2 hx241_0 hx241_1 hx241_2 hHeld ⊢
              refine pure_ (i := 0) (N := some 22) (v := ?_) (a' := ?_) #[true, false, false, false, false, false, false, false, false, false] rfl rfl (any_of HT_.out (by kernel_rfl)) (fun _ _ _ h => h) (Or.inl ⟨by rfl, ?_⟩) ?_ ?_
              rotate_left
              · intro w'
                go_simp
                with_reducible rfl
              rotate_left
              · simp only [Act.put, List.setIfInBounds_toArray, List.set_cons_zero, List.set_cons_succ, i64_w, i32_w]
                rfl
              refine pure_ (i := 1) (N := some 23) (v := ?_) (a' := ?_) #[true, true, false, false, false, false, false, false, false, false] rfl rfl (any_of HT_.out (by kernel_rfl)) (fun _ _ _ h => h) (Or.inl ⟨by rfl, ?_⟩) ?_ ?_
              rotate_left
              · intro w'
                go_simp
                with_reducible rfl
              rotate_left
              · simp only [Act.put, List.setIfInBounds_toArray, List.set_cons_zero, List.set_cons_succ, i64_w, i32_w]
                rfl
              refine pure_ (i := 3) (N := some 25) (v := ?_) (a' := ?_) #[true, true, false, true, false, false, false, false, false, false] rfl rfl (any_of HT_.out (by kernel_rfl)) (fun _ _ _ h => h) (Or.inl ⟨by rfl, ?_⟩) ?_ ?_
              rotate_left
              · intro w'
                go_simp
                with_reducible rfl
              rotate_left
              · simp only [Act.put, List.setIfInBounds_toArray, List.set_cons_zero, List.set_cons_succ, i64_w, i32_w]
                rfl
              refine pure_ (i := 4) (N := some 26) (v := ?_) (a' := ?_) #[true, true, false, true, true, false, false, false, false, false] rfl rfl (any_of HT_.out (by kernel_rfl)) (fun _ _ _ h => h) (Or.inl ⟨by rfl, ?_⟩) ?_ ?_
              rotate_left
              · intro w'
                go_simp
                with_reducible rfl
              rotate_left
              · simp only [Act.put, List.setIfInBounds_toArray, List.set_cons_zero, List.set_cons_succ, i64_w, i32_w]
                rfl
              refine pure_ (i := 5) (N := some 27) (v := ?_) (a' := ?_) #[true, true, false, true, true, true, false, false, false, false] rfl rfl (any_of HT_.out (by kernel_rfl)) (fun _ _ _ h => h) (Or.inl ⟨by rfl, ?_⟩) ?_ ?_
              rotate_left
              · intro w'
                go_simp
                with_reducible rfl
              rotate_left
              · simp only [Act.put, List.setIfInBounds_toArray, List.set_cons_zero, List.set_cons_succ, i64_w, i32_w]
                rfl
              refine take_ (i := 6) (N := some 28) (v := ?_) (a' := ?_) #[true, true, false, true, true, true, true, false, false, false] rfl rfl (take_ofW HT_.out HW_.out (by kernel_rfl)) (fun _ _ _ h => h) (Or.inl ⟨by rfl, ?_⟩) hHeld ?_ ?_
              rotate_left
              · rintro w' ⟨s0, s1, s2⟩
                go_simp
                with_reducible rfl
              rotate_left
              · simp only [Act.put, List.setIfInBounds_toArray, List.set_cons_zero, List.set_cons_succ, i64_w, i32_w]
                rfl
              refine one_ (i := 2) (N := some 24) #[true, true, true, true, true, true, true, false, false, false] rfl rfl (one_of HT_.out (by kernel_rfl)) (by decide) (fun K hK => ?_)
              refine goes_ Try.func41 (by kernel_rfl) rfl #[.slice (some ad241) l0.length c0, .int .i64 a1] (by rfl) rfl rfl (by (try simp only [List.map_toArray, List.map_cons, List.map_nil]); first | done | rfl | (simp only [List.length_drop, List.length_take]; rfl)) ?_
              with_reducible refine (wayfinderref14_without.calls kj3 (fun k_ => ((P0_ k_ ∨ w.heap.size ≤ k_) ∧ k_ ≠ gb237)) _ _ l0 a1 t238 _ ?side1 A10.out).mono ?_
              (case side1 => exact HO_0.out)
              rintro e w14 ⟨v239, rfl, ho0, hb⟩
              have HS0_ := (hb.cell (World.block_lt_of_cell? _ _ (hHeld.1))).trans (hHeld.1)
              have HS1_ := (hb.cell (World.block_lt_of_cell? _ _ (hHeld.2.1))).trans (hHeld.2.1)
              have HS2_ := (hb.cell (World.block_lt_of_cell? _ _ (hHeld.2.2))).trans (hHeld.2.2)
              refine ⟨_, rfl, ?_⟩
              have n0_ := Aside0.mk (Kd.V_elder' (by (with_reducible repeat (first | apply Kd.V_alloc | apply Kd.V_drewN | apply Kd.V_drew)); exact HO_0.out) (Kd.N_base ho0) hb)
              have n1_ := Aside0.mk (Kd.V_elder' (by (with_reducible repeat (first | apply Kd.V_alloc | apply Kd.V_drewN | apply Kd.V_drew)); exact HL241_2.out) (Kd.N_base ho0) hb)
              have n2_ := Aside0.mk (Kd.N_lower (Kd.N_mono (ok' := fun k_ => (P0_ k_ ∨ w.heap.size ≤ k_) ∧ k_ ≠ gb237) ho0 (fun k_ hk_ => ⟨Or.elim hk_ (fun hs_ => hs_.1) (fun hn_ => (.inr (Nat.le_trans (below_size (by repeat (first | (with_reducible first | exact HB.out | apply below_alloc | apply pw_below_drewN | apply below_drew1 | refine below_set ?_ GE237.out) | exact HB.out))) hn_))), Or.elim hk_ (fun hs_ => hs_.2) (fun hn_ => (Kd.freshB (g := gb237) (o := .cells #[.int .i64 0, .bool false, .slice none 0 0] 54 (0, 0)) (by (with_reducible repeat (first | refine blk_drewN ?_ _ | refine blk_drew ?_ | refine blk_alloc ?_ _)); exact BK237.out) k_ hn_))⟩)) (below_size (by repeat (first | (with_reducible first | exact HB.out | apply below_alloc | apply pw_below_drewN | apply below_drew1 | refine below_set ?_ GE237.out) | exact HB.out))))
              have n3_ := Aside0.mk (blk_below (g := gb237) (o := .cells #[.int .i64 0, .bool false, .slice none 0 0] 54 (0, 0)) (by (with_reducible repeat (first | refine blk_drewN ?_ _ | refine blk_drew ?_ | refine blk_alloc ?_ _)); exact BK237.out) hb)
              have n4_ := Aside0.mk (Kd.C_below (by repeat (first | (with_reducible exact HR241_2.out) | (with_reducible refine Kd.C_alloc ?_ _) | (with_reducible refine Kd.C_drewN ?_ _) | (with_reducible refine Kd.C_drew ?_) | exact HR241_2.out)) hb)
              have n5_ := Aside0.mk (below_step (by repeat (first | (with_reducible first | exact HB.out | apply below_alloc | apply pw_below_drewN | apply below_drew1 | refine below_set ?_ GE237.out) | exact HB.out)) hb)
              clear HO_0
              clear HL241_2
              clear BK237
              clear HR241_2
              clear HB
              have HO_0 := n0_
              have HL241_2 := n1_
              have HO240 := n2_
              have BK237 := n3_
              have HR241_2 := n4_
              have HB := n5_
              clear n0_ n1_ n2_ n3_ n4_ n5_
              (try clear hb)
              (try clear hb2)
              (try clear hk)
              (try clear hi)
              (try clear ho0)
              refine hK.out _ _ ⟨HS0_, HS1_, HS2_⟩ (fun hHeld => ?_)
              clear hK K
              refine norm_ (a' := ?_) ?_ ?_
              rotate_left
              · show Act.put _ (some 24) _ = _
                simp only [Act.put, List.setIfInBounds_toArray, List.set_cons_zero, List.set_cons_succ, i64_w, i32_w]
                rfl
              refine pure_ (i := 7) (N := some 6) (v := ?_) (a' := ?_) #[true, true, true, true, true, true, true, true, false, false] rfl rfl (any_of HT_.out (by kernel_rfl)) (fun _ _ _ h => h) (Or.inl ⟨by rfl, ?_⟩) ?_ ?_
              rotate_left
              · intro w'
                go_simp
                with_reducible rfl
              rotate_left
              · simp only [Act.put, List.setIfInBounds_toArray, List.set_cons_zero, List.set_cons_succ, i64_w, i32_w]
                rfl
              refine one_ (i := 8) (N := none) #[true, true, true, true, true, true, true, true, true, false] rfl rfl (one_of HT_.out (by kernel_rfl)) (by decide) (fun K hK => ?_)
              have hs15 : w14.cell? ⟨gb237, 0, none⟩ = some (.int .i64 0) := (blk_cell BK237.out 0).trans rfl
              have hfs15 := blk_frozen BK237.out 0
              have hs16 : w14.cell? ⟨gb237, 1, none⟩ = some (.bool false) := (blk_cell BK237.out 1).trans rfl
              have hfs16 := blk_frozen BK237.out 1
              have hs17 : w14.cell? ⟨gb237, 2, none⟩ = some (.slice none 0 0) := (blk_cell BK237.out 2).trans rfl
              have hfs17 := blk_frozen BK237.out 2
              refine skip_ (w1 := ?_) (by rfl) rfl ?_ ?_
              rotate_left
              · go_simp
                rfl
              refine hK.out _ _ ⟨((cell_far (p := ⟨gb237, _, none⟩) (by first | exact Kd.own_blk (Kd.V_away HO_0.out (fun _ hk => hk.1.2)) | (rw [add_block]; exact Kd.own_blk (Kd.V_away HO_0.out (fun _ hk => hk.1.2))) | (show (Addr.add _ _).block ≠ _; rw [add_block]; exact Kd.own_blk (Kd.V_away HO_0.out (fun _ hk => hk.1.2))) | (dsimp only; exact Kd.own_blk (Kd.V_away HO_0.out (fun _ hk => hk.1.2)))) _).trans (((cell_far (p := ⟨gb237, _, none⟩) (by first | exact Kd.own_blk (Kd.V_away HO_0.out (fun _ hk => hk.1.2)) | (rw [add_block]; exact Kd.own_blk (Kd.V_away HO_0.out (fun _ hk => hk.1.2))) | (show (Addr.add _ _).block ≠ _; rw [add_block]; exact Kd.own_blk (Kd.V_away HO_0.out (fun _ hk => hk.1.2))) | (dsimp only; exact Kd.own_blk (Kd.V_away HO_0.out (fun _ hk => hk.1.2)))) _).trans (((cell_far (p := ⟨gb237, _, none⟩) (by first | exact Kd.own_blk (Kd.V_away HO_0.out (fun _ hk => hk.1.2)) | (rw [add_block]; exact Kd.own_blk (Kd.V_away HO_0.out (fun _ hk => hk.1.2))) | (show (Addr.add _ _).block ≠ _; rw [add_block]; exact Kd.own_blk (Kd.V_away HO_0.out (fun _ hk => hk.1.2))) | (dsimp only; exact Kd.own_blk (Kd.V_away HO_0.out (fun _ hk => hk.1.2)))) _).trans (hHeld.1)))))), ((cell_far (p := ⟨gb237, _, none⟩) (by first | exact Kd.own_blk (Kd.V_away HO_0.out (fun _ hk => hk.1.2)) | (rw [add_block]; exact Kd.own_blk (Kd.V_away HO_0.out (fun _ hk => hk.1.2))) | (show (Addr.add _ _).block ≠ _; rw [add_block]; exact Kd.own_blk (Kd.V_away HO_0.out (fun _ hk => hk.1.2))) | (dsimp only; exact Kd.own_blk (Kd.V_away HO_0.out (fun _ hk => hk.1.2)))) _).trans (((cell_far (p := ⟨gb237, _, none⟩) (by first | exact Kd.own_blk (Kd.V_away HO_0.out (fun _ hk => hk.1.2)) | (rw [add_block]; exact Kd.own_blk (Kd.V_away HO_0.out (fun _ hk => hk.1.2))) | (show (Addr.add _ _).block ≠ _; rw [add_block]; exact Kd.own_blk (Kd.V_away HO_0.out (fun _ hk => hk.1.2))) | (dsimp only; exact Kd.own_blk (Kd.V_away HO_0.out (fun _ hk => hk.1.2)))) _).trans (((cell_far (p := ⟨gb237, _, none⟩) (by first | exact Kd.own_blk (Kd.V_away HO_0.out (fun _ hk => hk.1.2)) | (rw [add_block]; exact Kd.own_blk (Kd.V_away HO_0.out (fun _ hk => hk.1.2))) | (show (Addr.add _ _).block ≠ _; rw [add_block]; exact Kd.own_blk (Kd.V_away HO_0.out (fun _ hk => hk.1.2))) | (dsimp only; exact Kd.own_blk (Kd.V_away HO_0.out (fun _ hk => hk.1.2)))) _).trans (hHeld.2.1)))))), ((cell_far (p := ⟨gb237, _, none⟩) (by first | exact Kd.own_blk (Kd.V_away HO_0.out (fun _ hk => hk.1.2)) | (rw [add_block]; exact Kd.own_blk (Kd.V_away HO_0.out (fun _ hk => hk.1.2))) | (show (Addr.add _ _).block ≠ _; rw [add_block]; exact Kd.own_blk (Kd.V_away HO_0.out (fun _ hk => hk.1.2))) | (dsimp only; exact Kd.own_blk (Kd.V_away HO_0.out (fun _ hk => hk.1.2)))) _).trans (((cell_far (p := ⟨gb237, _, none⟩) (by first | exact Kd.own_blk (Kd.V_away HO_0.out (fun _ hk => hk.1.2)) | (rw [add_block]; exact Kd.own_blk (Kd.V_away HO_0.out (fun _ hk => hk.1.2))) | (show (Addr.add _ _).block ≠ _; rw [add_block]; exact Kd.own_blk (Kd.V_away HO_0.out (fun _ hk => hk.1.2))) | (dsimp only; exact Kd.own_blk (Kd.V_away HO_0.out (fun _ hk => hk.1.2)))) _).trans (((cell_far (p := ⟨gb237, _, none⟩) (by first | exact Kd.own_blk (Kd.V_away HO_0.out (fun _ hk => hk.1.2)) | (rw [add_block]; exact Kd.own_blk (Kd.V_away HO_0.out (fun _ hk => hk.1.2))) | (show (Addr.add _ _).block ≠ _; rw [add_block]; exact Kd.own_blk (Kd.V_away HO_0.out (fun _ hk => hk.1.2))) | (dsimp only; exact Kd.own_blk (Kd.V_away HO_0.out (fun _ hk => hk.1.2)))) _).trans (hHeld.2.2))))))⟩ (fun hHeld => ?_)
              clear hK K
              refine pure_ (i := 9) (N := some 8) (v := ?_) (a' := ?_) #[true, true, true, true, true, true, true, true, true, true] rfl rfl (any_of HT_.out (by kernel_rfl)) (fun _ _ _ h => h) (Or.inl ⟨by rfl, ?_⟩) ?_ ?_
              rotate_left
              · intro w'
                go_simp
                with_reducible rfl
              rotate_left
              · simp only [Act.put, List.setIfInBounds_toArray, List.set_cons_zero, List.set_cons_succ, i64_w, i32_w]
                rfl
              refine done_ (done_of HT_.out (by kernel_rfl)) ?_
              try go_wp2
              refine bodyPost_ret (results_list (rs := [.tmp 6, .cell 7 54, .tmp 8]) rfl (by simp) (.tmp (.cell gb237 54 #[.int .i64 ((rd_T54 l0 a1).f0), .bool ((rd_T54 l0 a1).f1), .slice A241_2 ((rd_T54 l0 a1).f2).length c241_2] (0, 0) _ rfl (by (with_reducible repeat (first | refine blk_drewN ?_ _ | refine blk_drew ?_ | refine blk_alloc ?_ _)); refine blk_put (cs := #[.int .i64 ((rd_T54 l0 a1).f0), .bool ((rd_T54 l0 a1).f1), .slice none 0 0]) ?_ 2 _ rfl; (with_reducible repeat (first | refine blk_drewN ?_ _ | refine blk_drew ?_ | refine blk_alloc ?_ _)); refine blk_put (cs := #[.int .i64 ((rd_T54 l0 a1).f0), .bool false, .slice none 0 0]) ?_ 1 _ rfl; (with_reducible repeat (first | refine blk_drewN ?_ _ | refine blk_drew ?_ | refine blk_alloc ?_ _)); refine blk_put (cs := #[.int .i64 0, .bool false, .slice none 0 0]) ?_ 0 _ rfl; (with_reducible repeat (first | refine blk_drewN ?_ _ | refine blk_drew ?_ | refine blk_alloc ?_ _)); exact BK237.out) Try.underlying54 rfl (by kernel_rfl) (.tmp .nil)))) rfl ?_
              exact ⟨_, _, by first | rfl | (simp [errW_none, errW_some] <;> rfl) | (simp [*, errW_none, errW_some] <;> rfl), Kd.N_V (by (with_reducible repeat (first | apply Kd.N_alloc | apply Kd.N_drewN | apply Kd.N_drew)); exact Kd.N_mono (Kd.N_far (p := ⟨gb237, 2, none⟩) (Kd.N_far (p := ⟨gb237, 1, none⟩) (Kd.N_far (p := ⟨gb237, 0, none⟩) (Kd.N_mono HO240.out (fun k_ hk => (⟨hk, hk.2⟩ : _ ∧ k_ ≠ gb237))) (fun _ hk => hk.2) (.int .i64 ((rd_T54 l0 a1).f0))) (fun _ hk => hk.2) (.bool ((rd_T54 l0 a1).f1))) (fun _ hk => hk.2) (.slice A241_2 ((rd_T54 l0 a1).f2).length c241_2)) (fun _ hk => hk.1.1)), by (with_reducible repeat (first | apply Kd.V_alloc | apply Kd.V_drewN | apply Kd.V_drew)); exact Kd.V_mono (Kd.V_far (p := ⟨gb237, 2, none⟩) (Kd.V_far (p := ⟨gb237, 1, none⟩) (Kd.V_far (p := ⟨gb237, 0, none⟩) (Kd.V_mono HL241_2.out (fun k_ hk => (⟨hk, hk.1.2⟩ : _ ∧ k_ ≠ gb237))) (fun _ hk => hk.2) (.int .i64 ((rd_T54 l0 a1).f0))) (fun _ hk => hk.2) (.bool ((rd_T54 l0 a1).f1))) (fun _ hk => hk.2) (.slice A241_2 ((rd_T54 l0 a1).f2).length c241_2)) (fun _ hk => hk.1.1.1), by repeat (first | (with_reducible first | exact HB.out | apply below_alloc | apply pw_below_drewN | apply below_drew1 | refine below_set ?_ GE237.out) | exact HB.out)⟩
            · rw [if_neg c12] at H
              exact absurd H (by simp)
          · rw [if_neg c11] at H
            exact absurd H (by simp)
        · rw [if_neg c9] at H
          have c9b0 : (a2 == 0) = false := beq_eq_false_iff_ne.mpr c9
          have c9b1 : (a2 != 0) = true := bne_iff_ne.mpr c9
          by_cases c18 : a2 = 1
          · rw [if_pos c18] at H
            have c18b0 : (a2 == 1) = true := beq_iff_eq.mpr c18
            have c18b1 : (a2 != 1) = false := bne_eq_false_iff_eq.mpr c18
            clear c18
            replace H := Option.bind_eq_some_iff.mp H
            obtain ⟨t242, A190, H⟩ := H
            replace H : (some (t242, 0, false, ([] : List Int), false)) = some (r1, r2, r3, r4, r5) := H
            have A19 := Aside0.mk A190
            clear A190
            simp only [Option.some.injEq, Prod.mk.injEq] at H
            obtain ⟨rfl, rfl, rfl, rfl, rfl⟩ := H
            go_wp2_with (first | ((with_reducible refine gate_callee (f := 41) rfl ?_); refine goesL_ (some 33) rfl rfl Try.func41 (by kernel_rfl) rfl #[.slice A0 l0.length c0, .int .i64 a1] rfl (by (try simp only [List.map_toArray, List.map_cons, List.map_nil]); first | done | rfl | (simp only [List.length_drop, List.length_take]; rfl)) ?_; (with_reducible refine (wayfinderref14_without.calls kj3 (fun k_ => ((P0_ k_ ∨ w.heap.size ≤ k_) ∧ k_ ≠ gb237)) _ _ l0 a1 t242 _ ?side1 A19.out).mono ?_); (case side1 => exact HO_0.out); rintro e w20 ⟨v243, rfl, ho0, hb⟩; refine ⟨_, rfl, ?_⟩; have n0_ := Aside0.mk (Kd.V_elder' (by (with_reducible repeat (first | apply Kd.V_alloc | apply Kd.V_drewN | apply Kd.V_drew)); exact HO_0.out) (Kd.N_base ho0) hb); have n1_ := Aside0.mk (Kd.N_lower (Kd.N_mono (ok' := fun k_ => (P0_ k_ ∨ w.heap.size ≤ k_) ∧ k_ ≠ gb237) ho0 (fun k_ hk_ => ⟨Or.elim hk_ (fun hs_ => hs_.1) (fun hn_ => (.inr (Nat.le_trans (below_size (by repeat (first | (with_reducible first | exact HB.out | apply below_alloc | apply pw_below_drewN | apply below_drew1 | refine below_set ?_ GE237.out) | exact HB.out))) hn_))), Or.elim hk_ (fun hs_ => hs_.2) (fun hn_ => (Kd.freshB (g := gb237) (o := .cells #[.int .i64 0, .bool false, .slice none 0 0] 54 (0, 0)) (by (with_reducible repeat (first | refine blk_drewN ?_ _ | refine blk_drew ?_ | refine blk_alloc ?_ _)); exact BK237.out) k_ hn_))⟩)) (below_size (by repeat (first | (with_reducible first | exact HB.out | apply below_alloc | apply pw_below_drewN | apply below_drew1 | refine below_set ?_ GE237.out) | exact HB.out)))); have n2_ := Aside0.mk (blk_below (g := gb237) (o := .cells #[.int .i64 0, .bool false, .slice none 0 0] 54 (0, 0)) (by (with_reducible repeat (first | refine blk_drewN ?_ _ | refine blk_drew ?_ | refine blk_alloc ?_ _)); exact BK237.out) hb); have n3_ := Aside0.mk (below_step (by repeat (first | (with_reducible first | exact HB.out | apply below_alloc | apply pw_below_drewN | apply below_drew1 | refine below_set ?_ GE237.out) | exact HB.out)) hb); clear HO_0; clear BK237; clear HB; have HO_0 := n0_; have HO244 := n1_; have BK237 := n2_; have HB := n3_; clear n0_ n1_ n2_ n3_; (try clear hb); (try clear hb2); (try clear hk); (try clear hi); (try clear ho0); have hcz21_0 : w20.cell? ⟨gb237, 0, none⟩ = some (.int .i64 0) := (blk_cell BK237.out 0).trans rfl; have hcz21_1 : w20.cell? ⟨gb237, 1, none⟩ = some (.bool false) := (blk_cell BK237.out 1).trans rfl; have hcz21_2 : w20.cell? ⟨gb237, 2, none⟩ = some (.slice none 0 0) := (blk_cell BK237.out 2).trans rfl; have hfz21_0 := blk_frozen BK237.out 0; have hfz21_1 := blk_frozen BK237.out 1; have hfz21_2 := blk_frozen BK237.out 2))
            refine bodyPost_ret (results_list (rs := [.tmp 6, .cell 7 54, .tmp 8]) rfl (by simp) (.tmp (.cell gb237 54 #[.int .i64 0, .bool false, .slice none 0 0] (0, 0) _ rfl (by (with_reducible repeat (first | refine blk_drewN ?_ _ | refine blk_drew ?_ | refine blk_alloc ?_ _)); refine blk_put (cs := #[.int .i64 0, .bool false, .slice none 0 0]) ?_ 2 _ rfl; (with_reducible repeat (first | refine blk_drewN ?_ _ | refine blk_drew ?_ | refine blk_alloc ?_ _)); refine blk_put (cs := #[.int .i64 0, .bool false, .slice none 0 0]) ?_ 1 _ rfl; (with_reducible repeat (first | refine blk_drewN ?_ _ | refine blk_drew ?_ | refine blk_alloc ?_ _)); refine blk_put (cs := #[.int .i64 0, .bool false, .slice none 0 0]) ?_ 0 _ rfl; (with_reducible repeat (first | refine blk_drewN ?_ _ | refine blk_drew ?_ | refine blk_alloc ?_ _)); exact BK237.out) Try.underlying54 rfl (by kernel_rfl) (.tmp .nil)))) rfl ?_
            exact ⟨_, _, by first | rfl | (simp [errW_none, errW_some] <;> rfl) | (simp [*, errW_none, errW_some] <;> rfl), Kd.N_V (by (with_reducible repeat (first | apply Kd.N_alloc | apply Kd.N_drewN | apply Kd.N_drew)); exact Kd.N_mono (Kd.N_far (p := ⟨gb237, 2, none⟩) (Kd.N_far (p := ⟨gb237, 1, none⟩) (Kd.N_far (p := ⟨gb237, 0, none⟩) (Kd.N_mono HO244.out (fun k_ hk => (⟨hk, hk.2⟩ : _ ∧ k_ ≠ gb237))) (fun _ hk => hk.2) (.int .i64 0)) (fun _ hk => hk.2) (.bool false)) (fun _ hk => hk.2) (.slice none 0 0)) (fun _ hk => hk.1.1)), V_none, by repeat (first | (with_reducible first | exact HB.out | apply below_alloc | apply pw_below_drewN | apply below_drew1 | refine below_set ?_ GE237.out) | exact HB.out)⟩
          · rw [if_neg c18] at H
            have c18b0 : (a2 == 1) = false := beq_eq_false_iff_ne.mpr c18
            have c18b1 : (a2 != 1) = true := bne_iff_ne.mpr c18
            by_cases c22 : a2 = 2
            · rw [if_pos c22] at H
              have c22b0 : (a2 == 2) = true := beq_iff_eq.mpr c22
              have c22b1 : (a2 != 2) = false := bne_eq_false_iff_eq.mpr c22
              clear c22
              by_cases c23 : 0 ≤ a1
              · rw [if_pos c23] at H
                have c23b0 : decide (0 ≤ a1) = true := decide_eq_true c23
                clear c23
                by_cases c24 : a1 < (l0.length : Int)
                · rw [if_pos c24] at H
                  have c24b0 : decide (a1 < (l0.length : Int)) = true := decide_eq_true c24
                  clear c24
                  simp only [Option.some.injEq, Prod.mk.injEq] at H
                  obtain ⟨rfl, rfl, rfl, rfl, rfl⟩ := H
                  try go_wp2
                  have n0_ := Aside0.mk (Kd.V_drew HO_0.out)
                  have n1_ := Aside0.mk (blk_drew BK237.out)
                  have n2_ := Aside0.mk (below_drew1 HB.out)
                  clear HO_0
                  clear BK237
                  clear HB
                  have HO_0 := n0_
                  have BK237 := n1_
                  have HB := n2_
                  clear n0_ n1_ n2_
                  have p245 : 0 ≤ (a1 : Int) := of_decide_eq_true (by first | (with_reducible assumption) | assumption)
                  have q245 : a1 < (l0.length : Int) := of_decide_eq_true (by first | (with_reducible assumption) | assumption)
                  obtain ⟨ad245, A245_2, c245_2, e245, hx245_0, hx245_1, hx245_2, hl245_2, hi245_2⟩ := at_T54 (Kd.V_reads' HO_0.out).2.2 a1 p245 q245
                  cases e245
                  obtain ⟨ce245, hce245, hMe245, hcc245⟩ := Kd.V_get HO_0.out z54 a1 p245 (by first | exact q245 | exact of_decide_eq_true (by first | (with_reducible assumption) | assumption) | (have e_ := (Kd.V_reads' HO_0.out).1; omega))
                  obtain ⟨ua245_2, uc245_2, rfl, ul245_2, ge245_2⟩ := k54_openF hMe245
                  have hv245_2 := hcc245 2 _ rfl
                  rw [add_field _ _ 2 (by omega)] at hv245_2
                  replace hv245_2 := Option.some.inj (hv245_2.symm.trans hx245_2)
                  injection hv245_2 with hva_ hvn_ hvc_
                  rw [hva_] at ge245_2
                  rw [hvc_] at ul245_2
                  have HL245_2 := Aside0.mk (show Kd.V (Kd.int .u8) 5 _ w.heap.size _ _ ((rd_T54 l0 a1).f2) from Kd.V_mk ul245_2 ge245_2)
                  clear hva_ hvn_ hvc_ ge245_2 ul245_2
                  clear hcc245 hce245
                  have HR245_2 := Aside0.mk hi245_2
                  have HC245_2 := Aside0.mk hl245_2
                  clear hi245_2 hl245_2
                  replace p245 := eq_true p245
                  replace q245 := eq_true q245
                  refine start_ (n := 8) (S := fun w' => w'.cell? (ad245.add ((a1).toNat * 3)) = some (.int .i64 ((rd_T54 l0 a1).f0)) ∧ w'.cell? ⟨(ad245.add ((a1).toNat * 3)).block, (ad245.add ((a1).toNat * 3)).off + 1, none⟩ = some (.bool ((rd_T54 l0 a1).f1)) ∧ w'.cell? ⟨(ad245.add ((a1).toNat * 3)).block, (ad245.add ((a1).toNat * 3)).off + 2, none⟩ = some (.slice A245_2 ((rd_T54 l0 a1).f2).length c245_2)) (ds := []) #[false, false, false, false, false, false, false, false] (by kernel_rfl) rfl rfl ⟨hx245_0, hx245_1, hx245_2⟩ (fun hHeld => ?_); refine with_tabW wayfinderref14_Fate.tab9 wayfinderref14_Fate.bits9 (fun HT_ HW_ => ?_)
                  generalize wc.drew = w25 at HO_0 BK237 HB HL245_2 HR245_2 hx245_0 hx245_1 hx245_2 hHeld ⊢
                  refine pure_ (i := 0) (N := some 37) (v := ?_) (a' := ?_) #[true, false, false, false, false, false, false, false] rfl rfl (any_of HT_.out (by kernel_rfl)) (fun _ _ _ h => h) (Or.inl ⟨by rfl, ?_⟩) ?_ ?_
                  rotate_left
                  · intro w'
                    go_simp
                    with_reducible rfl
                  rotate_left
                  · simp only [Act.put, List.setIfInBounds_toArray, List.set_cons_zero, List.set_cons_succ, i64_w, i32_w]
                    rfl
                  refine pure_ (i := 1) (N := some 38) (v := ?_) (a' := ?_) #[true, true, false, false, false, false, false, false] rfl rfl (any_of HT_.out (by kernel_rfl)) (fun _ _ _ h => h) (Or.inl ⟨by rfl, ?_⟩) ?_ ?_
                  rotate_left
                  · intro w'
                    go_simp
                    with_reducible rfl
                  rotate_left
                  · simp only [Act.put, List.setIfInBounds_toArray, List.set_cons_zero, List.set_cons_succ, i64_w, i32_w]
                    rfl
                  refine pure_ (i := 2) (N := some 39) (v := ?_) (a' := ?_) #[true, true, true, false, false, false, false, false] rfl rfl (any_of HT_.out (by kernel_rfl)) (fun _ _ _ h => h) (Or.inl ⟨by rfl, ?_⟩) ?_ ?_
                  rotate_left
                  · intro w'
                    go_simp
                    with_reducible rfl
                  rotate_left
                  · simp only [Act.put, List.setIfInBounds_toArray, List.set_cons_zero, List.set_cons_succ, i64_w, i32_w]
                    rfl
                  refine pure_ (i := 3) (N := some 40) (v := ?_) (a' := ?_) #[true, true, true, true, false, false, false, false] rfl rfl (any_of HT_.out (by kernel_rfl)) (fun _ _ _ h => h) (Or.inl ⟨by rfl, ?_⟩) ?_ ?_
                  rotate_left
                  · intro w'
                    go_simp
                    with_reducible rfl
                  rotate_left
                  · simp only [Act.put, List.setIfInBounds_toArray, List.set_cons_zero, List.set_cons_succ, i64_w, i32_w]
                    rfl
                  refine pure_ (i := 5) (N := some 6) (v := ?_) (a' := ?_) #[true, true, true, true, false, true, false, false] rfl rfl (any_of HT_.out (by kernel_rfl)) (fun _ _ _ h => h) (Or.inl ⟨by rfl, ?_⟩) ?_ ?_
                  rotate_left
                  · intro w'
                    go_simp
                    with_reducible rfl
                  rotate_left
                  · simp only [Act.put, List.setIfInBounds_toArray, List.set_cons_zero, List.set_cons_succ, i64_w, i32_w]
                    rfl
                  refine take_ (i := 4) (N := some 41) (v := ?_) (a' := ?_) #[true, true, true, true, true, true, false, false] rfl rfl (take_ofW HT_.out HW_.out (by kernel_rfl)) (fun _ _ _ h => h) (Or.inl ⟨by rfl, ?_⟩) hHeld ?_ ?_
                  rotate_left
                  · rintro w' ⟨s0, s1, s2⟩
                    go_simp
                    with_reducible rfl
                  rotate_left
                  · simp only [Act.put, List.setIfInBounds_toArray, List.set_cons_zero, List.set_cons_succ, i64_w, i32_w]
                    rfl
                  refine one_ (i := 6) (N := none) #[true, true, true, true, true, true, true, false] rfl rfl (one_of HT_.out (by kernel_rfl)) (by decide) (fun K hK => ?_)
                  have hs26 : w25.cell? ⟨gb237, 0, none⟩ = some (.int .i64 0) := (blk_cell BK237.out 0).trans rfl
                  have hfs26 := blk_frozen BK237.out 0
                  have hs27 : w25.cell? ⟨gb237, 1, none⟩ = some (.bool false) := (blk_cell BK237.out 1).trans rfl
                  have hfs27 := blk_frozen BK237.out 1
                  have hs28 : w25.cell? ⟨gb237, 2, none⟩ = some (.slice none 0 0) := (blk_cell BK237.out 2).trans rfl
                  have hfs28 := blk_frozen BK237.out 2
                  refine skip_ (w1 := ?_) (by rfl) rfl ?_ ?_
                  rotate_left
                  · go_simp
                    rfl
                  refine hK.out _ _ ⟨((cell_far (p := ⟨gb237, _, none⟩) (by first | exact Kd.own_blk (Kd.V_away HO_0.out (fun _ hk => hk.2)) | (rw [add_block]; exact Kd.own_blk (Kd.V_away HO_0.out (fun _ hk => hk.2))) | (show (Addr.add _ _).block ≠ _; rw [add_block]; exact Kd.own_blk (Kd.V_away HO_0.out (fun _ hk => hk.2))) | (dsimp only; exact Kd.own_blk (Kd.V_away HO_0.out (fun _ hk => hk.2)))) _).trans (((cell_far (p := ⟨gb237, _, none⟩) (by first | exact Kd.own_blk (Kd.V_away HO_0.out (fun _ hk => hk.2)) | (rw [add_block]; exact Kd.own_blk (Kd.V_away HO_0.out (fun _ hk => hk.2))) | (show (Addr.add _ _).block ≠ _; rw [add_block]; exact Kd.own_blk (Kd.V_away HO_0.out (fun _ hk => hk.2))) | (dsimp only; exact Kd.own_blk (Kd.V_away HO_0.out (fun _ hk => hk.2)))) _).trans (((cell_far (p := ⟨gb237, _, none⟩) (by first | exact Kd.own_blk (Kd.V_away HO_0.out (fun _ hk => hk.2)) | (rw [add_block]; exact Kd.own_blk (Kd.V_away HO_0.out (fun _ hk => hk.2))) | (show (Addr.add _ _).block ≠ _; rw [add_block]; exact Kd.own_blk (Kd.V_away HO_0.out (fun _ hk => hk.2))) | (dsimp only; exact Kd.own_blk (Kd.V_away HO_0.out (fun _ hk => hk.2)))) _).trans (hHeld.1)))))), ((cell_far (p := ⟨gb237, _, none⟩) (by first | exact Kd.own_blk (Kd.V_away HO_0.out (fun _ hk => hk.2)) | (rw [add_block]; exact Kd.own_blk (Kd.V_away HO_0.out (fun _ hk => hk.2))) | (show (Addr.add _ _).block ≠ _; rw [add_block]; exact Kd.own_blk (Kd.V_away HO_0.out (fun _ hk => hk.2))) | (dsimp only; exact Kd.own_blk (Kd.V_away HO_0.out (fun _ hk => hk.2)))) _).trans (((cell_far (p := ⟨gb237, _, none⟩) (by first | exact Kd.own_blk (Kd.V_away HO_0.out (fun _ hk => hk.2)) | (rw [add_block]; exact Kd.own_blk (Kd.V_away HO_0.out (fun _ hk => hk.2))) | (show (Addr.add _ _).block ≠ _; rw [add_block]; exact Kd.own_blk (Kd.V_away HO_0.out (fun _ hk => hk.2))) | (dsimp only; exact Kd.own_blk (Kd.V_away HO_0.out (fun _ hk => hk.2)))) _).trans (((cell_far (p := ⟨gb237, _, none⟩) (by first | exact Kd.own_blk (Kd.V_away HO_0.out (fun _ hk => hk.2)) | (rw [add_block]; exact Kd.own_blk (Kd.V_away HO_0.out (fun _ hk => hk.2))) | (show (Addr.add _ _).block ≠ _; rw [add_block]; exact Kd.own_blk (Kd.V_away HO_0.out (fun _ hk => hk.2))) | (dsimp only; exact Kd.own_blk (Kd.V_away HO_0.out (fun _ hk => hk.2)))) _).trans (hHeld.2.1)))))), ((cell_far (p := ⟨gb237, _, none⟩) (by first | exact Kd.own_blk (Kd.V_away HO_0.out (fun _ hk => hk.2)) | (rw [add_block]; exact Kd.own_blk (Kd.V_away HO_0.out (fun _ hk => hk.2))) | (show (Addr.add _ _).block ≠ _; rw [add_block]; exact Kd.own_blk (Kd.V_away HO_0.out (fun _ hk => hk.2))) | (dsimp only; exact Kd.own_blk (Kd.V_away HO_0.out (fun _ hk => hk.2)))) _).trans (((cell_far (p := ⟨gb237, _, none⟩) (by first | exact Kd.own_blk (Kd.V_away HO_0.out (fun _ hk => hk.2)) | (rw [add_block]; exact Kd.own_blk (Kd.V_away HO_0.out (fun _ hk => hk.2))) | (show (Addr.add _ _).block ≠ _; rw [add_block]; exact Kd.own_blk (Kd.V_away HO_0.out (fun _ hk => hk.2))) | (dsimp only; exact Kd.own_blk (Kd.V_away HO_0.out (fun _ hk => hk.2)))) _).trans (((cell_far (p := ⟨gb237, _, none⟩) (by first | exact Kd.own_blk (Kd.V_away HO_0.out (fun _ hk => hk.2)) | (rw [add_block]; exact Kd.own_blk (Kd.V_away HO_0.out (fun _ hk => hk.2))) | (show (Addr.add _ _).block ≠ _; rw [add_block]; exact Kd.own_blk (Kd.V_away HO_0.out (fun _ hk => hk.2))) | (dsimp only; exact Kd.own_blk (Kd.V_away HO_0.out (fun _ hk => hk.2)))) _).trans (hHeld.2.2))))))⟩ (fun hHeld => ?_)
                  clear hK K
                  refine pure_ (i := 7) (N := some 8) (v := ?_) (a' := ?_) #[true, true, true, true, true, true, true, true] rfl rfl (any_of HT_.out (by kernel_rfl)) (fun _ _ _ h => h) (Or.inl ⟨by rfl, ?_⟩) ?_ ?_
                  rotate_left
                  · intro w'
                    go_simp
                    with_reducible rfl
                  rotate_left
                  · simp only [Act.put, List.setIfInBounds_toArray, List.set_cons_zero, List.set_cons_succ, i64_w, i32_w]
                    rfl
                  refine done_ (done_of HT_.out (by kernel_rfl)) ?_
                  try go_wp2
                  refine bodyPost_ret (results_list (rs := [.tmp 6, .cell 7 54, .tmp 8]) rfl (by simp) (.tmp (.cell gb237 54 #[.int .i64 ((rd_T54 l0 a1).f0), .bool ((rd_T54 l0 a1).f1), .slice A245_2 ((rd_T54 l0 a1).f2).length c245_2] (0, 0) _ rfl (by (with_reducible repeat (first | refine blk_drewN ?_ _ | refine blk_drew ?_ | refine blk_alloc ?_ _)); refine blk_put (cs := #[.int .i64 ((rd_T54 l0 a1).f0), .bool ((rd_T54 l0 a1).f1), .slice none 0 0]) ?_ 2 _ rfl; (with_reducible repeat (first | refine blk_drewN ?_ _ | refine blk_drew ?_ | refine blk_alloc ?_ _)); refine blk_put (cs := #[.int .i64 ((rd_T54 l0 a1).f0), .bool false, .slice none 0 0]) ?_ 1 _ rfl; (with_reducible repeat (first | refine blk_drewN ?_ _ | refine blk_drew ?_ | refine blk_alloc ?_ _)); refine blk_put (cs := #[.int .i64 0, .bool false, .slice none 0 0]) ?_ 0 _ rfl; (with_reducible repeat (first | refine blk_drewN ?_ _ | refine blk_drew ?_ | refine blk_alloc ?_ _)); exact BK237.out) Try.underlying54 rfl (by kernel_rfl) (.tmp .nil)))) rfl ?_
                  exact ⟨_, _, by first | rfl | (simp [errW_none, errW_some] <;> rfl) | (simp [*, errW_none, errW_some] <;> rfl), by (with_reducible repeat (first | apply Kd.V_alloc | apply Kd.V_drewN | apply Kd.V_drew)); exact Kd.V_mono (Kd.V_far (p := ⟨gb237, 2, none⟩) (Kd.V_far (p := ⟨gb237, 1, none⟩) (Kd.V_far (p := ⟨gb237, 0, none⟩) (Kd.V_mono HO_0.out (fun k_ hk => (⟨hk, hk.2⟩ : _ ∧ k_ ≠ gb237))) (fun _ hk => hk.2) (.int .i64 ((rd_T54 l0 a1).f0))) (fun _ hk => hk.2) (.bool ((rd_T54 l0 a1).f1))) (fun _ hk => hk.2) (.slice A245_2 ((rd_T54 l0 a1).f2).length c245_2)) (fun _ hk => hk.1.1), by (with_reducible repeat (first | apply Kd.V_alloc | apply Kd.V_drewN | apply Kd.V_drew)); exact Kd.V_mono (Kd.V_far (p := ⟨gb237, 2, none⟩) (Kd.V_far (p := ⟨gb237, 1, none⟩) (Kd.V_far (p := ⟨gb237, 0, none⟩) (Kd.V_mono HL245_2.out (fun k_ hk => (⟨hk, hk.2⟩ : _ ∧ k_ ≠ gb237))) (fun _ hk => hk.2) (.int .i64 ((rd_T54 l0 a1).f0))) (fun _ hk => hk.2) (.bool ((rd_T54 l0 a1).f1))) (fun _ hk => hk.2) (.slice A245_2 ((rd_T54 l0 a1).f2).length c245_2)) (fun _ hk => hk.1.1), by repeat (first | (with_reducible first | exact HB.out | apply below_alloc | apply pw_below_drewN | apply below_drew1 | refine below_set ?_ GE237.out) | exact HB.out)⟩
                · rw [if_neg c24] at H
                  exact absurd H (by simp)
              · rw [if_neg c23] at H
                exact absurd H (by simp)
            · rw [if_neg c22] at H
              have c22b0 : (a2 == 2) = false := beq_eq_false_iff_ne.mpr c22
              have c22b1 : (a2 != 2) = true := bne_iff_ne.mpr c22
              simp only [Option.some.injEq, Prod.mk.injEq] at H
              obtain ⟨rfl, rfl, rfl, rfl, rfl⟩ := H
              have hcz29_0 : wc.cell? ⟨gb237, 0, none⟩ = some (.int .i64 0) := (blk_cell BK237.out 0).trans rfl
              have hcz29_1 : wc.cell? ⟨gb237, 1, none⟩ = some (.bool false) := (blk_cell BK237.out 1).trans rfl
              have hcz29_2 : wc.cell? ⟨gb237, 2, none⟩ = some (.slice none 0 0) := (blk_cell BK237.out 2).trans rfl
              have hfz29_0 := blk_frozen BK237.out 0
              have hfz29_1 := blk_frozen BK237.out 1
              have hfz29_2 := blk_frozen BK237.out 2
              go_wp2
              refine bodyPost_ret (results_list (rs := [.tmp 6, .cell 7 54, .tmp 8]) rfl (by simp) (.tmp (.cell gb237 54 #[.int .i64 0, .bool false, .slice none 0 0] (0, 0) _ rfl (by (with_reducible repeat (first | refine blk_drewN ?_ _ | refine blk_drew ?_ | refine blk_alloc ?_ _)); refine blk_put (cs := #[.int .i64 0, .bool false, .slice none 0 0]) ?_ 2 _ rfl; (with_reducible repeat (first | refine blk_drewN ?_ _ | refine blk_drew ?_ | refine blk_alloc ?_ _)); refine blk_put (cs := #[.int .i64 0, .bool false, .slice none 0 0]) ?_ 1 _ rfl; (with_reducible repeat (first | refine blk_drewN ?_ _ | refine blk_drew ?_ | refine blk_alloc ?_ _)); refine blk_put (cs := #[.int .i64 0, .bool false, .slice none 0 0]) ?_ 0 _ rfl; (with_reducible repeat (first | refine blk_drewN ?_ _ | refine blk_drew ?_ | refine blk_alloc ?_ _)); exact BK237.out) Try.underlying54 rfl (by kernel_rfl) (.tmp .nil)))) rfl ?_
              exact ⟨_, _, by first | rfl | (simp [errW_none, errW_some] <;> rfl) | (simp [*, errW_none, errW_some] <;> rfl), by (with_reducible repeat (first | apply Kd.V_alloc | apply Kd.V_drewN | apply Kd.V_drew)); exact Kd.V_mono (Kd.V_far (p := ⟨gb237, 2, none⟩) (Kd.V_far (p := ⟨gb237, 1, none⟩) (Kd.V_far (p := ⟨gb237, 0, none⟩) (Kd.V_mono HO_0.out (fun k_ hk => (⟨hk, hk.2⟩ : _ ∧ k_ ≠ gb237))) (fun _ hk => hk.2) (.int .i64 0)) (fun _ hk => hk.2) (.bool false)) (fun _ hk => hk.2) (.slice none 0 0)) (fun _ hk => hk.1.1), V_none, by repeat (first | (with_reducible first | exact HB.out | apply below_alloc | apply pw_below_drewN | apply below_drew1 | refine below_set ?_ GE237.out) | exact HB.out)⟩

end Go.Proofs.Ytifgncaihpoijaa.Print
