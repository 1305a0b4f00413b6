/- A text that a program of this session printed out of the translation: checked by Lean alone. -/
import Derived.Test.YtifgncaihpoijaaPrint0
import Derived.Test.YtifgncaihpoijaaPrint22
namespace Go.Proofs.Ytifgncaihpoijaa.Print
open Go.RowKit Go.Proofs.YtifgncaihpoijaaW.PrintWords Go.Proofs.YtifgncaihpoijaaW.PrintLast Go.Proofs.YtifgncaihpoijaaW.PrintMore
attribute [local go_sem] max2_int min2_int max_two min_two max_three min_three max_four min_four   -- for this text's walks alone
set_option linter.unusedVariables false
set_option linter.unusedSimpArgs false

/-! ### wayfinderref14_Same: function 27 -/
def wayfinderref14_Same.l0 : Nat → List (S54) → List (S54) → Int → Option (Bool)
  | 0, _, _, _ => none
  | k + 1, x0, x1, x5 => if x5 < (x0.length : Int) then (if 0 ≤ x5 then (if x5 < (x1.length : Int) then ((wayfinderref14_One.f ((rd_T54 x0 x5).f0) ((rd_T54 x0 x5).f1) ((rd_T54 x0 x5).f2) ((rd_T54 x1 x5).f0) ((rd_T54 x1 x5).f1) ((rd_T54 x1 x5).f2)).bind fun t232 => (if t232 = true then (wayfinderref14_Same.l0 k x0 x1 (wrap64 (x5 + 1))) else (some false))) else (none)) else (none)) else (some true)
def wayfinderref14_Same.f (k : Nat) (l0 : List (S54)) (l1 : List (S54)) : Option (Bool) := if (l0.length : Int) = (l1.length : Int) then (wayfinderref14_Same.l0 k l0 l1 0) else (some false)
theorem wayfinderref14_Same.mono_l : ∀ k, (∀ y0 y1 y2, LeO (wayfinderref14_Same.l0 k y0 y1 y2) (wayfinderref14_Same.l0 (k + 1) y0 y1 y2))
  | 0 => fun _ _ _ r h => by simp [wayfinderref14_Same.l0] at h
  | k + 1 => by
    have ih0 := wayfinderref14_Same.mono_l k
    · intro y0 y1 y2
      unfold wayfinderref14_Same.l0
      repeat' first
      | (with_reducible exact ih0 _ _ _)
      | (with_reducible exact LeO.refl _)
      | (with_reducible exact LeO.none _)
      | (with_reducible refine LeO.ite ?_ ?_)
      | (with_reducible refine LeO.bind ?_ (fun _ => ?_))
      | exact ih0 _ _ _
      | exact LeO.none _
      | refine LeO.ite ?_ ?_
      | refine LeO.bind ?_ (fun _ => ?_)
theorem wayfinderref14_Same.mono : ∀ a0 a1 k, LeO (wayfinderref14_Same.f k a0 a1) (wayfinderref14_Same.f (k + 1) a0 a1) := by
  intro a0 a1 k
  have ih0 := wayfinderref14_Same.mono_l k
  unfold wayfinderref14_Same.f
  repeat' first
      | (with_reducible exact ih0 _ _ _)
      | (with_reducible exact LeO.refl _)
      | (with_reducible exact LeO.none _)
      | (with_reducible refine LeO.ite ?_ ?_)
      | (with_reducible refine LeO.bind ?_ (fun _ => ?_))
      | exact ih0 _ _ _
      | exact LeO.none _
      | refine LeO.ite ?_ ?_
      | refine LeO.bind ?_ (fun _ => ?_)
def wayfinderref14_Same.T6 : Bool × List (List Nat × List Nat) := (true, [([], []), ([], []), ([0, 1], [0, 1]), ([2], [2]), ([], []), ([], []), ([4, 5], [4, 5]), ([6], [6]), ([3, 7], [3, 7]), ([8, 8, 0, 1, 2, 3, 4, 5, 6, 7, 8], [8])])
def wayfinderref14_Same.B6 : List Nat := [0, 0, 3, 7, 0, 0, 48, 112, 255, 511]
theorem wayfinderref14_Same.tab6 : rtab .any (opsOf Try.f27 6) = wayfinderref14_Same.T6 := by kernel_rfl
theorem wayfinderref14_Same.bits6 : waitsOk wayfinderref14_Same.T6.2 wayfinderref14_Same.B6 = true := by kernel_rfl
set_option maxHeartbeats 8000000 in
set_option maxRecDepth 100000 in
theorem wayfinderref14_Same.calls (k : Nat) (A0 : Option Addr) (c0 : Nat) (l0 : List (S54)) (A1 : Option Addr) (c1 : Nat) (l1 : List (S54)) (r : Bool) (w : World) (hr0 : Kd.C k54 w A0 l0.length l0) (hc0 : l0.length ≤ c0) (hr1 : Kd.C k54 w A1 l1.length l1) (hc1 : l1.length ≤ c1) (h : wayfinderref14_Same.f k l0 l1 = some r) :
    Calls Try.prog 27 #[.slice A0 l0.length c0, .slice A1 l1.length c1] w fun e w' => e = .returned (.bool r) ∧ Below w.heap.size w w' := by
  have hu54 := Try.underlying54
  have HR0 := Aside0.mk hr0
  have HC0 := Aside0.mk hc0
  clear hr0 hc0
  have HR1 := Aside0.mk hr1
  have HC1 := Aside0.mk hc1
  clear hr1 hc1
  have HB := Aside0.mk (Below.refl w.heap.size w)
  have H : (if (l0.length : Int) = (l1.length : Int) then (wayfinderref14_Same.l0 k l0 l1 0) else (some false)) = some r := h
  clear h
  by_cases c3 : (l0.length : Int) = (l1.length : Int)
  · rw [if_pos c3] at H
    have c3b0 : ((l0.length : Int) == (l1.length : Int)) = true := beq_iff_eq.mpr c3
    have c3b1 : ((l0.length : Int) != (l1.length : Int)) = false := bne_eq_false_iff_eq.mpr c3
    have c3b2 : (l0.length == l1.length) = true := by first | simpa using c3 | (simp at c3 ⊢; omega)
    clear c3
    have H' := Aside0.mk H
    clear H
    go_enter Try.func27, Try.ntmps27
    go_wp2
    go_loopg [5] k (fun kq v5 w' => ∃ (x5_1 : Int), v5 = .int .i64 x5_1 ∧ Aside0 (wayfinderref14_Same.l0 kq l0 l1 x5_1 = some r) ∧ Aside0 (kq ≤ k) ∧ Aside0 (Below w.heap.size w w'))
    case atStart => exact ⟨(0), (by first | rfl | (simp; done) | (simp [*]; done)), H', ⟨Nat.le_refl _⟩, ⟨by repeat (first | (with_reducible first | exact HB.out | apply below_alloc | apply pw_below_drewN | apply below_drew1) | exact HB.out)⟩⟩
    case round =>
      clear H'
      try clear c1
      try clear c2
      try clear p2
      try clear c3
      try clear c3b0
      try clear c3b1
      try clear c3b2
      obtain ⟨x5_1, rfl, HA, HK1, HB⟩ := hrel
      cases gk with
      | zero => exact absurd HA.out (by simp [wayfinderref14_Same.l0])
      | succ k1 =>
        have H := HA.out
        clear HA
        simp only [wayfinderref14_Same.l0] at H
        by_cases c4 : x5_1 < (l0.length : Int)
        · rw [if_pos c4] at H
          have c4b0 : decide (x5_1 < (l0.length : Int)) = true := decide_eq_true c4
          clear c4
          by_cases c5 : 0 ≤ x5_1
          · rw [if_pos c5] at H
            have c5b0 : decide (0 ≤ x5_1) = true := decide_eq_true c5
            clear c5
            by_cases c6 : x5_1 < (l1.length : Int)
            · rw [if_pos c6] at H
              have c6b0 : decide (x5_1 < (l1.length : Int)) = true := decide_eq_true c6
              clear c6
              replace H := Option.bind_eq_some_iff.mp H
              obtain ⟨t232, A70, H⟩ := H
              replace H : (if t232 = true then (wayfinderref14_Same.l0 k1 l0 l1 (wrap64 (x5_1 + 1))) else (some false)) = some r := H
              have A7 := Aside0.mk A70
              clear A70
              by_cases c8 : t232 = true
              · subst c8
                have H1 : (wayfinderref14_Same.l0 k1 l0 l1 (wrap64 (x5_1 + 1))) = some r := by rw [if_pos rfl] at H; exact H
                clear H
                have H := H1
                clear H1
                have H' := Aside0.mk H
                clear H
                try go_wp2
                have n0_ := Aside0.mk (below_drew1 HB.out)
                clear HB
                have HB := n0_
                clear n0_
                have p230 : 0 ≤ (x5_1 : Int) := of_decide_eq_true (by first | (with_reducible assumption) | assumption)
                have q230 : x5_1 < (l0.length : Int) := of_decide_eq_true (by first | (with_reducible assumption) | assumption)
                obtain ⟨ad230, A230_2, c230_2, e230, hx230_0, hx230_1, hx230_2, hl230_2, hi230_2⟩ := at_T54 HR0.out x5_1 p230 q230
                have hw230_2 := hx230_2
                have hw230_1 := hx230_1
                have hw230_0 := hx230_0
                cases e230
                replace hx230_0 := (HB.out.cell (World.block_lt_of_cell? w _ hx230_0)).trans hx230_0
                replace hx230_1 := (HB.out.cell (World.block_lt_of_cell? w _ hx230_1)).trans hx230_1
                replace hx230_2 := (HB.out.cell (World.block_lt_of_cell? w _ hx230_2)).trans hx230_2
                have HR230_2 := Aside0.mk hi230_2
                have HC230_2 := Aside0.mk hl230_2
                clear hi230_2 hl230_2
                replace p230 := eq_true p230
                replace q230 := eq_true q230
                have p231 : 0 ≤ (x5_1 : Int) := of_decide_eq_true (by first | (with_reducible assumption) | assumption)
                have q231 : x5_1 < (l1.length : Int) := of_decide_eq_true (by first | (with_reducible assumption) | assumption)
                obtain ⟨ad231, A231_2, c231_2, e231, hx231_0, hx231_1, hx231_2, hl231_2, hi231_2⟩ := at_T54 HR1.out x5_1 p231 q231
                have hw231_2 := hx231_2
                have hw231_1 := hx231_1
                have hw231_0 := hx231_0
                cases e231
                replace hx231_0 := (HB.out.cell (World.block_lt_of_cell? w _ hx231_0)).trans hx231_0
                replace hx231_1 := (HB.out.cell (World.block_lt_of_cell? w _ hx231_1)).trans hx231_1
                replace hx231_2 := (HB.out.cell (World.block_lt_of_cell? w _ hx231_2)).trans hx231_2
                have HR231_2 := Aside0.mk hi231_2
                have HC231_2 := Aside0.mk hl231_2
                clear hi231_2 hl231_2
                replace p231 := eq_true p231
                replace q231 := eq_true q231
                refine start_ (n := 10) (S := fun w' => w'.cell? (ad230.add ((x5_1).toNat * 3)) = some (.int .i64 ((rd_T54 l0 x5_1).f0)) ∧ w'.cell? ⟨(ad230.add ((x5_1).toNat * 3)).block, (ad230.add ((x5_1).toNat * 3)).off + 1, none⟩ = some (.bool ((rd_T54 l0 x5_1).f1)) ∧ w'.cell? ⟨(ad230.add ((x5_1).toNat * 3)).block, (ad230.add ((x5_1).toNat * 3)).off + 2, none⟩ = some (.slice A230_2 ((rd_T54 l0 x5_1).f2).length c230_2) ∧ w'.cell? (ad231.add ((x5_1).toNat * 3)) = some (.int .i64 ((rd_T54 l1 x5_1).f0)) ∧ w'.cell? ⟨(ad231.add ((x5_1).toNat * 3)).block, (ad231.add ((x5_1).toNat * 3)).off + 1, none⟩ = some (.bool ((rd_T54 l1 x5_1).f1)) ∧ w'.cell? ⟨(ad231.add ((x5_1).toNat * 3)).block, (ad231.add ((x5_1).toNat * 3)).off + 2, none⟩ = some (.slice A231_2 ((rd_T54 l1 x5_1).f2).length c231_2)) (ds := []) #[false, false, false, false, false, false, false, false, false, false] (by kernel_rfl) rfl rfl ⟨((HB.out.cell (World.block_lt_of_cell? w _ hw230_0)).trans hw230_0), ((HB.out.cell (World.block_lt_of_cell? w _ hw230_1)).trans hw230_1), ((HB.out.cell (World.block_lt_of_cell? w _ hw230_2)).trans hw230_2), ((HB.out.cell (World.block_lt_of_cell? w _ hw231_0)).trans hw231_0), ((HB.out.cell (World.block_lt_of_cell? w _ hw231_1)).trans hw231_1), ((HB.out.cell (World.block_lt_of_cell? w _ hw231_2)).trans hw231_2)⟩ (fun hHeld => ?_); refine with_tabW wayfinderref14_Same.tab6 wayfinderref14_Same.bits6 (fun HT_ HW_ => ?_)
                generalize wr.drew = w9 at HB HR230_2 HR231_2 hx230_0 hx230_1 hx230_2 hx231_0 hx231_1 hx231_2 hHeld ⊢
                refine pure_ (i := 0) (N := some 18) (v := ?_) (a' := ?_) #[true, false, false, false, false, false, false, false, false, false] rfl rfl (any_of HT_.out (by kernel_rfl)) (fun _ _ _ h => h) (Or.inl ⟨by rfl, ?_⟩) ?_ ?_
                rotate_left
                · intro w'
                  go_simp
                  with_reducible rfl
                rotate_left
                · simp only [Act.put, List.setIfInBounds_toArray, List.set_cons_zero, List.set_cons_succ, i64_w, i32_w]
                  rfl
                refine pure_ (i := 1) (N := some 19) (v := ?_) (a' := ?_) #[true, true, false, false, false, false, false, false, false, false] rfl rfl (any_of HT_.out (by kernel_rfl)) (fun _ _ _ h => h) (Or.inl ⟨by rfl, ?_⟩) ?_ ?_
                rotate_left
                · intro w'
                  go_simp
                  with_reducible rfl
                rotate_left
                · simp only [Act.put, List.setIfInBounds_toArray, List.set_cons_zero, List.set_cons_succ, i64_w, i32_w]
                  rfl
                refine pure_ (i := 2) (N := some 20) (v := ?_) (a' := ?_) #[true, true, true, false, false, false, false, false, false, false] rfl rfl (any_of HT_.out (by kernel_rfl)) (fun _ _ _ h => h) (Or.inl ⟨by rfl, ?_⟩) ?_ ?_
                rotate_left
                · intro w'
                  go_simp
                  with_reducible rfl
                rotate_left
                · simp only [Act.put, List.setIfInBounds_toArray, List.set_cons_zero, List.set_cons_succ, i64_w, i32_w]
                  rfl
                refine pure_ (i := 4) (N := some 22) (v := ?_) (a' := ?_) #[true, true, true, false, true, false, false, false, false, false] rfl rfl (any_of HT_.out (by kernel_rfl)) (fun _ _ _ h => h) (Or.inl ⟨by rfl, ?_⟩) ?_ ?_
                rotate_left
                · intro w'
                  go_simp
                  with_reducible rfl
                rotate_left
                · simp only [Act.put, List.setIfInBounds_toArray, List.set_cons_zero, List.set_cons_succ, i64_w, i32_w]
                  rfl
                refine pure_ (i := 5) (N := some 23) (v := ?_) (a' := ?_) #[true, true, true, false, true, true, false, false, false, false] rfl rfl (any_of HT_.out (by kernel_rfl)) (fun _ _ _ h => h) (Or.inl ⟨by rfl, ?_⟩) ?_ ?_
                rotate_left
                · intro w'
                  go_simp
                  with_reducible rfl
                rotate_left
                · simp only [Act.put, List.setIfInBounds_toArray, List.set_cons_zero, List.set_cons_succ, i64_w, i32_w]
                  rfl
                refine pure_ (i := 6) (N := some 24) (v := ?_) (a' := ?_) #[true, true, true, false, true, true, true, false, false, false] rfl rfl (any_of HT_.out (by kernel_rfl)) (fun _ _ _ h => h) (Or.inl ⟨by rfl, ?_⟩) ?_ ?_
                rotate_left
                · intro w'
                  go_simp
                  with_reducible rfl
                rotate_left
                · simp only [Act.put, List.setIfInBounds_toArray, List.set_cons_zero, List.set_cons_succ, i64_w, i32_w]
                  rfl
                refine take_ (i := 3) (N := some 21) (v := ?_) (a' := ?_) #[true, true, true, true, true, true, true, false, false, false] rfl rfl (take_ofW HT_.out HW_.out (by kernel_rfl)) (fun _ _ _ h => h) (Or.inl ⟨by rfl, ?_⟩) hHeld ?_ ?_
                rotate_left
                · rintro w' ⟨s0, s1, s2, s3, s4, s5⟩
                  go_simp
                  with_reducible rfl
                rotate_left
                · simp only [Act.put, List.setIfInBounds_toArray, List.set_cons_zero, List.set_cons_succ, i64_w, i32_w]
                  rfl
                refine take_ (i := 7) (N := some 25) (v := ?_) (a' := ?_) #[true, true, true, true, true, true, true, true, false, false] rfl rfl (take_ofW HT_.out HW_.out (by kernel_rfl)) (fun _ _ _ h => h) (Or.inl ⟨by rfl, ?_⟩) hHeld ?_ ?_
                rotate_left
                · rintro w' ⟨s0, s1, s2, s3, s4, s5⟩
                  go_simp
                  with_reducible rfl
                rotate_left
                · simp only [Act.put, List.setIfInBounds_toArray, List.set_cons_zero, List.set_cons_succ, i64_w, i32_w]
                  rfl
                refine one_ (i := 8) (N := some 26) #[true, true, true, true, true, true, true, true, true, false] rfl rfl (one_of HT_.out (by kernel_rfl)) (by decide) (fun K hK => ?_)
                refine goes_ Try.func30 (by kernel_rfl) rfl #[.agg #[.int .i64 ((rd_T54 l0 x5_1).f0), .bool ((rd_T54 l0 x5_1).f1), .slice A230_2 ((rd_T54 l0 x5_1).f2).length c230_2], .agg #[.int .i64 ((rd_T54 l1 x5_1).f0), .bool ((rd_T54 l1 x5_1).f1), .slice A231_2 ((rd_T54 l1 x5_1).f2).length c231_2]] (by rfl) rfl rfl (by (try simp only [List.map_toArray, List.map_cons, List.map_nil]); first | done | rfl | (simp only [List.length_drop, List.length_take]; rfl)) ?_
                with_reducible refine (wayfinderref14_One.calls ((rd_T54 l0 x5_1).f0) ((rd_T54 l0 x5_1).f1) _ _ ((rd_T54 l0 x5_1).f2) ((rd_T54 l1 x5_1).f0) ((rd_T54 l1 x5_1).f1) _ _ ((rd_T54 l1 x5_1).f2) true _ ?side1 ?side2 ?side3 ?side4 A7.out).mono ?_
                (case side1 => repeat (first | exact (Kd.C_below HR230_2.out HB.out) | (with_reducible refine Kd.C_alloc ?_ _) | (with_reducible refine Kd.C_drewN ?_ _) | (with_reducible refine Kd.C_drew ?_)))
                (case side2 => exact HC230_2.out)
                (case side3 => repeat (first | exact (Kd.C_below HR231_2.out HB.out) | (with_reducible refine Kd.C_alloc ?_ _) | (with_reducible refine Kd.C_drewN ?_ _) | (with_reducible refine Kd.C_drew ?_)))
                (case side4 => exact HC231_2.out)
                rintro e w10 ⟨rfl, hb⟩
                refine ⟨_, rfl, ?_⟩
                have n0_ := Aside0.mk (below_step (by repeat (first | (with_reducible first | exact HB.out | apply below_alloc | apply pw_below_drewN | apply below_drew1) | exact HB.out)) hb)
                clear HB
                have HB := n0_
                clear n0_
                (try clear hb)
                (try clear hb2)
                (try clear hk)
                (try clear hi)
                refine hK.out _ _ ⟨((HB.out.cell (World.block_lt_of_cell? w _ hw230_0)).trans hw230_0), ((HB.out.cell (World.block_lt_of_cell? w _ hw230_1)).trans hw230_1), ((HB.out.cell (World.block_lt_of_cell? w _ hw230_2)).trans hw230_2), ((HB.out.cell (World.block_lt_of_cell? w _ hw231_0)).trans hw231_0), ((HB.out.cell (World.block_lt_of_cell? w _ hw231_1)).trans hw231_1), ((HB.out.cell (World.block_lt_of_cell? w _ hw231_2)).trans hw231_2)⟩ (fun hHeld => ?_)
                clear hK K
                refine norm_ (a' := ?_) ?_ ?_
                rotate_left
                · show Act.put _ (some 26) _ = _
                  simp only [Act.put, List.setIfInBounds_toArray, List.set_cons_zero, List.set_cons_succ, i64_w, i32_w]
                  rfl
                refine pure_ (i := 9) (N := some 6) (v := ?_) (a' := ?_) #[true, true, true, true, true, true, true, true, true, true] rfl rfl (any_of HT_.out (by kernel_rfl)) (fun _ _ _ h => h) (Or.inl ⟨by rfl, ?_⟩) ?_ ?_
                rotate_left
                · intro w'
                  go_simp
                  with_reducible rfl
                rotate_left
                · simp only [Act.put, List.setIfInBounds_toArray, List.set_cons_zero, List.set_cons_succ, i64_w, i32_w]
                  rfl
                refine done_ (done_of HT_.out (by kernel_rfl)) ?_
                try go_wp2
                go_roundg k1
                case measure => have := HK1.out; omega
                case rel => exact ⟨(wrap64 (x5_1 + 1)), (by first | rfl | (simp; done) | (simp [*]; done)), H', ⟨by have := HK1.out; omega⟩, ⟨by repeat (first | (with_reducible first | exact HB.out | apply below_alloc | apply pw_below_drewN | apply below_drew1) | exact HB.out)⟩⟩
              · replace c8 := Bool.eq_false_iff.mpr c8
                subst c8
                have H1 : (some false) = some r := by rw [if_neg (show ¬ (false = true) by decide)] at H; exact H
                clear H
                have H := H1
                clear H1
                obtain rfl := Option.some.inj H
                try go_wp2
                have n0_ := Aside0.mk (below_drew1 HB.out)
                clear HB
                have HB := n0_
                clear n0_
                have p230 : 0 ≤ (x5_1 : Int) := of_decide_eq_true (by first | (with_reducible assumption) | assumption)
                have q230 : x5_1 < (l0.length : Int) := of_decide_eq_true (by first | (with_reducible assumption) | assumption)
                obtain ⟨ad230, A230_2, c230_2, e230, hx230_0, hx230_1, hx230_2, hl230_2, hi230_2⟩ := at_T54 HR0.out x5_1 p230 q230
                have hw230_2 := hx230_2
                have hw230_1 := hx230_1
                have hw230_0 := hx230_0
                cases e230
                replace hx230_0 := (HB.out.cell (World.block_lt_of_cell? w _ hx230_0)).trans hx230_0
                replace hx230_1 := (HB.out.cell (World.block_lt_of_cell? w _ hx230_1)).trans hx230_1
                replace hx230_2 := (HB.out.cell (World.block_lt_of_cell? w _ hx230_2)).trans hx230_2
                have HR230_2 := Aside0.mk hi230_2
                have HC230_2 := Aside0.mk hl230_2
                clear hi230_2 hl230_2
                replace p230 := eq_true p230
                replace q230 := eq_true q230
                have p231 : 0 ≤ (x5_1 : Int) := of_decide_eq_true (by first | (with_reducible assumption) | assumption)
                have q231 : x5_1 < (l1.length : Int) := of_decide_eq_true (by first | (with_reducible assumption) | assumption)
                obtain ⟨ad231, A231_2, c231_2, e231, hx231_0, hx231_1, hx231_2, hl231_2, hi231_2⟩ := at_T54 HR1.out x5_1 p231 q231
                have hw231_2 := hx231_2
                have hw231_1 := hx231_1
                have hw231_0 := hx231_0
                cases e231
                replace hx231_0 := (HB.out.cell (World.block_lt_of_cell? w _ hx231_0)).trans hx231_0
                replace hx231_1 := (HB.out.cell (World.block_lt_of_cell? w _ hx231_1)).trans hx231_1
                replace hx231_2 := (HB.out.cell (World.block_lt_of_cell? w _ hx231_2)).trans hx231_2
                have HR231_2 := Aside0.mk hi231_2
                have HC231_2 := Aside0.mk hl231_2
                clear hi231_2 hl231_2
                replace p231 := eq_true p231
                replace q231 := eq_true q231
                refine start_ (n := 10) (S := fun w' => w'.cell? (ad230.add ((x5_1).toNat * 3)) = some (.int .i64 ((rd_T54 l0 x5_1).f0)) ∧ w'.cell? ⟨(ad230.add ((x5_1).toNat * 3)).block, (ad230.add ((x5_1).toNat * 3)).off + 1, none⟩ = some (.bool ((rd_T54 l0 x5_1).f1)) ∧ w'.cell? ⟨(ad230.add ((x5_1).toNat * 3)).block, (ad230.add ((x5_1).toNat * 3)).off + 2, none⟩ = some (.slice A230_2 ((rd_T54 l0 x5_1).f2).length c230_2) ∧ w'.cell? (ad231.add ((x5_1).toNat * 3)) = some (.int .i64 ((rd_T54 l1 x5_1).f0)) ∧ w'.cell? ⟨(ad231.add ((x5_1).toNat * 3)).block, (ad231.add ((x5_1).toNat * 3)).off + 1, none⟩ = some (.bool ((rd_T54 l1 x5_1).f1)) ∧ w'.cell? ⟨(ad231.add ((x5_1).toNat * 3)).block, (ad231.add ((x5_1).toNat * 3)).off + 2, none⟩ = some (.slice A231_2 ((rd_T54 l1 x5_1).f2).length c231_2)) (ds := []) #[false, false, false, false, false, false, false, false, false, false] (by kernel_rfl) rfl rfl ⟨((HB.out.cell (World.block_lt_of_cell? w _ hw230_0)).trans hw230_0), ((HB.out.cell (World.block_lt_of_cell? w _ hw230_1)).trans hw230_1), ((HB.out.cell (World.block_lt_of_cell? w _ hw230_2)).trans hw230_2), ((HB.out.cell (World.block_lt_of_cell? w _ hw231_0)).trans hw231_0), ((HB.out.cell (World.block_lt_of_cell? w _ hw231_1)).trans hw231_1), ((HB.out.cell (World.block_lt_of_cell? w _ hw231_2)).trans hw231_2)⟩ (fun hHeld => ?_); refine with_tabW wayfinderref14_Same.tab6 wayfinderref14_Same.bits6 (fun HT_ HW_ => ?_)
                generalize wr.drew = w11 at HB HR230_2 HR231_2 hx230_0 hx230_1 hx230_2 hx231_0 hx231_1 hx231_2 hHeld ⊢
                refine pure_ (i := 0) (N := some 18) (v := ?_) (a' := ?_) #[true, false, false, false, false, false, false, false, false, false] rfl rfl (any_of HT_.out (by kernel_rfl)) (fun _ _ _ h => h) (Or.inl ⟨by rfl, ?_⟩) ?_ ?_
                rotate_left
                · intro w'
                  go_simp
                  with_reducible rfl
                rotate_left
                · simp only [Act.put, List.setIfInBounds_toArray, List.set_cons_zero, List.set_cons_succ, i64_w, i32_w]
                  rfl
                refine pure_ (i := 1) (N := some 19) (v := ?_) (a' := ?_) #[true, true, false, false, false, false, false, false, false, false] rfl rfl (any_of HT_.out (by kernel_rfl)) (fun _ _ _ h => h) (Or.inl ⟨by rfl, ?_⟩) ?_ ?_
                rotate_left
                · intro w'
                  go_simp
                  with_reducible rfl
                rotate_left
                · simp only [Act.put, List.setIfInBounds_toArray, List.set_cons_zero, List.set_cons_succ, i64_w, i32_w]
                  rfl
                refine pure_ (i := 2) (N := some 20) (v := ?_) (a' := ?_) #[true, true, true, false, false, false, false, false, false, false] rfl rfl (any_of HT_.out (by kernel_rfl)) (fun _ _ _ h => h) (Or.inl ⟨by rfl, ?_⟩) ?_ ?_
                rotate_left
                · intro w'
                  go_simp
                  with_reducible rfl
                rotate_left
                · simp only [Act.put, List.setIfInBounds_toArray, List.set_cons_zero, List.set_cons_succ, i64_w, i32_w]
                  rfl
                refine pure_ (i := 4) (N := some 22) (v := ?_) (a' := ?_) #[true, true, true, false, true, false, false, false, false, false] rfl rfl (any_of HT_.out (by kernel_rfl)) (fun _ _ _ h => h) (Or.inl ⟨by rfl, ?_⟩) ?_ ?_
                rotate_left
                · intro w'
                  go_simp
                  with_reducible rfl
                rotate_left
                · simp only [Act.put, List.setIfInBounds_toArray, List.set_cons_zero, List.set_cons_succ, i64_w, i32_w]
                  rfl
                refine pure_ (i := 5) (N := some 23) (v := ?_) (a' := ?_) #[true, true, true, false, true, true, false, false, false, false] rfl rfl (any_of HT_.out (by kernel_rfl)) (fun _ _ _ h => h) (Or.inl ⟨by rfl, ?_⟩) ?_ ?_
                rotate_left
                · intro w'
                  go_simp
                  with_reducible rfl
                rotate_left
                · simp only [Act.put, List.setIfInBounds_toArray, List.set_cons_zero, List.set_cons_succ, i64_w, i32_w]
                  rfl
                refine pure_ (i := 6) (N := some 24) (v := ?_) (a' := ?_) #[true, true, true, false, true, true, true, false, false, false] rfl rfl (any_of HT_.out (by kernel_rfl)) (fun _ _ _ h => h) (Or.inl ⟨by rfl, ?_⟩) ?_ ?_
                rotate_left
                · intro w'
                  go_simp
                  with_reducible rfl
                rotate_left
                · simp only [Act.put, List.setIfInBounds_toArray, List.set_cons_zero, List.set_cons_succ, i64_w, i32_w]
                  rfl
                refine take_ (i := 3) (N := some 21) (v := ?_) (a' := ?_) #[true, true, true, true, true, true, true, false, false, false] rfl rfl (take_ofW HT_.out HW_.out (by kernel_rfl)) (fun _ _ _ h => h) (Or.inl ⟨by rfl, ?_⟩) hHeld ?_ ?_
                rotate_left
                · rintro w' ⟨s0, s1, s2, s3, s4, s5⟩
                  go_simp
                  with_reducible rfl
                rotate_left
                · simp only [Act.put, List.setIfInBounds_toArray, List.set_cons_zero, List.set_cons_succ, i64_w, i32_w]
                  rfl
                refine take_ (i := 7) (N := some 25) (v := ?_) (a' := ?_) #[true, true, true, true, true, true, true, true, false, false] rfl rfl (take_ofW HT_.out HW_.out (by kernel_rfl)) (fun _ _ _ h => h) (Or.inl ⟨by rfl, ?_⟩) hHeld ?_ ?_
                rotate_left
                · rintro w' ⟨s0, s1, s2, s3, s4, s5⟩
                  go_simp
                  with_reducible rfl
                rotate_left
                · simp only [Act.put, List.setIfInBounds_toArray, List.set_cons_zero, List.set_cons_succ, i64_w, i32_w]
                  rfl
                refine one_ (i := 8) (N := some 26) #[true, true, true, true, true, true, true, true, true, false] rfl rfl (one_of HT_.out (by kernel_rfl)) (by decide) (fun K hK => ?_)
                refine goes_ Try.func30 (by kernel_rfl) rfl #[.agg #[.int .i64 ((rd_T54 l0 x5_1).f0), .bool ((rd_T54 l0 x5_1).f1), .slice A230_2 ((rd_T54 l0 x5_1).f2).length c230_2], .agg #[.int .i64 ((rd_T54 l1 x5_1).f0), .bool ((rd_T54 l1 x5_1).f1), .slice A231_2 ((rd_T54 l1 x5_1).f2).length c231_2]] (by rfl) rfl rfl (by (try simp only [List.map_toArray, List.map_cons, List.map_nil]); first | done | rfl | (simp only [List.length_drop, List.length_take]; rfl)) ?_
                with_reducible refine (wayfinderref14_One.calls ((rd_T54 l0 x5_1).f0) ((rd_T54 l0 x5_1).f1) _ _ ((rd_T54 l0 x5_1).f2) ((rd_T54 l1 x5_1).f0) ((rd_T54 l1 x5_1).f1) _ _ ((rd_T54 l1 x5_1).f2) false _ ?side1 ?side2 ?side3 ?side4 A7.out).mono ?_
                (case side1 => repeat (first | exact (Kd.C_below HR230_2.out HB.out) | (with_reducible refine Kd.C_alloc ?_ _) | (with_reducible refine Kd.C_drewN ?_ _) | (with_reducible refine Kd.C_drew ?_)))
                (case side2 => exact HC230_2.out)
                (case side3 => repeat (first | exact (Kd.C_below HR231_2.out HB.out) | (with_reducible refine Kd.C_alloc ?_ _) | (with_reducible refine Kd.C_drewN ?_ _) | (with_reducible refine Kd.C_drew ?_)))
                (case side4 => exact HC231_2.out)
                rintro e w12 ⟨rfl, hb⟩
                refine ⟨_, rfl, ?_⟩
                have n0_ := Aside0.mk (below_step (by repeat (first | (with_reducible first | exact HB.out | apply below_alloc | apply pw_below_drewN | apply below_drew1) | exact HB.out)) hb)
                clear HB
                have HB := n0_
                clear n0_
                (try clear hb)
                (try clear hb2)
                (try clear hk)
                (try clear hi)
                refine hK.out _ _ ⟨((HB.out.cell (World.block_lt_of_cell? w _ hw230_0)).trans hw230_0), ((HB.out.cell (World.block_lt_of_cell? w _ hw230_1)).trans hw230_1), ((HB.out.cell (World.block_lt_of_cell? w _ hw230_2)).trans hw230_2), ((HB.out.cell (World.block_lt_of_cell? w _ hw231_0)).trans hw231_0), ((HB.out.cell (World.block_lt_of_cell? w _ hw231_1)).trans hw231_1), ((HB.out.cell (World.block_lt_of_cell? w _ hw231_2)).trans hw231_2)⟩ (fun hHeld => ?_)
                clear hK K
                refine norm_ (a' := ?_) ?_ ?_
                rotate_left
                · show Act.put _ (some 26) _ = _
                  simp only [Act.put, List.setIfInBounds_toArray, List.set_cons_zero, List.set_cons_succ, i64_w, i32_w]
                  rfl
                refine pure_ (i := 9) (N := some 6) (v := ?_) (a' := ?_) #[true, true, true, true, true, true, true, true, true, true] rfl rfl (any_of HT_.out (by kernel_rfl)) (fun _ _ _ h => h) (Or.inl ⟨by rfl, ?_⟩) ?_ ?_
                rotate_left
                · intro w'
                  go_simp
                  with_reducible rfl
                rotate_left
                · simp only [Act.put, List.setIfInBounds_toArray, List.set_cons_zero, List.set_cons_succ, i64_w, i32_w]
                  rfl
                refine done_ (done_of HT_.out (by kernel_rfl)) ?_
                try go_wp2
                go_ret
                exact ⟨by first | rfl | (simp [errW_none, errW_some] <;> rfl) | (simp [*, errW_none, errW_some] <;> rfl), by repeat (first | (with_reducible first | exact HB.out | apply below_alloc | apply pw_below_drewN | apply below_drew1) | exact HB.out)⟩
            · rw [if_neg c6] at H
              exact absurd H (by simp)
          · rw [if_neg c5] at H
            exact absurd H (by simp)
        · rw [if_neg c4] at H
          have c4b0 : decide (x5_1 < (l0.length : Int)) = false := decide_eq_false c4
          clear c4
          obtain rfl := Option.some.inj H
          go_wp2
          go_ret
          exact ⟨by first | rfl | (simp [errW_none, errW_some] <;> rfl) | (simp [*, errW_none, errW_some] <;> rfl), by repeat (first | (with_reducible first | exact HB.out | apply below_alloc | apply pw_below_drewN | apply below_drew1) | exact HB.out)⟩
  · rw [if_neg c3] at H
    have c3b0 : ((l0.length : Int) == (l1.length : Int)) = false := beq_eq_false_iff_ne.mpr c3
    have c3b1 : ((l0.length : Int) != (l1.length : Int)) = true := bne_iff_ne.mpr c3
    have c3b2 : (l0.length == l1.length) = false := by first | simpa using c3 | (simp at c3 ⊢; omega)
    obtain rfl := Option.some.inj H
    go_enter Try.func27, Try.ntmps27
    go_wp2
    go_ret
    exact ⟨by first | rfl | (simp [errW_none, errW_some] <;> rfl) | (simp [*, errW_none, errW_some] <;> rfl), by repeat (first | (with_reducible first | exact HB.out | apply below_alloc | apply pw_below_drewN | apply below_drew1) | exact HB.out)⟩

/-! ### wayfinderref14_without: function 41 -/
def wayfinderref14_without.l0 : Nat → List (S54) → Int → List (S54) → Int → Option ((List (S54)))
  | 0, _, _, _, _ => none
  | k + 1, x0, x1, x5, x6 => if x6 < (x0.length : Int) then (if x6 = x1 then (wayfinderref14_without.l0 k x0 x1 x5 (wrap64 (x6 + 1))) else (if 0 ≤ x6 then (if x5.length < 3518437208883 then (wayfinderref14_without.l0 k x0 x1 (x5 ++ [(⟨(rd_T54 x0 x6).f0, (rd_T54 x0 x6).f1, (rd_T54 x0 x6).f2⟩ : S54)]) (wrap64 (x6 + 1))) else (none)) else (none))) else (some x5)
def wayfinderref14_without.f (k : Nat) (l0 : List (S54)) (a1 : Int) : Option ((List (S54))) := wayfinderref14_without.l0 k l0 a1 ([] : List (S54)) 0
theorem wayfinderref14_without.mono_l : ∀ k, (∀ y0 y1 y2 y3, LeO (wayfinderref14_without.l0 k y0 y1 y2 y3) (wayfinderref14_without.l0 (k + 1) y0 y1 y2 y3))
  | 0 => fun _ _ _ _ r h => by simp [wayfinderref14_without.l0] at h
  | k + 1 => by
    have ih0 := wayfinderref14_without.mono_l k
    · intro y0 y1 y2 y3
      unfold wayfinderref14_without.l0
      repeat' first
      | (with_reducible exact ih0 _ _ _ _)
      | (with_reducible exact LeO.refl _)
      | (with_reducible exact LeO.none _)
      | (with_reducible refine LeO.ite ?_ ?_)
      | (with_reducible refine LeO.bind ?_ (fun _ => ?_))
      | exact ih0 _ _ _ _
      | exact LeO.none _
      | refine LeO.ite ?_ ?_
      | refine LeO.bind ?_ (fun _ => ?_)
theorem wayfinderref14_without.mono : ∀ a0 a1 k, LeO (wayfinderref14_without.f k a0 a1) (wayfinderref14_without.f (k + 1) a0 a1) := by
  intro a0 a1 k
  have ih0 := wayfinderref14_without.mono_l k
  unfold wayfinderref14_without.f
  repeat' first
      | (with_reducible exact ih0 _ _ _ _)
      | (with_reducible exact LeO.refl _)
      | (with_reducible exact LeO.none _)
      | (with_reducible refine LeO.ite ?_ ?_)
      | (with_reducible refine LeO.bind ?_ (fun _ => ?_))
      | exact ih0 _ _ _ _
      | exact LeO.none _
      | refine LeO.ite ?_ ?_
      | refine LeO.bind ?_ (fun _ => ?_)
set_option maxHeartbeats 8000000 in
set_option maxRecDepth 100000 in
theorem wayfinderref14_without.calls (k : Nat) (P0_ : Nat → Prop) (A0 : Option Addr) (c0 : Nat) (l0 : List (S54)) (a1 : Int) (r : List (S54)) (w : World) (hs0 : Kd.V k54 54 w w.heap.size (fun k_ => P0_ k_) (.slice A0 l0.length c0) l0) (h : wayfinderref14_without.f k l0 a1 = some r) :
    Calls Try.prog 41 #[.slice A0 l0.length c0, .int .i64 a1] w fun e w' => ∃ v0_ : Value, e = .returned (v0_) ∧ Kd.N k54 54 w' w.heap.size (fun k_ => (P0_ k_ ∨ w.heap.size ≤ k_)) v0_ r ∧ Below w.heap.size w w' := by
  have hu54 := Try.underlying54
  have HO0 := Aside0.mk (show Kd.V k54 54 w w.heap.size (fun k_ => (P0_ k_ ∨ w.heap.size ≤ k_)) (.slice A0 l0.length c0) l0 from Kd.V_mono hs0 (fun k_ hk => .inl hk))
  have HB := Aside0.mk (Below.refl w.heap.size w)
  have H : (wayfinderref14_without.l0 k l0 a1 ([] : List (S54)) 0) = some r := h
  clear h
  have H' := Aside0.mk H
  clear H
  go_enter Try.func41, Try.ntmps41
  go_wp2
  go_loopg [5, 6] k (fun kq v5 v6 w' => ∃ (x5_1 : List (S54)) (x6_1 : Int), v6 = .int .i64 x6_1 ∧ Aside0 (wayfinderref14_without.l0 kq l0 a1 x5_1 x6_1 = some r) ∧ Aside0 (kq ≤ k) ∧ Aside0 (Kd.V k54 54 w' w.heap.size (fun k_ => (P0_ k_ ∨ w.heap.size ≤ k_) ∧ some k_ ≠ (v5 : Value).ownBlock) (.slice A0 l0.length c0) l0) ∧ Aside0 (Kd.N k54 54 w' w.heap.size (fun k_ => (P0_ k_ ∨ w.heap.size ≤ k_)) v5 x5_1) ∧ Aside0 (Below w.heap.size w w'))
  case atStart => exact ⟨(([] : List (S54))), (0), (by first | rfl | (simp; done) | (simp [*]; done)), H', ⟨Nat.le_refl _⟩, ⟨by (with_reducible repeat (first | apply Kd.V_alloc | apply Kd.V_drewN | apply Kd.V_drew)); exact Kd.V_mono HO0.out (fun _ hk => ⟨hk, (by simp [Value.ownBlock])⟩)⟩, ⟨by first | exact Kd.S_nil _ _ _ _ _ | exact Kd.N_nil _ _ _ _ _ | exact Kd.V_nil _ _ _ _ _ | exact Kd.Q_nil _ _ _ _ _ | exact Kd.R_nil _ _ _ _ _⟩, ⟨by repeat (first | (with_reducible first | exact HB.out | apply below_alloc | apply pw_below_drewN | apply below_drew1) | exact HB.out)⟩⟩
  case round =>
    clear H'
    try clear p2
    obtain ⟨x5_1, x6_1, rfl, HA, HK1, HO_0, HO_5, HB⟩ := hrel
    cases gk with
    | zero => exact absurd HA.out (by simp [wayfinderref14_without.l0])
    | succ k1 =>
      have H := HA.out
      clear HA
      simp only [wayfinderref14_without.l0] at H
      by_cases c3 : x6_1 < (l0.length : Int)
      · rw [if_pos c3] at H
        have c3b0 : decide (x6_1 < (l0.length : Int)) = true := decide_eq_true c3
        clear c3
        by_cases c4 : x6_1 = a1
        · rw [if_pos c4] at H
          have c4b0 : (x6_1 == a1) = true := beq_iff_eq.mpr c4
          have c4b1 : (x6_1 != a1) = false := bne_eq_false_iff_eq.mpr c4
          clear c4
          have H' := Aside0.mk H
          clear H
          go_wp2
          go_roundg k1
          case measure => have := HK1.out; omega
          case rel => exact ⟨(x5_1), (wrap64 (x6_1 + 1)), (by first | rfl | (simp; done) | (simp [*]; done)), H', ⟨by have := HK1.out; omega⟩, ⟨by (with_reducible repeat (first | apply Kd.V_alloc | apply Kd.V_drewN | apply Kd.V_drew)); exact HO_0.out⟩, ⟨by (with_reducible repeat (first | apply Kd.N_alloc | apply Kd.N_drewN | apply Kd.N_drew)); exact HO_5.out⟩, ⟨by repeat (first | (with_reducible first | exact HB.out | apply below_alloc | apply pw_below_drewN | apply below_drew1) | exact HB.out)⟩⟩
        · rw [if_neg c4] at H
          have c4b0 : (x6_1 == a1) = false := beq_eq_false_iff_ne.mpr c4
          have c4b1 : (x6_1 != a1) = true := bne_iff_ne.mpr c4
          by_cases c5 : 0 ≤ x6_1
          · rw [if_pos c5] at H
            have c5b0 : decide (0 ≤ x6_1) = true := decide_eq_true c5
            clear c5
            by_cases c6 : x5_1.length < 3518437208883
            · rw [if_pos c6] at H
              have LMc6 := Aside0.mk c6
              clear c6
              obtain ⟨y234, hy234⟩ : ∃ y_ : List (S54), y_ = (x5_1 ++ [(⟨(rd_T54 l0 x6_1).f0, (rd_T54 l0 x6_1).f1, (rd_T54 l0 x6_1).f2⟩ : S54)]) := ⟨_, rfl⟩
              replace H : (wayfinderref14_without.l0 k1 l0 a1 y234 (wrap64 (x6_1 + 1))) = some r := by first | (rw [hy234]; with_reducible exact H) | (have H2_ := (Option.bind_some _ _).symm.trans H; rw [hy234]; with_reducible exact H2_) | (have H2_ := (Option.bind_some _ _).symm.trans H; with_reducible exact H2_) | with_reducible exact H | (rw [hy234]; exact H) | exact H
              have Ny234 := Aside0.mk hy234
              clear hy234
              have H' := Aside0.mk H
              clear H
              have p233 : 0 ≤ (x6_1 : Int) := of_decide_eq_true (by first | (with_reducible assumption) | assumption)
              have q233 : x6_1 < (l0.length : Int) := of_decide_eq_true (by first | (with_reducible assumption) | assumption)
              obtain ⟨ad233, A233_2, c233_2, e233, hx233_0, hx233_1, hx233_2, hl233_2, hi233_2⟩ := at_T54 (Kd.V_reads' HO_0.out).2.2 x6_1 p233 q233
              cases e233
              obtain ⟨ce233, hce233, hMe233, hcc233⟩ := Kd.V_get HO_0.out z54 x6_1 p233 (by first | exact q233 | exact of_decide_eq_true (by first | (with_reducible assumption) | assumption) | (have e_ := (Kd.V_reads' HO_0.out).1; omega))
              obtain ⟨ua233_2, uc233_2, rfl, ul233_2, ge233_2⟩ := k54_openF hMe233
              have hv233_2 := hcc233 2 _ rfl
              rw [add_field _ _ 2 (by omega)] at hv233_2
              replace hv233_2 := Option.some.inj (hv233_2.symm.trans hx233_2)
              injection hv233_2 with hva_ hvn_ hvc_
              rw [hva_] at ge233_2
              rw [hvc_] at ul233_2
              have HL233_2 := Aside0.mk (show Kd.V (Kd.int .u8) 5 _ w.heap.size _ _ ((rd_T54 l0 x6_1).f2) from Kd.V_mk ul233_2 ge233_2)
              clear hva_ hvn_ hvc_ ge233_2 ul233_2
              clear hcc233 hce233
              have HR233_2 := Aside0.mk hi233_2
              have HC233_2 := Aside0.mk hl233_2
              clear hi233_2 hl233_2
              replace p233 := eq_true p233
              replace q233 := eq_true q233
              go_wp2_with (first | ((with_reducible refine gate_builtin (b := .append) (xs := #[.tmp 16, .tmp 21]) rfl ?_); at_builtin; refine Kd.N_append k54 (w0 := w) w.heap.size rfl (.tmp 16) (.tmp 21) 51 54 (.agg #[(.int .i64 0), (.bool false), (.slice none 0 0)]) 40 rfl Try.underlying51 info54 rfl (by decide) (by omega) u5 x5_1 (⟨(rd_T54 l0 x6_1).f0, (rd_T54 l0 x6_1).f1, (rd_T54 l0 x6_1).f2⟩ : S54) [.int .i64 ((rd_T54 l0 x6_1).f0), .bool ((rd_T54 l0 x6_1).f1), .slice A233_2 ((rd_T54 l0 x6_1).f2).length c233_2] (fun k_ => (P0_ k_ ∨ w.heap.size ≤ k_)) (fun k_ => ((fun k_ => (P0_ k_ ∨ w.heap.size ≤ k_))) k_ ∧ some k_ ≠ (u5 : Value).ownBlock) rfl rfl ?aP (fun _ hk => hk) ?aF ?aO ?aB ?aS ?aL ?_; (case aP => exact (k54_mkF _ _ (⟨(rd_T54 l0 x6_1).f0, (rd_T54 l0 x6_1).f1, (rd_T54 l0 x6_1).f2⟩ : S54) (Kd.V_reads' (Kd.V_mono (ok' := (fun k_ => ((fun k_ => (P0_ k_ ∨ w.heap.size ≤ k_))) k_ ∧ some k_ ≠ (u5 : Value).ownBlock)) (HL233_2.out) (fun k_ hk => ⟨hk.1, hk.2⟩))).2.1 (Kd.V_F (Kd.V_mono (ok' := (fun k_ => ((fun k_ => (P0_ k_ ∨ w.heap.size ≤ k_))) k_ ∧ some k_ ≠ (u5 : Value).ownBlock)) (HL233_2.out) (fun k_ hk => ⟨hk.1, hk.2⟩))))); (case aB => exact (by repeat (first | (with_reducible first | exact HB.out | apply below_alloc | apply pw_below_drewN | apply below_drew1) | exact HB.out))); (case aF => exact (fun k_ hk => (.inr (Nat.le_trans (below_size (by repeat (first | (with_reducible first | exact HB.out | apply below_alloc | apply pw_below_drewN | apply below_drew1) | exact HB.out))) hk)))); (case aO => exact (by (with_reducible repeat (first | apply Kd.N_alloc | apply Kd.N_drewN | apply Kd.N_drew)); exact HO_5.out)); (case aS => exact (below_size (by repeat (first | (with_reducible first | exact HB.out | apply below_alloc | apply pw_below_drewN | apply below_drew1) | exact HB.out)))); (case aL => have := LMc6.out; omega); intro v235 w7 ho hb hg hat; rw [← Ny234.out] at ho; have n0_ := Aside0.mk (Kd.V_afterv (ok := (fun k_ => (P0_ k_ ∨ w.heap.size ≤ k_))) (by (with_reducible repeat (first | apply Kd.V_alloc | apply Kd.V_drewN | apply Kd.V_drew)); exact HO_0.out) hg hat); have n1_ := Aside0.mk (Kd.V_afterv (ok := (fun k_ => (P0_ k_ ∨ w.heap.size ≤ k_))) (by (with_reducible repeat (first | apply Kd.V_alloc | apply Kd.V_drewN | apply Kd.V_drew)); exact HL233_2.out) hg hat); have n2_ := Aside0.mk (hb); have n3_ := Aside0.mk (ho); clear HO_0; clear HL233_2; clear HB; clear HO_5; have HO_0 := n0_; have HL233_2 := n1_; have HB := n2_; have HO236 := n3_; clear n0_ n1_ n2_ n3_; clear ho hb hg hat))
              go_roundg k1
              case measure => have := HK1.out; omega
              case rel => exact ⟨(y234), (wrap64 (x6_1 + 1)), (by first | rfl | (simp; done) | (simp [*]; done)), H', ⟨by have := HK1.out; omega⟩, ⟨by (with_reducible repeat (first | apply Kd.V_alloc | apply Kd.V_drewN | apply Kd.V_drew)); exact HO_0.out⟩, ⟨by (with_reducible repeat (first | apply Kd.N_alloc | apply Kd.N_drewN | apply Kd.N_drew)); exact HO236.out⟩, ⟨by repeat (first | (with_reducible first | exact HB.out | apply below_alloc | apply pw_below_drewN | apply below_drew1) | exact HB.out)⟩⟩
            · rw [if_neg c6] at H
              exact absurd H (by simp)
          · rw [if_neg c5] at H
            exact absurd H (by simp)
      · rw [if_neg c3] at H
        have c3b0 : decide (x6_1 < (l0.length : Int)) = false := decide_eq_false c3
        clear c3
        obtain rfl := Option.some.inj H
        go_wp2
        go_ret
        exact ⟨_, by first | rfl | (simp [errW_none, errW_some] <;> rfl) | (simp [*, errW_none, errW_some] <;> rfl), by (with_reducible repeat (first | apply Kd.N_alloc | apply Kd.N_drewN | apply Kd.N_drew)); exact HO_5.out, by repeat (first | (with_reducible first | exact HB.out | apply below_alloc | apply pw_below_drewN | apply below_drew1) | exact HB.out)⟩

end Go.Proofs.Ytifgncaihpoijaa.Print
