/- A text that a program of this session printed out of the translation: checked by Lean alone. -/
import Derived.Test.YtibkmiffibacbaaPrint0
import Derived.Test.YtibkmiffibacbaaPrint1
import Derived.Test.YtibkmiffibacbaaPrint3
import Derived.Test.YtibkmiffibacbaaPrint4
import Derived.Test.YtibkmiffibacbaaPrintO
namespace Go.Proofs.Ytibkmiffibacbaa.Print
open Go.RowKit Go.Proofs.YtibkmiffibacbaaW.PrintWords Go.Proofs.YtibkmiffibacbaaW.PrintLast Go.Proofs.YtibkmiffibacbaaW.PrintMore
attribute [local go_sem] max2_int min2_int max_two min_two max_three min_three max_four min_four   -- for this text's walks alone
set_option linter.unusedVariables false
set_option linter.unusedSimpArgs false

attribute [local go_sem high] eqA34
/-! ### wayfinderlaw20_PlanEnds: function 3 -/
mutual
def wayfinderlaw20_PlanEnds.j0 : Nat → List (S37) → Int → Bool → Bool → Option (Bool)
  | 0, _, _, _, _ => none
  | k + 1, x0, x1, x5, x20 => if x20 = true then (some x5) else ((plan_Sync.f x0 x1).bind fun t117 => (if (t117.length : Int) < 2 then (wayfinderlaw20_PlanEnds.j1 k x0 t117 (t117.length : Int) true) else (if 0 ≤ (wrap64 ((t117.length : Int) - 1)) then (if (wrap64 ((t117.length : Int) - 1)) < (t117.length : Int) then (if (!(((rd_T34 t117 (wrap64 ((t117.length : Int) - 1))).f0) == 5) || (!(((rd_T34 t117 (wrap64 ((t117.length : Int) - 1))).f1) == 0) || (!(((rd_T34 t117 (wrap64 ((t117.length : Int) - 1))).f2) == 0) || (!(((rd_T34 t117 (wrap64 ((t117.length : Int) - 1))).f3) == 0) || (((!(((rd_T34 t117 (wrap64 ((t117.length : Int) - 1))).f4.f0.f0) == 0) || (!(((rd_T34 t117 (wrap64 ((t117.length : Int) - 1))).f4.f0.f1) == 0))) || (!(((rd_T34 t117 (wrap64 ((t117.length : Int) - 1))).f4.f1) == 0) || (!(((rd_T34 t117 (wrap64 ((t117.length : Int) - 1))).f4.f2) == 0) || ((!(((rd_T34 t117 (wrap64 ((t117.length : Int) - 1))).f4.f3.f0) == 0) || (!(((rd_T34 t117 (wrap64 ((t117.length : Int) - 1))).f4.f3.f1) == 0)))))))))))) = true then (wayfinderlaw20_PlanEnds.j1 k x0 t117 (t117.length : Int) true) else (if 0 ≤ (wrap64 ((t117.length : Int) - 2)) then (if (wrap64 ((t117.length : Int) - 2)) < (t117.length : Int) then (wayfinderlaw20_PlanEnds.j1 k x0 t117 (t117.length : Int) (!(((rd_T34 t117 (wrap64 ((t117.length : Int) - 2))).f0) == 3) || (!(((rd_T34 t117 (wrap64 ((t117.length : Int) - 2))).f1) == 0) || (!(((rd_T34 t117 (wrap64 ((t117.length : Int) - 2))).f2) == 0) || (!(((rd_T34 t117 (wrap64 ((t117.length : Int) - 2))).f3) == x1) || (((!(((rd_T34 t117 (wrap64 ((t117.length : Int) - 2))).f4.f0.f0) == 0) || (!(((rd_T34 t117 (wrap64 ((t117.length : Int) - 2))).f4.f0.f1) == 0))) || (!(((rd_T34 t117 (wrap64 ((t117.length : Int) - 2))).f4.f1) == 0) || (!(((rd_T34 t117 (wrap64 ((t117.length : Int) - 2))).f4.f2) == 0) || ((!(((rd_T34 t117 (wrap64 ((t117.length : Int) - 2))).f4.f3.f0) == 0) || (!(((rd_T34 t117 (wrap64 ((t117.length : Int) - 2))).f4.f3.f1) == 0))))))))))))) else (none)) else (none))) else (none)) else (none))))
def wayfinderlaw20_PlanEnds.j1 : Nat → List (S37) → List (S34) → Int → Bool → Option (Bool)
  | 0, _, _, _, _ => none
  | k + 1, x0, x7, x8, x47 => if x47 = true then (none) else (wayfinderlaw20_PlanEnds.l0 k x0 x7 x8 0 0)
def wayfinderlaw20_PlanEnds.l0 : Nat → List (S37) → List (S34) → Int → Int → Int → Option (Bool)
  | 0, _, _, _, _, _ => none
  | k + 1, x0, x7, x8, x9, x10 => if x10 < (x0.length : Int) then (wayfinderlaw20_PlanEnds.l1 k x0 x7 x8 x9 x10 0) else (some (x9 == (wrap64 (x8 - 2))))
def wayfinderlaw20_PlanEnds.l1 : Nat → List (S37) → List (S34) → Int → Int → Int → Int → Option (Bool)
  | 0, _, _, _, _, _, _ => none
  | k + 1, x0, x7, x8, x9, x10, x11 => if 0 ≤ x10 then (if x10 < (x0.length : Int) then (if x11 < (((rd_T37 x0 x10).f1).length : Int) then (if x9 ≥ (wrap64 (x8 - 2)) then (none) else (if 0 ≤ x9 then (if x9 < (x7.length : Int) then (if 0 ≤ x11 then (if (!(((rd_T34 x7 x9).f0) == 2) || (!(((rd_T34 x7 x9).f1) == 0) || (!(((rd_T34 x7 x9).f2) == 0) || (!(((rd_T34 x7 x9).f3) == ((rd_T37 x0 x10).f0)) || (((!(((rd_T34 x7 x9).f4.f0.f0) == ((rd_T32 ((rd_T37 x0 x10).f1) x11).f0.f0)) || (!(((rd_T34 x7 x9).f4.f0.f1) == ((rd_T32 ((rd_T37 x0 x10).f1) x11).f0.f1)))) || (!(((rd_T34 x7 x9).f4.f1) == ((rd_T32 ((rd_T37 x0 x10).f1) x11).f1)) || (!(((rd_T34 x7 x9).f4.f2) == ((rd_T32 ((rd_T37 x0 x10).f1) x11).f2)) || ((!(((rd_T34 x7 x9).f4.f3.f0) == ((rd_T32 ((rd_T37 x0 x10).f1) x11).f3.f0)) || (!(((rd_T34 x7 x9).f4.f3.f1) == ((rd_T32 ((rd_T37 x0 x10).f1) x11).f3.f1))))))))))))) = true then (none) else (wayfinderlaw20_PlanEnds.l1 k x0 x7 x8 (wrap64 (x9 + 1)) x10 (wrap64 (x11 + 1)))) else (none)) else (none)) else (none))) else (wayfinderlaw20_PlanEnds.l0 k x0 x7 x8 x9 (wrap64 (x10 + 1)))) else (none)) else (none)
end
def wayfinderlaw20_PlanEnds.f (k : Nat) (l0 : List (S37)) (a1 : Int) : Option (Bool) := (wayfinderlaw20_awake.f).bind fun t115 => ((wayfinderlaw09_Few.f k l0).bind fun t116 => (if t115 = true then (wayfinderlaw20_PlanEnds.j0 k l0 a1 t115 (!t116)) else (wayfinderlaw20_PlanEnds.j0 k l0 a1 t115 true)))
theorem wayfinderlaw20_PlanEnds.mono_l : ∀ k, (∀ y0 y1 y2 y3, LeO (wayfinderlaw20_PlanEnds.j0 k y0 y1 y2 y3) (wayfinderlaw20_PlanEnds.j0 (k + 1) y0 y1 y2 y3)) ∧ (∀ y0 y1 y2 y3, LeO (wayfinderlaw20_PlanEnds.j1 k y0 y1 y2 y3) (wayfinderlaw20_PlanEnds.j1 (k + 1) y0 y1 y2 y3)) ∧ (∀ y0 y1 y2 y3 y4, LeO (wayfinderlaw20_PlanEnds.l0 k y0 y1 y2 y3 y4) (wayfinderlaw20_PlanEnds.l0 (k + 1) y0 y1 y2 y3 y4)) ∧ (∀ y0 y1 y2 y3 y4 y5, LeO (wayfinderlaw20_PlanEnds.l1 k y0 y1 y2 y3 y4 y5) (wayfinderlaw20_PlanEnds.l1 (k + 1) y0 y1 y2 y3 y4 y5))
  | 0 => ⟨fun _ _ _ _ r h => by simp [wayfinderlaw20_PlanEnds.j0] at h, fun _ _ _ _ r h => by simp [wayfinderlaw20_PlanEnds.j1] at h, fun _ _ _ _ _ r h => by simp [wayfinderlaw20_PlanEnds.l0] at h, fun _ _ _ _ _ _ r h => by simp [wayfinderlaw20_PlanEnds.l1] at h⟩
  | k + 1 => by
    obtain ⟨ih0, ih1, ih2, ih3⟩ := wayfinderlaw20_PlanEnds.mono_l k
    refine ⟨?_, ?_, ?_, ?_⟩
    · intro y0 y1 y2 y3
      unfold wayfinderlaw20_PlanEnds.j0
      repeat' first
      | (with_reducible exact ih0 _ _ _ _)
      | (with_reducible exact ih1 _ _ _ _)
      | (with_reducible exact ih2 _ _ _ _ _)
      | (with_reducible exact ih3 _ _ _ _ _ _)
      | (with_reducible exact wayfinderlaw09_Few.mono _ _)
      | (with_reducible exact LeO.refl _)
      | (with_reducible exact LeO.none _)
      | (with_reducible refine LeO.ite ?_ ?_)
      | (with_reducible refine LeO.bind ?_ (fun _ => ?_))
      | exact ih0 _ _ _ _
      | exact ih1 _ _ _ _
      | exact ih2 _ _ _ _ _
      | exact ih3 _ _ _ _ _ _
      | exact wayfinderlaw09_Few.mono _ _
      | exact LeO.none _
      | refine LeO.ite ?_ ?_
      | refine LeO.bind ?_ (fun _ => ?_)
    · intro y0 y1 y2 y3
      unfold wayfinderlaw20_PlanEnds.j1
      repeat' first
      | (with_reducible exact ih0 _ _ _ _)
      | (with_reducible exact ih1 _ _ _ _)
      | (with_reducible exact ih2 _ _ _ _ _)
      | (with_reducible exact ih3 _ _ _ _ _ _)
      | (with_reducible exact wayfinderlaw09_Few.mono _ _)
      | (with_reducible exact LeO.refl _)
      | (with_reducible exact LeO.none _)
      | (with_reducible refine LeO.ite ?_ ?_)
      | (with_reducible refine LeO.bind ?_ (fun _ => ?_))
      | exact ih0 _ _ _ _
      | exact ih1 _ _ _ _
      | exact ih2 _ _ _ _ _
      | exact ih3 _ _ _ _ _ _
      | exact wayfinderlaw09_Few.mono _ _
      | exact LeO.none _
      | refine LeO.ite ?_ ?_
      | refine LeO.bind ?_ (fun _ => ?_)
    · intro y0 y1 y2 y3 y4
      unfold wayfinderlaw20_PlanEnds.l0
      repeat' first
      | (with_reducible exact ih0 _ _ _ _)
      | (with_reducible exact ih1 _ _ _ _)
      | (with_reducible exact ih2 _ _ _ _ _)
      | (with_reducible exact ih3 _ _ _ _ _ _)
      | (with_reducible exact wayfinderlaw09_Few.mono _ _)
      | (with_reducible exact LeO.refl _)
      | (with_reducible exact LeO.none _)
      | (with_reducible refine LeO.ite ?_ ?_)
      | (with_reducible refine LeO.bind ?_ (fun _ => ?_))
      | exact ih0 _ _ _ _
      | exact ih1 _ _ _ _
      | exact ih2 _ _ _ _ _
      | exact ih3 _ _ _ _ _ _
      | exact wayfinderlaw09_Few.mono _ _
      | exact LeO.none _
      | refine LeO.ite ?_ ?_
      | refine LeO.bind ?_ (fun _ => ?_)
    · intro y0 y1 y2 y3 y4 y5
      unfold wayfinderlaw20_PlanEnds.l1
      repeat' first
      | (with_reducible exact ih0 _ _ _ _)
      | (with_reducible exact ih1 _ _ _ _)
      | (with_reducible exact ih2 _ _ _ _ _)
      | (with_reducible exact ih3 _ _ _ _ _ _)
      | (with_reducible exact wayfinderlaw09_Few.mono _ _)
      | (with_reducible exact LeO.refl _)
      | (with_reducible exact LeO.none _)
      | (with_reducible refine LeO.ite ?_ ?_)
      | (with_reducible refine LeO.bind ?_ (fun _ => ?_))
      | exact ih0 _ _ _ _
      | exact ih1 _ _ _ _
      | exact ih2 _ _ _ _ _
      | exact ih3 _ _ _ _ _ _
      | exact wayfinderlaw09_Few.mono _ _
      | exact LeO.none _
      | refine LeO.ite ?_ ?_
      | refine LeO.bind ?_ (fun _ => ?_)
theorem wayfinderlaw20_PlanEnds.mono : ∀ a0 a1 k, LeO (wayfinderlaw20_PlanEnds.f k a0 a1) (wayfinderlaw20_PlanEnds.f (k + 1) a0 a1) := by
  intro a0 a1 k
  obtain ⟨ih0, ih1, ih2, ih3⟩ := wayfinderlaw20_PlanEnds.mono_l k
  unfold wayfinderlaw20_PlanEnds.f
  repeat' first
      | (with_reducible exact ih0 _ _ _ _)
      | (with_reducible exact ih1 _ _ _ _)
      | (with_reducible exact ih2 _ _ _ _ _)
      | (with_reducible exact ih3 _ _ _ _ _ _)
      | (with_reducible exact wayfinderlaw09_Few.mono _ _)
      | (with_reducible exact LeO.refl _)
      | (with_reducible exact LeO.none _)
      | (with_reducible refine LeO.ite ?_ ?_)
      | (with_reducible refine LeO.bind ?_ (fun _ => ?_))
      | exact ih0 _ _ _ _
      | exact ih1 _ _ _ _
      | exact ih2 _ _ _ _ _
      | exact ih3 _ _ _ _ _ _
      | exact wayfinderlaw09_Few.mono _ _
      | exact LeO.none _
      | refine LeO.ite ?_ ?_
      | refine LeO.bind ?_ (fun _ => ?_)
set_option maxHeartbeats 8000000 in
set_option maxRecDepth 100000 in
theorem wayfinderlaw20_PlanEnds.calls (k : Nat) (A0 : Option Addr) (c0 : Nat) (l0 : List (S37)) (a1 : Int) (r : Bool) (w : World) (hr0 : Kd.C k37 w A0 l0.length l0) (hc0 : l0.length ≤ c0) (h : wayfinderlaw20_PlanEnds.f k l0 a1 = some r) :
    Calls Try.prog 3 #[.slice A0 l0.length c0, .int .i64 a1] w fun e w' => e = .returned (.bool r) ∧ Below w.heap.size w w' := by
  have hu34 := Try.underlying34
  have hu32 := Try.underlying32
  have HR0 := Aside0.mk hr0
  have HC0 := Aside0.mk hc0
  clear hr0 hc0
  have HB := Aside0.mk (Below.refl w.heap.size w)
  have H : ((wayfinderlaw20_awake.f).bind fun t115 => ((wayfinderlaw09_Few.f k l0).bind fun t116 => (if t115 = true then (wayfinderlaw20_PlanEnds.j0 k l0 a1 t115 (!t116)) else (wayfinderlaw20_PlanEnds.j0 k l0 a1 t115 true)))) = some r := h
  clear h
  replace H := Option.bind_eq_some_iff.mp H
  obtain ⟨t115, A30, H⟩ := H
  replace H : ((wayfinderlaw09_Few.f k l0).bind fun t116 => (if t115 = true then (wayfinderlaw20_PlanEnds.j0 k l0 a1 t115 (!t116)) else (wayfinderlaw20_PlanEnds.j0 k l0 a1 t115 true))) = some r := H
  have A3 := Aside0.mk A30
  clear A30
  replace H := Option.bind_eq_some_iff.mp H
  obtain ⟨t116, A40, H⟩ := H
  replace H : (if t115 = true then (wayfinderlaw20_PlanEnds.j0 k l0 a1 t115 (!t116)) else (wayfinderlaw20_PlanEnds.j0 k l0 a1 t115 true)) = some r := H
  have A4 := Aside0.mk A40
  clear A40
  have HC5 := Aside0.mk H
  clear H
  go_enter Try.func3, Try.ntmps3
  go_upto_region 3 with (first | (go_at_call 12; (with_reducible refine (wayfinderlaw20_awake.calls  t115 _ A3.out).mono ?_); rintro e w6 ⟨rfl, hb⟩; have n0_ := Aside0.mk (below_step (by repeat (first | (with_reducible first | exact HB.out | apply below_alloc | apply pw_below_drewN | apply below_drew1) | exact HB.out)) hb); clear HB; have HB := n0_; clear n0_; (try clear hb); (try clear hb2); (try clear hk); (try clear hi)) | (go_at_call 13; (with_reducible refine (wayfinderlaw09_Few.calls k _ _ l0 t116 _ ?side1 ?side2 A4.out).mono ?_); (case side1 => repeat (first | exact (Kd.C_below HR0.out HB.out) | (with_reducible refine Kd.C_alloc ?_ _) | (with_reducible refine Kd.C_drewN ?_ _) | (with_reducible refine Kd.C_drew ?_))); (case side2 => exact HC0.out); rintro e w' ⟨rfl, ⟨nd, rfl⟩⟩; (try first | exact ⟨rfl, _, World.drewN_drewN _ _ _⟩ | exact ⟨rfl, _, Eq.trans (World.drewN_drewN _ _ _) (congrArg (World.drewN _) (Nat.add_assoc _ _ _))⟩)))
  repeat (go_quiet (first | (go_at_call 12; (with_reducible refine (wayfinderlaw20_awake.calls  t115 _ A3.out).mono ?_); rintro e w6 ⟨rfl, hb⟩; have n0_ := Aside0.mk (below_step (by repeat (first | (with_reducible first | exact HB.out | apply below_alloc | apply pw_below_drewN | apply below_drew1) | exact HB.out)) hb); clear HB; have HB := n0_; clear n0_; (try clear hb); (try clear hb2); (try clear hk); (try clear hi)) | (go_at_call 13; (with_reducible refine (wayfinderlaw09_Few.calls k _ _ l0 t116 _ ?side1 ?side2 A4.out).mono ?_); (case side1 => repeat (first | exact (Kd.C_below HR0.out HB.out) | (with_reducible refine Kd.C_alloc ?_ _) | (with_reducible refine Kd.C_drewN ?_ _) | (with_reducible refine Kd.C_drew ?_))); (case side2 => exact HC0.out); rintro e w' ⟨rfl, ⟨nd, rfl⟩⟩; (try first | exact ⟨rfl, _, World.drewN_drewN _ _ _⟩ | exact ⟨rfl, _, Eq.trans (World.drewN_drewN _ _ _) (congrArg (World.drewN _) (Nat.add_assoc _ _ _))⟩))); go_upto_region 3 with (first | (go_at_call 12; (with_reducible refine (wayfinderlaw20_awake.calls  t115 _ A3.out).mono ?_); rintro e w6 ⟨rfl, hb⟩; have n0_ := Aside0.mk (below_step (by repeat (first | (with_reducible first | exact HB.out | apply below_alloc | apply pw_below_drewN | apply below_drew1) | exact HB.out)) hb); clear HB; have HB := n0_; clear n0_; (try clear hb); (try clear hb2); (try clear hk); (try clear hi)) | (go_at_call 13; (with_reducible refine (wayfinderlaw09_Few.calls k _ _ l0 t116 _ ?side1 ?side2 A4.out).mono ?_); (case side1 => repeat (first | exact (Kd.C_below HR0.out HB.out) | (with_reducible refine Kd.C_alloc ?_ _) | (with_reducible refine Kd.C_drewN ?_ _) | (with_reducible refine Kd.C_drew ?_))); (case side2 => exact HC0.out); rintro e w' ⟨rfl, ⟨nd, rfl⟩⟩; (try first | exact ⟨rfl, _, World.drewN_drewN _ _ _⟩ | exact ⟨rfl, _, Eq.trans (World.drewN_drewN _ _ _) (congrArg (World.drewN _) (Nat.add_assoc _ _ _))⟩))))
  (try simp only [Act.put, List.setIfInBounds_toArray, List.set_cons_zero, List.set_cons_succ])
  go_cut [20] (fun v20 wc => ∃ (kq : Nat) (x20_4 : Bool), v20 = .bool x20_4 ∧ Aside0 (wayfinderlaw20_PlanEnds.j0 kq l0 a1 t115 x20_4 = some r) ∧ Aside0 (kq ≤ k) ∧ Aside0 (Below w.heap.size w wc))
  case first =>
    have H := HC5.out
    clear HC5
    by_cases c7 : t115 = true
    · subst c7
      have H1 : (wayfinderlaw20_PlanEnds.j0 k l0 a1 true (!t116)) = some r := by rw [if_pos rfl] at H; exact H
      clear H
      have H := H1
      clear H1
      have H' := Aside0.mk H
      clear H
      go_wp2
      repeat (go_quiet (fail); try go_wp2)
      go_meet
      case rel => exact ⟨_, (!t116), (by first | rfl | (simp; done) | (simp [*]; done)), H', ⟨by first | omega | exact Nat.le_refl _⟩, ⟨by repeat (first | (with_reducible first | exact HB.out | apply below_alloc | apply pw_below_drewN | apply below_drew1) | exact HB.out)⟩⟩
    · replace c7 := Bool.eq_false_iff.mpr c7
      subst c7
      have H1 : (wayfinderlaw20_PlanEnds.j0 k l0 a1 false true) = some r := by rw [if_neg (show ¬ (false = true) by decide)] at H; exact H
      clear H
      have H := H1
      clear H1
      have H' := Aside0.mk H
      clear H
      go_wp2
      repeat (go_quiet (fail); try go_wp2)
      go_meet
      case rel => exact ⟨_, (true), (by first | rfl | (simp; done) | (simp [*]; done)), H', ⟨by first | omega | exact Nat.le_refl _⟩, ⟨by repeat (first | (with_reducible first | exact HB.out | apply below_alloc | apply pw_below_drewN | apply below_drew1) | exact HB.out)⟩⟩
  case rest =>
    clear HC5
    try clear p2
    try clear c3
    try clear c7
    obtain ⟨kq, x20_4, rfl, HA, HJ4, HB⟩ := hcut
    cases kq with
    | zero => exact absurd HA.out (by simp [wayfinderlaw20_PlanEnds.j0])
    | succ kj4 =>
      have H := HA.out
      clear HA
      simp only [wayfinderlaw20_PlanEnds.j0] at H
      by_cases c8 : x20_4 = true
      · subst c8
        have H1 : (some t115) = some r := by rw [if_pos rfl] at H; exact H
        clear H
        have H := H1
        clear H1
        obtain rfl := Option.some.inj H
        go_wp2
        repeat (go_quiet (fail); try go_wp2)
        go_ret
        exact ⟨by first | rfl | (simp [errW_none, errW_some] <;> rfl) | (simp [*, errW_none, errW_some] <;> rfl), by repeat (first | (with_reducible first | exact HB.out | apply below_alloc | apply pw_below_drewN | apply below_drew1) | exact HB.out)⟩
      · replace c8 := Bool.eq_false_iff.mpr c8
        subst c8
        have H1 : ((plan_Sync.f l0 a1).bind fun t117 => (if (t117.length : Int) < 2 then (wayfinderlaw20_PlanEnds.j1 kj4 l0 t117 (t117.length : Int) true) else (if 0 ≤ (wrap64 ((t117.length : Int) - 1)) then (if (wrap64 ((t117.length : Int) - 1)) < (t117.length : Int) then (if (!(((rd_T34 t117 (wrap64 ((t117.length : Int) - 1))).f0) == 5) || (!(((rd_T34 t117 (wrap64 ((t117.length : Int) - 1))).f1) == 0) || (!(((rd_T34 t117 (wrap64 ((t117.length : Int) - 1))).f2) == 0) || (!(((rd_T34 t117 (wrap64 ((t117.length : Int) - 1))).f3) == 0) || (((!(((rd_T34 t117 (wrap64 ((t117.length : Int) - 1))).f4.f0.f0) == 0) || (!(((rd_T34 t117 (wrap64 ((t117.length : Int) - 1))).f4.f0.f1) == 0))) || (!(((rd_T34 t117 (wrap64 ((t117.length : Int) - 1))).f4.f1) == 0) || (!(((rd_T34 t117 (wrap64 ((t117.length : Int) - 1))).f4.f2) == 0) || ((!(((rd_T34 t117 (wrap64 ((t117.length : Int) - 1))).f4.f3.f0) == 0) || (!(((rd_T34 t117 (wrap64 ((t117.length : Int) - 1))).f4.f3.f1) == 0)))))))))))) = true then (wayfinderlaw20_PlanEnds.j1 kj4 l0 t117 (t117.length : Int) true) else (if 0 ≤ (wrap64 ((t117.length : Int) - 2)) then (if (wrap64 ((t117.length : Int) - 2)) < (t117.length : Int) then (wayfinderlaw20_PlanEnds.j1 kj4 l0 t117 (t117.length : Int) (!(((rd_T34 t117 (wrap64 ((t117.length : Int) - 2))).f0) == 3) || (!(((rd_T34 t117 (wrap64 ((t117.length : Int) - 2))).f1) == 0) || (!(((rd_T34 t117 (wrap64 ((t117.length : Int) - 2))).f2) == 0) || (!(((rd_T34 t117 (wrap64 ((t117.length : Int) - 2))).f3) == a1) || (((!(((rd_T34 t117 (wrap64 ((t117.length : Int) - 2))).f4.f0.f0) == 0) || (!(((rd_T34 t117 (wrap64 ((t117.length : Int) - 2))).f4.f0.f1) == 0))) || (!(((rd_T34 t117 (wrap64 ((t117.length : Int) - 2))).f4.f1) == 0) || (!(((rd_T34 t117 (wrap64 ((t117.length : Int) - 2))).f4.f2) == 0) || ((!(((rd_T34 t117 (wrap64 ((t117.length : Int) - 2))).f4.f3.f0) == 0) || (!(((rd_T34 t117 (wrap64 ((t117.length : Int) - 2))).f4.f3.f1) == 0))))))))))))) else (none)) else (none))) else (none)) else (none)))) = some r := by rw [if_neg (show ¬ (false = true) by decide)] at H; exact H
        clear H
        have H := H1
        clear H1
        replace H := Option.bind_eq_some_iff.mp H
        obtain ⟨t117, A90, H⟩ := H
        replace H : (if (t117.length : Int) < 2 then (wayfinderlaw20_PlanEnds.j1 kj4 l0 t117 (t117.length : Int) true) else (if 0 ≤ (wrap64 ((t117.length : Int) - 1)) then (if (wrap64 ((t117.length : Int) - 1)) < (t117.length : Int) then (if (!(((rd_T34 t117 (wrap64 ((t117.length : Int) - 1))).f0) == 5) || (!(((rd_T34 t117 (wrap64 ((t117.length : Int) - 1))).f1) == 0) || (!(((rd_T34 t117 (wrap64 ((t117.length : Int) - 1))).f2) == 0) || (!(((rd_T34 t117 (wrap64 ((t117.length : Int) - 1))).f3) == 0) || (((!(((rd_T34 t117 (wrap64 ((t117.length : Int) - 1))).f4.f0.f0) == 0) || (!(((rd_T34 t117 (wrap64 ((t117.length : Int) - 1))).f4.f0.f1) == 0))) || (!(((rd_T34 t117 (wrap64 ((t117.length : Int) - 1))).f4.f1) == 0) || (!(((rd_T34 t117 (wrap64 ((t117.length : Int) - 1))).f4.f2) == 0) || ((!(((rd_T34 t117 (wrap64 ((t117.length : Int) - 1))).f4.f3.f0) == 0) || (!(((rd_T34 t117 (wrap64 ((t117.length : Int) - 1))).f4.f3.f1) == 0)))))))))))) = true then (wayfinderlaw20_PlanEnds.j1 kj4 l0 t117 (t117.length : Int) true) else (if 0 ≤ (wrap64 ((t117.length : Int) - 2)) then (if (wrap64 ((t117.length : Int) - 2)) < (t117.length : Int) then (wayfinderlaw20_PlanEnds.j1 kj4 l0 t117 (t117.length : Int) (!(((rd_T34 t117 (wrap64 ((t117.length : Int) - 2))).f0) == 3) || (!(((rd_T34 t117 (wrap64 ((t117.length : Int) - 2))).f1) == 0) || (!(((rd_T34 t117 (wrap64 ((t117.length : Int) - 2))).f2) == 0) || (!(((rd_T34 t117 (wrap64 ((t117.length : Int) - 2))).f3) == a1) || (((!(((rd_T34 t117 (wrap64 ((t117.length : Int) - 2))).f4.f0.f0) == 0) || (!(((rd_T34 t117 (wrap64 ((t117.length : Int) - 2))).f4.f0.f1) == 0))) || (!(((rd_T34 t117 (wrap64 ((t117.length : Int) - 2))).f4.f1) == 0) || (!(((rd_T34 t117 (wrap64 ((t117.length : Int) - 2))).f4.f2) == 0) || ((!(((rd_T34 t117 (wrap64 ((t117.length : Int) - 2))).f4.f3.f0) == 0) || (!(((rd_T34 t117 (wrap64 ((t117.length : Int) - 2))).f4.f3.f1) == 0))))))))))))) else (none)) else (none))) else (none)) else (none))) = some r := H
        have A9 := Aside0.mk A90
        clear A90
        have HC10 := Aside0.mk H
        clear H
        go_upto_region 7 with (first | (go_at_call 14; (with_reducible refine (plan_Sync.calls _ _ l0 a1 t117 _ ?side1 ?side2 A9.out).mono ?_); (case side1 => repeat (first | exact (Kd.C_below HR0.out HB.out) | (with_reducible refine Kd.C_alloc ?_ _) | (with_reducible refine Kd.C_drewN ?_ _) | (with_reducible refine Kd.C_drew ?_))); (case side2 => exact HC0.out); rintro e w11 ⟨v118, rfl, ho0, hb⟩; have n0_ := Aside0.mk (Kd.R_lower ho0 (below_size (by repeat (first | (with_reducible first | exact HB.out | apply below_alloc | apply pw_below_drewN | apply below_drew1) | exact HB.out)))); have n1_ := Aside0.mk (below_step (by repeat (first | (with_reducible first | exact HB.out | apply below_alloc | apply pw_below_drewN | apply below_drew1) | exact HB.out)) hb); clear HB; have HO119 := n0_; have HB := n1_; clear n0_ n1_; (try clear hb); (try clear hb2); (try clear hk); (try clear hi); (try clear ho0); obtain ⟨Ao12, co12, eo12⟩ := Kd.R_slice HO119.out; subst eo12))
        repeat (go_quiet (first | (go_at_call 14; (with_reducible refine (plan_Sync.calls _ _ l0 a1 t117 _ ?side1 ?side2 A9.out).mono ?_); (case side1 => repeat (first | exact (Kd.C_below HR0.out HB.out) | (with_reducible refine Kd.C_alloc ?_ _) | (with_reducible refine Kd.C_drewN ?_ _) | (with_reducible refine Kd.C_drew ?_))); (case side2 => exact HC0.out); rintro e w11 ⟨v118, rfl, ho0, hb⟩; have n0_ := Aside0.mk (Kd.R_lower ho0 (below_size (by repeat (first | (with_reducible first | exact HB.out | apply below_alloc | apply pw_below_drewN | apply below_drew1) | exact HB.out)))); have n1_ := Aside0.mk (below_step (by repeat (first | (with_reducible first | exact HB.out | apply below_alloc | apply pw_below_drewN | apply below_drew1) | exact HB.out)) hb); clear HB; have HO119 := n0_; have HB := n1_; clear n0_ n1_; (try clear hb); (try clear hb2); (try clear hk); (try clear hi); (try clear ho0); obtain ⟨Ao12, co12, eo12⟩ := Kd.R_slice HO119.out; subst eo12)); go_upto_region 7 with (first | (go_at_call 14; (with_reducible refine (plan_Sync.calls _ _ l0 a1 t117 _ ?side1 ?side2 A9.out).mono ?_); (case side1 => repeat (first | exact (Kd.C_below HR0.out HB.out) | (with_reducible refine Kd.C_alloc ?_ _) | (with_reducible refine Kd.C_drewN ?_ _) | (with_reducible refine Kd.C_drew ?_))); (case side2 => exact HC0.out); rintro e w11 ⟨v118, rfl, ho0, hb⟩; have n0_ := Aside0.mk (Kd.R_lower ho0 (below_size (by repeat (first | (with_reducible first | exact HB.out | apply below_alloc | apply pw_below_drewN | apply below_drew1) | exact HB.out)))); have n1_ := Aside0.mk (below_step (by repeat (first | (with_reducible first | exact HB.out | apply below_alloc | apply pw_below_drewN | apply below_drew1) | exact HB.out)) hb); clear HB; have HO119 := n0_; have HB := n1_; clear n0_ n1_; (try clear hb); (try clear hb2); (try clear hk); (try clear hi); (try clear ho0); obtain ⟨Ao12, co12, eo12⟩ := Kd.R_slice HO119.out; subst eo12)))
        (try simp only [Act.put, List.setIfInBounds_toArray, List.set_cons_zero, List.set_cons_succ])
        go_cut [47] (fun v47 wc => ∃ (kq : Nat) (x47_9 : Bool), v47 = .bool x47_9 ∧ Aside0 (wayfinderlaw20_PlanEnds.j1 kq l0 t117 (t117.length : Int) x47_9 = some r) ∧ Aside0 (kq ≤ kj4) ∧ Aside0 (Kd.R k34 34 wc w.heap.size (fun _ => True) (.slice Ao12 t117.length co12) t117) ∧ Aside0 (Below w.heap.size w wc))
        case first =>
          have H := HC10.out
          clear HC10
          by_cases c13 : (t117.length : Int) < 2
          · rw [if_pos c13] at H
            have c13b0 : decide ((t117.length : Int) < 2) = true := decide_eq_true c13
            have c13b1 : decide (t117.length < 2) = true := decide_eq_true (by omega)
            clear c13
            (first | rw [c13b0] | (simp only [i64_w, i32_w]; rw [c13b0]) | skip)
            have H' := Aside0.mk H
            clear H
            go_wp2
            repeat (go_quiet (fail); try go_wp2)
            go_meet
            case rel => exact ⟨_, (true), (by first | rfl | (simp; done) | (simp [*]; done)), H', ⟨by have := HJ4.out; first | omega | exact Nat.le_refl _⟩, ⟨by (with_reducible repeat (first | apply Kd.R_alloc | apply Kd.R_drewN | apply Kd.R_drew)); exact HO119.out⟩, ⟨by repeat (first | (with_reducible first | exact HB.out | apply below_alloc | apply pw_below_drewN | apply below_drew1) | exact HB.out)⟩⟩
          · rw [if_neg c13] at H
            have c13b0 : decide ((t117.length : Int) < 2) = false := decide_eq_false c13
            have c13b1 : decide (t117.length < 2) = false := decide_eq_false (by omega)
            clear c13
            (first | rw [c13b0] | (simp only [i64_w, i32_w]; rw [c13b0]) | skip)
            obtain ⟨ji14, hji14⟩ : ∃ j_ : Int, (wrap64 ((t117.length : Int) - 1)) = j_ := ⟨_, rfl⟩
            replace H : (if 0 ≤ (ji14) then (if (ji14) < (t117.length : Int) then (if (!(((rd_T34 t117 (ji14)).f0) == 5) || (!(((rd_T34 t117 (ji14)).f1) == 0) || (!(((rd_T34 t117 (ji14)).f2) == 0) || (!(((rd_T34 t117 (ji14)).f3) == 0) || (((!(((rd_T34 t117 (ji14)).f4.f0.f0) == 0) || (!(((rd_T34 t117 (ji14)).f4.f0.f1) == 0))) || (!(((rd_T34 t117 (ji14)).f4.f1) == 0) || (!(((rd_T34 t117 (ji14)).f4.f2) == 0) || ((!(((rd_T34 t117 (ji14)).f4.f3.f0) == 0) || (!(((rd_T34 t117 (ji14)).f4.f3.f1) == 0)))))))))))) = true then (wayfinderlaw20_PlanEnds.j1 kj4 l0 t117 (t117.length : Int) true) else (if 0 ≤ (wrap64 ((t117.length : Int) - 2)) then (if (wrap64 ((t117.length : Int) - 2)) < (t117.length : Int) then (wayfinderlaw20_PlanEnds.j1 kj4 l0 t117 (t117.length : Int) (!(((rd_T34 t117 (wrap64 ((t117.length : Int) - 2))).f0) == 3) || (!(((rd_T34 t117 (wrap64 ((t117.length : Int) - 2))).f1) == 0) || (!(((rd_T34 t117 (wrap64 ((t117.length : Int) - 2))).f2) == 0) || (!(((rd_T34 t117 (wrap64 ((t117.length : Int) - 2))).f3) == a1) || (((!(((rd_T34 t117 (wrap64 ((t117.length : Int) - 2))).f4.f0.f0) == 0) || (!(((rd_T34 t117 (wrap64 ((t117.length : Int) - 2))).f4.f0.f1) == 0))) || (!(((rd_T34 t117 (wrap64 ((t117.length : Int) - 2))).f4.f1) == 0) || (!(((rd_T34 t117 (wrap64 ((t117.length : Int) - 2))).f4.f2) == 0) || ((!(((rd_T34 t117 (wrap64 ((t117.length : Int) - 2))).f4.f3.f0) == 0) || (!(((rd_T34 t117 (wrap64 ((t117.length : Int) - 2))).f4.f3.f1) == 0))))))))))))) else (none)) else (none))) else (none)) else (none)) = some r := by first | (rw [hji14] at H; exact H) | (simp only [hji14] at H ⊢; exact H)
            have hji14w : (IntKind.i64.wrap ((t117.length : Int) - 1)) = ji14 := (i64_w _).trans hji14
            by_cases c15 : 0 ≤ (ji14)
            · rw [if_pos c15] at H
              have c15b0 : decide (0 ≤ (ji14)) = true := decide_eq_true c15
              clear c15
              by_cases c16 : (ji14) < (t117.length : Int)
              · rw [if_pos c16] at H
                have c16b0 : decide ((ji14) < (t117.length : Int)) = true := decide_eq_true c16
                clear c16
                by_cases c17 : (!(((rd_T34 t117 (ji14)).f0) == 5) || (!(((rd_T34 t117 (ji14)).f1) == 0) || (!(((rd_T34 t117 (ji14)).f2) == 0) || (!(((rd_T34 t117 (ji14)).f3) == 0) || (((!(((rd_T34 t117 (ji14)).f4.f0.f0) == 0) || (!(((rd_T34 t117 (ji14)).f4.f0.f1) == 0))) || (!(((rd_T34 t117 (ji14)).f4.f1) == 0) || (!(((rd_T34 t117 (ji14)).f4.f2) == 0) || ((!(((rd_T34 t117 (ji14)).f4.f3.f0) == 0) || (!(((rd_T34 t117 (ji14)).f4.f3.f1) == 0)))))))))))) = true
                · rw [if_pos c17] at H
                  have c17b0 : (!(((rd_T34 t117 (ji14)).f0) == 5) || (!(((rd_T34 t117 (ji14)).f1) == 0) || (!(((rd_T34 t117 (ji14)).f2) == 0) || (!(((rd_T34 t117 (ji14)).f3) == 0) || (((!(((rd_T34 t117 (ji14)).f4.f0.f0) == 0) || (!(((rd_T34 t117 (ji14)).f4.f0.f1) == 0))) || (!(((rd_T34 t117 (ji14)).f4.f1) == 0) || (!(((rd_T34 t117 (ji14)).f4.f2) == 0) || ((!(((rd_T34 t117 (ji14)).f4.f3.f0) == 0) || (!(((rd_T34 t117 (ji14)).f4.f3.f1) == 0)))))))))))) = true := c17
                  clear c17
                  have H' := Aside0.mk H
                  clear H
                  have p120 : 0 ≤ ((ji14) : Int) := of_decide_eq_true (by first | (with_reducible assumption) | assumption)
                  have q120 : (ji14) < (t117.length : Int) := of_decide_eq_true (by first | (with_reducible assumption) | assumption)
                  obtain ⟨ad120, e120, hx120_0, hx120_1, hx120_2, hx120_3, hx120_4, hx120_5, hx120_6, hx120_7, hx120_8, hx120_9⟩ := at_T34 (Kd.R_reads' HO119.out).2.2 (ji14) p120 q120
                  cases e120
                  replace p120 := eq_true p120
                  replace q120 := eq_true q120
                  go_wp2
                  repeat (go_quiet (fail); try go_wp2)
                  go_meet
                  case rel => exact ⟨_, (true), (by first | rfl | (simp; done) | (simp [*]; done)), H', ⟨by have := HJ4.out; first | omega | exact Nat.le_refl _⟩, ⟨by (with_reducible repeat (first | apply Kd.R_alloc | apply Kd.R_drewN | apply Kd.R_drew)); exact HO119.out⟩, ⟨by repeat (first | (with_reducible first | exact HB.out | apply below_alloc | apply pw_below_drewN | apply below_drew1) | exact HB.out)⟩⟩
                · rw [if_neg c17] at H
                  have c17b0 : (!(((rd_T34 t117 (ji14)).f0) == 5) || (!(((rd_T34 t117 (ji14)).f1) == 0) || (!(((rd_T34 t117 (ji14)).f2) == 0) || (!(((rd_T34 t117 (ji14)).f3) == 0) || (((!(((rd_T34 t117 (ji14)).f4.f0.f0) == 0) || (!(((rd_T34 t117 (ji14)).f4.f0.f1) == 0))) || (!(((rd_T34 t117 (ji14)).f4.f1) == 0) || (!(((rd_T34 t117 (ji14)).f4.f2) == 0) || ((!(((rd_T34 t117 (ji14)).f4.f3.f0) == 0) || (!(((rd_T34 t117 (ji14)).f4.f3.f1) == 0)))))))))))) = false := by simpa using c17
                  clear c17
                  obtain ⟨ji18, hji18⟩ : ∃ j_ : Int, (wrap64 ((t117.length : Int) - 2)) = j_ := ⟨_, rfl⟩
                  replace H : (if 0 ≤ (ji18) then (if (ji18) < (t117.length : Int) then (wayfinderlaw20_PlanEnds.j1 kj4 l0 t117 (t117.length : Int) (!(((rd_T34 t117 (ji18)).f0) == 3) || (!(((rd_T34 t117 (ji18)).f1) == 0) || (!(((rd_T34 t117 (ji18)).f2) == 0) || (!(((rd_T34 t117 (ji18)).f3) == a1) || (((!(((rd_T34 t117 (ji18)).f4.f0.f0) == 0) || (!(((rd_T34 t117 (ji18)).f4.f0.f1) == 0))) || (!(((rd_T34 t117 (ji18)).f4.f1) == 0) || (!(((rd_T34 t117 (ji18)).f4.f2) == 0) || ((!(((rd_T34 t117 (ji18)).f4.f3.f0) == 0) || (!(((rd_T34 t117 (ji18)).f4.f3.f1) == 0))))))))))))) else (none)) else (none)) = some r := by first | (rw [hji18] at H; exact H) | (simp only [hji18] at H ⊢; exact H)
                  have hji18w : (IntKind.i64.wrap ((t117.length : Int) - 2)) = ji18 := (i64_w _).trans hji18
                  by_cases c19 : 0 ≤ (ji18)
                  · rw [if_pos c19] at H
                    have c19b0 : decide (0 ≤ (ji18)) = true := decide_eq_true c19
                    clear c19
                    by_cases c20 : (ji18) < (t117.length : Int)
                    · rw [if_pos c20] at H
                      have c20b0 : decide ((ji18) < (t117.length : Int)) = true := decide_eq_true c20
                      clear c20
                      have H' := Aside0.mk H
                      clear H
                      have p120 : 0 ≤ ((ji14) : Int) := of_decide_eq_true (by first | (with_reducible assumption) | assumption)
                      have q120 : (ji14) < (t117.length : Int) := of_decide_eq_true (by first | (with_reducible assumption) | assumption)
                      obtain ⟨ad120, e120, hx120_0, hx120_1, hx120_2, hx120_3, hx120_4, hx120_5, hx120_6, hx120_7, hx120_8, hx120_9⟩ := at_T34 (Kd.R_reads' HO119.out).2.2 (ji14) p120 q120
                      cases e120
                      replace p120 := eq_true p120
                      replace q120 := eq_true q120
                      have p121 : 0 ≤ ((ji18) : Int) := of_decide_eq_true (by first | (with_reducible assumption) | assumption)
                      have q121 : (ji18) < (t117.length : Int) := of_decide_eq_true (by first | (with_reducible assumption) | assumption)
                      obtain ⟨ad121, e121, hx121_0, hx121_1, hx121_2, hx121_3, hx121_4, hx121_5, hx121_6, hx121_7, hx121_8, hx121_9⟩ := at_T34 (Kd.R_reads' HO119.out).2.2 (ji18) p121 q121
                      obtain rfl : ad120 = ad121 := (by injection e121)
                      replace p121 := eq_true p121
                      replace q121 := eq_true q121
                      go_wp2
                      repeat (go_quiet (fail); try go_wp2)
                      go_meet
                      case rel => exact ⟨_, ((!(((rd_T34 t117 (ji18)).f0) == 3) || (!(((rd_T34 t117 (ji18)).f1) == 0) || (!(((rd_T34 t117 (ji18)).f2) == 0) || (!(((rd_T34 t117 (ji18)).f3) == a1) || (((!(((rd_T34 t117 (ji18)).f4.f0.f0) == 0) || (!(((rd_T34 t117 (ji18)).f4.f0.f1) == 0))) || (!(((rd_T34 t117 (ji18)).f4.f1) == 0) || (!(((rd_T34 t117 (ji18)).f4.f2) == 0) || ((!(((rd_T34 t117 (ji18)).f4.f3.f0) == 0) || (!(((rd_T34 t117 (ji18)).f4.f3.f1) == 0))))))))))))), (by first | rfl | (simp; done) | (simp only [← hji18] <;> (first | rfl | simp)) | (simp [*]; done)), H', ⟨by have := HJ4.out; first | omega | exact Nat.le_refl _⟩, ⟨by (with_reducible repeat (first | apply Kd.R_alloc | apply Kd.R_drewN | apply Kd.R_drew)); exact HO119.out⟩, ⟨by repeat (first | (with_reducible first | exact HB.out | apply below_alloc | apply pw_below_drewN | apply below_drew1) | exact HB.out)⟩⟩
                    · rw [if_neg c20] at H
                      exact absurd H (by simp)
                  · rw [if_neg c19] at H
                    exact absurd H (by simp)
              · rw [if_neg c16] at H
                exact absurd H (by simp)
            · rw [if_neg c15] at H
              exact absurd H (by simp)
        case rest =>
          clear HC10
          try clear c1
          try clear p1
          try clear q1
          try clear hx1
          try clear c2
          try clear p2
          try clear c3
          try clear p6
          try clear c7
          try clear c8
          try clear p12
          try clear q12
          try clear hx12
          try clear c13
          try clear c13b0
          try clear c13b1
          try clear c15
          try clear c15b0
          try clear c16
          try clear c16b0
          try clear c17
          try clear c17b0
          try clear c19
          try clear c19b0
          try clear c20
          try clear c20b0
          try clear hx120_0
          try clear hx120_1
          try clear hx120_2
          try clear hx120_3
          try clear hx120_4
          try clear hx120_5
          try clear hx120_6
          try clear hx120_7
          try clear hx120_8
          try clear hx120_9
          try clear hx121_0
          try clear hx121_1
          try clear hx121_2
          try clear hx121_3
          try clear hx121_4
          try clear hx121_5
          try clear hx121_6
          try clear hx121_7
          try clear hx121_8
          try clear hx121_9
          try clear p120
          try clear p121
          try clear p2
          try clear q120
          try clear q121
          obtain ⟨kq, x47_9, rfl, HA, HJ9, HO_7, HB⟩ := hcut
          cases kq with
          | zero => exact absurd HA.out (by simp [wayfinderlaw20_PlanEnds.j1])
          | succ kj9 =>
            have H := HA.out
            clear HA
            simp only [wayfinderlaw20_PlanEnds.j1] at H
            by_cases c21 : x47_9 = true
            · subst c21
              have H1 : (none) = some r := by rw [if_pos rfl] at H; exact H
              clear H
              have H := H1
              clear H1
              exact absurd H (by simp)
            · replace c21 := Bool.eq_false_iff.mpr c21
              subst c21
              have H1 : (wayfinderlaw20_PlanEnds.l0 kj9 l0 t117 (t117.length : Int) 0 0) = some r := by rw [if_neg (show ¬ (false = true) by decide)] at H; exact H
              clear H
              have H := H1
              clear H1
              have H' := Aside0.mk H
              clear H
              go_wp2
              repeat (go_quiet (fail); try go_wp2)
              go_loopg [9, 10] kj9 (fun kq v9 v10 w' => ∃ (x9_3 : Int) (x10_3 : Int), v9 = .int .i64 x9_3 ∧ v10 = .int .i64 x10_3 ∧ Aside0 (wayfinderlaw20_PlanEnds.l0 kq l0 t117 (t117.length : Int) x9_3 x10_3 = some r) ∧ Aside0 (kq ≤ kj9) ∧ Aside0 (Kd.R k34 34 w' w.heap.size (fun _ => True) (.slice Ao12 t117.length co12) t117) ∧ Aside0 (Below w.heap.size w w'))
              case atStart => exact ⟨(0), (0), (by first | rfl | (simp; done) | (simp [*]; done)), (by first | rfl | (simp; done) | (simp [*]; done)), H', ⟨Nat.le_refl _⟩, ⟨by (with_reducible repeat (first | apply Kd.R_alloc | apply Kd.R_drewN | apply Kd.R_drew)); exact HO_7.out⟩, ⟨by repeat (first | (with_reducible first | exact HB.out | apply below_alloc | apply pw_below_drewN | apply below_drew1) | exact HB.out)⟩⟩
              case round =>
                clear H'
                try clear c1
                try clear p1
                try clear q1
                try clear hx1
                try clear c2
                try clear p2
                try clear c3
                try clear p6
                try clear c7
                try clear c8
                try clear p12
                try clear q12
                try clear hx12
                try clear c13
                try clear c13b0
                try clear c13b1
                try clear c15
                try clear c15b0
                try clear c16
                try clear c16b0
                try clear c17
                try clear c17b0
                try clear c19
                try clear c19b0
                try clear c20
                try clear c20b0
                try clear c21
                try clear hx120_0
                try clear hx120_1
                try clear hx120_2
                try clear hx120_3
                try clear hx120_4
                try clear hx120_5
                try clear hx120_6
                try clear hx120_7
                try clear hx120_8
                try clear hx120_9
                try clear hx121_0
                try clear hx121_1
                try clear hx121_2
                try clear hx121_3
                try clear hx121_4
                try clear hx121_5
                try clear hx121_6
                try clear hx121_7
                try clear hx121_8
                try clear hx121_9
                try clear p1
                try clear p12
                try clear p120
                try clear p121
                try clear p2
                try clear p6
                try clear q1
                try clear q12
                try clear q120
                try clear q121
                obtain ⟨x9_3, x10_3, rfl, rfl, HA, HK3, HO_7, HB⟩ := hrel
                cases gk with
                | zero => exact absurd HA.out (by simp [wayfinderlaw20_PlanEnds.l0])
                | succ k3 =>
                  have H := HA.out
                  clear HA
                  simp only [wayfinderlaw20_PlanEnds.l0] at H
                  by_cases c22 : x10_3 < (l0.length : Int)
                  · rw [if_pos c22] at H
                    have c22b0 : decide (x10_3 < (l0.length : Int)) = true := decide_eq_true c22
                    clear c22
                    have H' := Aside0.mk H
                    clear H
                    go_wp2
                    repeat (go_quiet (fail); try go_wp2)
                    go_loopg [9, 11] k3 (fun kq v9 v11 w' => ∃ (x9_4 : Int) (x11_4 : Int), v9 = .int .i64 x9_4 ∧ v11 = .int .i64 x11_4 ∧ Aside0 (wayfinderlaw20_PlanEnds.l1 kq l0 t117 (t117.length : Int) x9_4 x10_3 x11_4 = some r) ∧ Aside0 (kq ≤ k3) ∧ Aside0 (Kd.R k34 34 w' w.heap.size (fun _ => True) (.slice Ao12 t117.length co12) t117) ∧ Aside0 (Below w.heap.size w w'))
                    case atStart => exact ⟨(x9_3), (0), (by first | rfl | (simp; done) | (simp [*]; done)), (by first | rfl | (simp; done) | (simp [*]; done)), H', ⟨Nat.le_refl _⟩, ⟨by (with_reducible repeat (first | apply Kd.R_alloc | apply Kd.R_drewN | apply Kd.R_drew)); exact HO_7.out⟩, ⟨by repeat (first | (with_reducible first | exact HB.out | apply below_alloc | apply pw_below_drewN | apply below_drew1) | exact HB.out)⟩⟩
                    case round =>
                      clear H'
                      try clear c1
                      try clear p1
                      try clear q1
                      try clear hx1
                      try clear c2
                      try clear p2
                      try clear c3
                      try clear p6
                      try clear c7
                      try clear c8
                      try clear p12
                      try clear q12
                      try clear hx12
                      try clear c13
                      try clear c13b0
                      try clear c13b1
                      try clear c15
                      try clear c15b0
                      try clear c16
                      try clear c16b0
                      try clear c17
                      try clear c17b0
                      try clear c19
                      try clear c19b0
                      try clear c20
                      try clear c20b0
                      try clear c21
                      try clear c22
                      try clear c22b0
                      try clear hx120_0
                      try clear hx120_1
                      try clear hx120_2
                      try clear hx120_3
                      try clear hx120_4
                      try clear hx120_5
                      try clear hx120_6
                      try clear hx120_7
                      try clear hx120_8
                      try clear hx120_9
                      try clear hx121_0
                      try clear hx121_1
                      try clear hx121_2
                      try clear hx121_3
                      try clear hx121_4
                      try clear hx121_5
                      try clear hx121_6
                      try clear hx121_7
                      try clear hx121_8
                      try clear hx121_9
                      try clear p1
                      try clear p12
                      try clear p120
                      try clear p121
                      try clear p2
                      try clear p6
                      try clear q1
                      try clear q12
                      try clear q120
                      try clear q121
                      obtain ⟨x9_4, x11_4, rfl, rfl, HA, HK4, HO_7, HB⟩ := hrel
                      cases gk with
                      | zero => exact absurd HA.out (by simp [wayfinderlaw20_PlanEnds.l1])
                      | succ k4 =>
                        have H := HA.out
                        clear HA
                        simp only [wayfinderlaw20_PlanEnds.l1] at H
                        by_cases c23 : 0 ≤ x10_3
                        · rw [if_pos c23] at H
                          have c23b0 : decide (0 ≤ x10_3) = true := decide_eq_true c23
                          clear c23
                          by_cases c24 : x10_3 < (l0.length : Int)
                          · rw [if_pos c24] at H
                            have c24b0 : decide (x10_3 < (l0.length : Int)) = true := decide_eq_true c24
                            clear c24
                            by_cases c25 : x11_4 < (((rd_T37 l0 x10_3).f1).length : Int)
                            · rw [if_pos c25] at H
                              have c25b0 : decide (x11_4 < (((rd_T37 l0 x10_3).f1).length : Int)) = true := decide_eq_true c25
                              clear c25
                              by_cases c26 : x9_4 ≥ (wrap64 ((t117.length : Int) - 2))
                              · rw [if_pos c26] at H
                                exact absurd H (by simp)
                              · rw [if_neg c26] at H
                                have c26b0 : decide ((wrap64 ((t117.length : Int) - 2)) ≤ x9_4) = false := decide_eq_false c26
                                clear c26
                                by_cases c27 : 0 ≤ x9_4
                                · rw [if_pos c27] at H
                                  have c27b0 : decide (0 ≤ x9_4) = true := decide_eq_true c27
                                  clear c27
                                  by_cases c28 : x9_4 < (t117.length : Int)
                                  · rw [if_pos c28] at H
                                    have c28b0 : decide (x9_4 < (t117.length : Int)) = true := decide_eq_true c28
                                    clear c28
                                    by_cases c29 : 0 ≤ x11_4
                                    · rw [if_pos c29] at H
                                      have c29b0 : decide (0 ≤ x11_4) = true := decide_eq_true c29
                                      clear c29
                                      by_cases c30 : (!(((rd_T34 t117 x9_4).f0) == 2) || (!(((rd_T34 t117 x9_4).f1) == 0) || (!(((rd_T34 t117 x9_4).f2) == 0) || (!(((rd_T34 t117 x9_4).f3) == ((rd_T37 l0 x10_3).f0)) || (((!(((rd_T34 t117 x9_4).f4.f0.f0) == ((rd_T32 ((rd_T37 l0 x10_3).f1) x11_4).f0.f0)) || (!(((rd_T34 t117 x9_4).f4.f0.f1) == ((rd_T32 ((rd_T37 l0 x10_3).f1) x11_4).f0.f1)))) || (!(((rd_T34 t117 x9_4).f4.f1) == ((rd_T32 ((rd_T37 l0 x10_3).f1) x11_4).f1)) || (!(((rd_T34 t117 x9_4).f4.f2) == ((rd_T32 ((rd_T37 l0 x10_3).f1) x11_4).f2)) || ((!(((rd_T34 t117 x9_4).f4.f3.f0) == ((rd_T32 ((rd_T37 l0 x10_3).f1) x11_4).f3.f0)) || (!(((rd_T34 t117 x9_4).f4.f3.f1) == ((rd_T32 ((rd_T37 l0 x10_3).f1) x11_4).f3.f1))))))))))))) = true
                                      · rw [if_pos c30] at H
                                        exact absurd H (by simp)
                                      · rw [if_neg c30] at H
                                        have c30b0 : (!(((rd_T34 t117 x9_4).f0) == 2) || (!(((rd_T34 t117 x9_4).f1) == 0) || (!(((rd_T34 t117 x9_4).f2) == 0) || (!(((rd_T34 t117 x9_4).f3) == ((rd_T37 l0 x10_3).f0)) || (((!(((rd_T34 t117 x9_4).f4.f0.f0) == ((rd_T32 ((rd_T37 l0 x10_3).f1) x11_4).f0.f0)) || (!(((rd_T34 t117 x9_4).f4.f0.f1) == ((rd_T32 ((rd_T37 l0 x10_3).f1) x11_4).f0.f1)))) || (!(((rd_T34 t117 x9_4).f4.f1) == ((rd_T32 ((rd_T37 l0 x10_3).f1) x11_4).f1)) || (!(((rd_T34 t117 x9_4).f4.f2) == ((rd_T32 ((rd_T37 l0 x10_3).f1) x11_4).f2)) || ((!(((rd_T34 t117 x9_4).f4.f3.f0) == ((rd_T32 ((rd_T37 l0 x10_3).f1) x11_4).f3.f0)) || (!(((rd_T34 t117 x9_4).f4.f3.f1) == ((rd_T32 ((rd_T37 l0 x10_3).f1) x11_4).f3.f1))))))))))))) = false := by simpa using c30
                                        clear c30
                                        have H' := Aside0.mk H
                                        clear H
                                        have p122 : 0 ≤ (x10_3 : Int) := of_decide_eq_true (by first | (with_reducible assumption) | assumption)
                                        have q122 : x10_3 < (l0.length : Int) := of_decide_eq_true (by first | (with_reducible assumption) | assumption)
                                        obtain ⟨ad122, A122_1, c122_1, e122, hx122_0, hx122_1, hl122_1, hi122_1⟩ := at_T37 HR0.out x10_3 p122 q122
                                        cases e122
                                        replace hx122_0 := (HB.out.cell (World.block_lt_of_cell? w _ hx122_0)).trans hx122_0
                                        replace hx122_1 := (HB.out.cell (World.block_lt_of_cell? w _ hx122_1)).trans hx122_1
                                        have HR122_1 := Aside0.mk hi122_1
                                        have HC122_1 := Aside0.mk hl122_1
                                        clear hi122_1 hl122_1
                                        replace p122 := eq_true p122
                                        replace q122 := eq_true q122
                                        have p123 : 0 ≤ (x9_4 : Int) := of_decide_eq_true (by first | (with_reducible assumption) | assumption)
                                        have q123 : x9_4 < (t117.length : Int) := of_decide_eq_true (by first | (with_reducible assumption) | assumption)
                                        obtain ⟨ad123, e123, hx123_0, hx123_1, hx123_2, hx123_3, hx123_4, hx123_5, hx123_6, hx123_7, hx123_8, hx123_9⟩ := at_T34 (Kd.R_reads' HO_7.out).2.2 x9_4 p123 q123
                                        cases e123
                                        replace p123 := eq_true p123
                                        replace q123 := eq_true q123
                                        have p124 : 0 ≤ (x10_3 : Int) := of_decide_eq_true (by first | (with_reducible assumption) | assumption)
                                        have q124 : x10_3 < (l0.length : Int) := of_decide_eq_true (by first | (with_reducible assumption) | assumption)
                                        obtain ⟨ad124, A124_1, c124_1, e124, hx124_0, hx124_1, hl124_1, hi124_1⟩ := at_T37 HR0.out x10_3 p124 q124
                                        obtain rfl : ad122 = ad124 := (by injection e124)
                                        replace hx124_0 := (HB.out.cell (World.block_lt_of_cell? w _ hx124_0)).trans hx124_0
                                        replace hx124_1 := (HB.out.cell (World.block_lt_of_cell? w _ hx124_1)).trans hx124_1
                                        have HR124_1 := Aside0.mk hi124_1
                                        have HC124_1 := Aside0.mk hl124_1
                                        clear hi124_1 hl124_1
                                        replace p124 := eq_true p124
                                        replace q124 := eq_true q124
                                        have ea_ := Option.some.inj (hx122_1.symm.trans hx124_1)
                                        injection ea_ with ea_ en_ ec_
                                        subst ea_
                                        subst ec_
                                        clear en_
                                        have p125 : 0 ≤ (x10_3 : Int) := of_decide_eq_true (by first | (with_reducible assumption) | assumption)
                                        have q125 : x10_3 < (l0.length : Int) := of_decide_eq_true (by first | (with_reducible assumption) | assumption)
                                        obtain ⟨ad125, A125_1, c125_1, e125, hx125_0, hx125_1, hl125_1, hi125_1⟩ := at_T37 HR0.out x10_3 p125 q125
                                        obtain rfl : ad122 = ad125 := (by injection e125)
                                        replace hx125_0 := (HB.out.cell (World.block_lt_of_cell? w _ hx125_0)).trans hx125_0
                                        replace hx125_1 := (HB.out.cell (World.block_lt_of_cell? w _ hx125_1)).trans hx125_1
                                        have HR125_1 := Aside0.mk hi125_1
                                        have HC125_1 := Aside0.mk hl125_1
                                        clear hi125_1 hl125_1
                                        replace p125 := eq_true p125
                                        replace q125 := eq_true q125
                                        have ea_ := Option.some.inj (hx122_1.symm.trans hx125_1)
                                        injection ea_ with ea_ en_ ec_
                                        subst ea_
                                        subst ec_
                                        clear en_
                                        have p126 : 0 ≤ (x11_4 : Int) := of_decide_eq_true (by first | (with_reducible assumption) | assumption)
                                        have q126 : x11_4 < (((rd_T37 l0 x10_3).f1).length : Int) := of_decide_eq_true (by first | (with_reducible assumption) | assumption)
                                        obtain ⟨ad126, e126, hx126_0, hx126_1, hx126_2, hx126_3, hx126_4, hx126_5⟩ := at_T32 HR125_1.out x11_4 p126 q126
                                        cases e126
                                        replace hx126_0 := (HB.out.cell (World.block_lt_of_cell? w _ hx126_0)).trans hx126_0
                                        replace hx126_1 := (HB.out.cell (World.block_lt_of_cell? w _ hx126_1)).trans hx126_1
                                        replace hx126_2 := (HB.out.cell (World.block_lt_of_cell? w _ hx126_2)).trans hx126_2
                                        replace hx126_3 := (HB.out.cell (World.block_lt_of_cell? w _ hx126_3)).trans hx126_3
                                        replace hx126_4 := (HB.out.cell (World.block_lt_of_cell? w _ hx126_4)).trans hx126_4
                                        replace hx126_5 := (HB.out.cell (World.block_lt_of_cell? w _ hx126_5)).trans hx126_5
                                        replace p126 := eq_true p126
                                        replace q126 := eq_true q126
                                        go_wp2
                                        repeat (go_quiet (fail); try go_wp2)
                                        go_roundg k4
                                        case measure => have := HJ4.out; have := HJ9.out; have := HK3.out; have := HK4.out; omega
                                        case rel => exact ⟨(wrap64 (x9_4 + 1)), (wrap64 (x11_4 + 1)), (by first | rfl | (simp; done) | (simp [*]; done)), (by first | rfl | (simp; done) | (simp [*]; done)), H', ⟨by have := HJ4.out; have := HJ9.out; have := HK3.out; have := HK4.out; omega⟩, ⟨by (with_reducible repeat (first | apply Kd.R_alloc | apply Kd.R_drewN | apply Kd.R_drew)); exact HO_7.out⟩, ⟨by repeat (first | (with_reducible first | exact HB.out | apply below_alloc | apply pw_below_drewN | apply below_drew1) | exact HB.out)⟩⟩
                                    · rw [if_neg c29] at H
                                      exact absurd H (by simp)
                                  · rw [if_neg c28] at H
                                    exact absurd H (by simp)
                                · rw [if_neg c27] at H
                                  exact absurd H (by simp)
                            · rw [if_neg c25] at H
                              have c25b0 : decide (x11_4 < (((rd_T37 l0 x10_3).f1).length : Int)) = false := decide_eq_false c25
                              clear c25
                              have H' := Aside0.mk H
                              clear H
                              have p122 : 0 ≤ (x10_3 : Int) := of_decide_eq_true (by first | (with_reducible assumption) | assumption)
                              have q122 : x10_3 < (l0.length : Int) := of_decide_eq_true (by first | (with_reducible assumption) | assumption)
                              obtain ⟨ad122, A122_1, c122_1, e122, hx122_0, hx122_1, hl122_1, hi122_1⟩ := at_T37 HR0.out x10_3 p122 q122
                              cases e122
                              replace hx122_0 := (HB.out.cell (World.block_lt_of_cell? w _ hx122_0)).trans hx122_0
                              replace hx122_1 := (HB.out.cell (World.block_lt_of_cell? w _ hx122_1)).trans hx122_1
                              have HR122_1 := Aside0.mk hi122_1
                              have HC122_1 := Aside0.mk hl122_1
                              clear hi122_1 hl122_1
                              replace p122 := eq_true p122
                              replace q122 := eq_true q122
                              go_wp2
                              repeat (go_quiet (fail); try go_wp2)
                              go_roundg k4
                              case measure => have := HJ4.out; have := HJ9.out; have := HK3.out; have := HK4.out; omega
                              case rel => exact ⟨(x9_4), (wrap64 (x10_3 + 1)), (by first | rfl | (simp; done) | (simp [*]; done)), (by first | rfl | (simp; done) | (simp [*]; done)), H', ⟨by have := HJ4.out; have := HJ9.out; have := HK3.out; have := HK4.out; omega⟩, ⟨by (with_reducible repeat (first | apply Kd.R_alloc | apply Kd.R_drewN | apply Kd.R_drew)); exact HO_7.out⟩, ⟨by repeat (first | (with_reducible first | exact HB.out | apply below_alloc | apply pw_below_drewN | apply below_drew1) | exact HB.out)⟩⟩
                          · rw [if_neg c24] at H
                            exact absurd H (by simp)
                        · rw [if_neg c23] at H
                          exact absurd H (by simp)
                  · rw [if_neg c22] at H
                    have c22b0 : decide (x10_3 < (l0.length : Int)) = false := decide_eq_false c22
                    clear c22
                    obtain rfl := Option.some.inj H
                    go_wp2
                    repeat (go_quiet (fail); try go_wp2)
                    go_ret
                    exact ⟨by first | rfl | (simp [errW_none, errW_some] <;> rfl) | (simp [*, errW_none, errW_some] <;> rfl), by repeat (first | (with_reducible first | exact HB.out | apply below_alloc | apply pw_below_drewN | apply below_drew1) | exact HB.out)⟩

def wayfinderlaw20_PlanEnds.Pure : Prop := ∀ (l0 : List (S37)) (a1 : Int), l0.length ≤ maxLen → (∀ x ∈ l0, wfT37 x) → (Lit.int .i64 a1).wf = true → ∃ k, wayfinderlaw20_PlanEnds.f k l0 a1 = some true
theorem wayfinderlaw20_PlanEnds.walk (P : wayfinderlaw20_PlanEnds.Pure) (A0 : Option Addr) (c0 : Nat) (l0 : List (S37)) (a1 : Int) (w : World) (hr0 : Kd.C k37 w A0 l0.length l0) (hc0 : l0.length ≤ c0) (w0 : l0.length ≤ maxLen) (w1 : (∀ x ∈ l0, wfT37 x)) (w2 : (Lit.int .i64 a1).wf = true) :
    Calls Try.prog 3 #[.slice A0 l0.length c0, .int .i64 a1] w fun e w' => e = .returned (.bool true) ∧ Below w.heap.size w w' := by
  obtain ⟨k, h⟩ := P l0 a1 w0 w1 w2
  refine (wayfinderlaw20_PlanEnds.calls k A0 c0 l0 a1 true w hr0 hc0 h).mono ?_
  rintro e w' ⟨rfl, hd⟩
  exact ⟨rfl, hd⟩

/-! ### sess_New: function 16 -/
def sess_New.f (a0 : Int) : Option (Int × Int × (List (S34))) := some (a0, 1, ([] : List (S34)))
set_option maxHeartbeats 8000000 in
set_option maxRecDepth 100000 in
theorem sess_New.calls (a0 : Int) (r1 : Int) (r2 : Int) (r3 : List (S34)) (w : World) (h : sess_New.f a0 = some (r1, r2, r3)) :
    Calls Try.prog 16 #[.int .i64 a0] w fun e w' => ∃ v2_ : Value, e = .returned (.agg #[.int .i64 r1, .int .i64 r2, v2_]) ∧ Kd.R k34 34 w' w.heap.size (fun _ => True) v2_ r3 ∧ Below w.heap.size w w' := by
  have hu41 := Try.underlying41
  have HB := Aside0.mk (Below.refl w.heap.size w)
  have H : (some (a0, 1, ([] : List (S34)))) = some (r1, r2, r3) := h
  clear h
  simp only [Option.some.injEq, Prod.mk.injEq] at H
  obtain ⟨rfl, rfl, rfl⟩ := H
  go_enter Try.func16, Try.ntmps16
  go_wp2_with (first | ((with_reducible refine gate_dst (N := 2) rfl ?_); refine box_event ?hg (N := 2) ?hd (cs := #[.int .i64 0, .int .i64 0, .slice none 0 0]) (t := 41) ?hr ?_; (case hd => rfl); (case hg => rfl); (case hr => first | (go_simp; done) | (go_simp; rfl)); intro gb127 hg w2 hbox hb; have n0_ := Aside0.mk (below_step (by repeat (first | (with_reducible first | exact HB.out | apply below_alloc | apply pw_below_drewN | apply below_drew1) | exact HB.out)) hb); have n1_ := Aside0.mk (hbox); have n2_ := Aside0.mk ((by rw [hg]; exact (below_size (by repeat (first | (with_reducible first | exact HB.out | apply below_alloc | apply pw_below_drewN | apply below_drew1) | exact HB.out))) : w.heap.size ≤ gb127)); have n3_ := Aside0.mk ((by rw [hg]; exact (below_size (by repeat (first | (with_reducible first | exact HB.out | apply below_alloc | apply pw_below_drewN | apply below_drew1) | exact HB.out))) : w.heap.size ≤ gb127)); clear HB; have HB := n0_; have BK127 := n1_; have GW127 := n2_; have GE127 := n3_; clear n0_ n1_ n2_ n3_; clear hb hbox hg; have hcz3_0 : w2.cell? ⟨gb127, 0, none⟩ = some (.int .i64 0) := (blk_cell BK127.out 0).trans rfl; have hcz3_1 : w2.cell? ⟨gb127, 1, none⟩ = some (.int .i64 0) := (blk_cell BK127.out 1).trans rfl; have hcz3_2 : w2.cell? ⟨gb127, 2, none⟩ = some (.slice none 0 0) := (blk_cell BK127.out 2).trans rfl; have hfz3_0 := blk_frozen BK127.out 0; have hfz3_1 := blk_frozen BK127.out 1; have hfz3_2 := blk_frozen BK127.out 2))
  refine bodyPost_ret (results_cell_row rfl _ _ gb127 41 #[.int .i64 a0, .int .i64 1, .slice none 0 0] (0, 0) _ rfl (by (with_reducible repeat (first | refine blk_drewN ?_ _ | refine blk_drew ?_ | refine blk_alloc ?_ _)); refine blk_put (cs := #[.int .i64 a0, .int .i64 1, .slice none 0 0]) ?_ 2 _ rfl; (with_reducible repeat (first | refine blk_drewN ?_ _ | refine blk_drew ?_ | refine blk_alloc ?_ _)); refine blk_put (cs := #[.int .i64 a0, .int .i64 0, .slice none 0 0]) ?_ 1 _ rfl; (with_reducible repeat (first | refine blk_drewN ?_ _ | refine blk_drew ?_ | refine blk_alloc ?_ _)); refine blk_put (cs := #[.int .i64 0, .int .i64 0, .slice none 0 0]) ?_ 0 _ rfl; (with_reducible repeat (first | refine blk_drewN ?_ _ | refine blk_drew ?_ | refine blk_alloc ?_ _)); exact BK127.out) Try.underlying41 rfl (by kernel_rfl)) rfl ?_
  exact ⟨_, by first | rfl | (simp [errW_none, errW_some] <;> rfl) | (simp [*, errW_none, errW_some] <;> rfl), by first | exact Kd.R_nil _ _ _ _ _ | exact Kd.N_nil _ _ _ _ _ | exact Kd.V_nil _ _ _ _ _ | exact Kd.Q_nil _ _ _ _ _ | exact Kd.S_nil _ _ _ _ _, by repeat (first | (with_reducible first | exact HB.out | apply below_alloc | apply pw_below_drewN | apply below_drew1 | refine below_set ?_ GE127.out) | exact HB.out)⟩

end Go.Proofs.Ytibkmiffibacbaa.Print
