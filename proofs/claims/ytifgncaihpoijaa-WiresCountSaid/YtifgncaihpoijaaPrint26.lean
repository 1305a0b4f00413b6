/- A text that a program of this session printed out of the translation: checked by Lean alone. -/
import Derived.Test.YtifgncaihpoijaaPrint0
import Derived.Test.YtifgncaihpoijaaPrint21
import Derived.Test.YtifgncaihpoijaaPrint22
import Derived.Test.YtifgncaihpoijaaPrintO
namespace Go.Proofs.Ytifgncaihpoijaa.Print
open Go.RowKit Go.Proofs.YtifgncaihpoijaaW.PrintWords Go.Proofs.YtifgncaihpoijaaW.PrintLast Go.Proofs.YtifgncaihpoijaaW.PrintMore
attribute [local go_sem] max2_int min2_int max_two min_two max_three min_three max_four min_four   -- for this text's walks alone
set_option linter.unusedVariables false
set_option linter.unusedSimpArgs false

/-! ### wayfinderlaw14_WiresCount: function 11 -/
mutual
def wayfinderlaw14_WiresCount.j0 : Nat → List (S54) → Int → Int → Bool → Bool → Option (Bool)
  | 0, _, _, _, _, _ => none
  | k + 1, x0, x1, x2, x7, x27 => if x27 = true then (some x7) else ((wires_Fate.f x0 x1 x2).bind fun bt282 => (if x1 ≥ 0 then (wayfinderlaw14_WiresCount.j1 k x0 x1 x2 bt282.1 bt282.2.2.2.2 (decide (x1 < (x0.length : Int))) bt282.2.1 bt282.2.2.1 bt282.2.2.2.1) else (wayfinderlaw14_WiresCount.j1 k x0 x1 x2 bt282.1 bt282.2.2.2.2 false bt282.2.1 bt282.2.2.1 bt282.2.2.2.1)))
def wayfinderlaw14_WiresCount.j1 : Nat → List (S54) → Int → Int → List (S54) → Bool → Bool → Int → Bool → List Int → Option (Bool)
  | 0, _, _, _, _, _, _, _, _, _ => none
  | k + 1, x0, x1, x2, x9, x11, x12, x292000, x292001, x292002 => if x12 = true then (if x2 = 0 then (wayfinderlaw14_WiresCount.j2 k x0 x1 x2 x9 x11 x12 true x292000 x292001 x292002) else (wayfinderlaw14_WiresCount.j2 k x0 x1 x2 x9 x11 x12 (x2 == 1) x292000 x292001 x292002)) else (wayfinderlaw14_WiresCount.j2 k x0 x1 x2 x9 x11 x12 false x292000 x292001 x292002)
def wayfinderlaw14_WiresCount.j2 : Nat → List (S54) → Int → Int → List (S54) → Bool → Bool → Bool → Int → Bool → List Int → Option (Bool)
  | 0, _, _, _, _, _, _, _, _, _, _ => none
  | k + 1, x0, x1, x2, x9, x11, x12, x13, x292000, x292001, x292002 => if x13 = true then (wayfinderlaw14_WiresCount.j3 k x0 x1 x2 x9 x11 x12 x13 (wrap64 ((x0.length : Int) - 1)) x292000 x292001 x292002) else (wayfinderlaw14_WiresCount.j3 k x0 x1 x2 x9 x11 x12 x13 (x0.length : Int) x292000 x292001 x292002)
def wayfinderlaw14_WiresCount.j3 : Nat → List (S54) → Int → Int → List (S54) → Bool → Bool → Bool → Int → Int → Bool → List Int → Option (Bool)
  | 0, _, _, _, _, _, _, _, _, _, _, _ => none
  | k + 1, x0, x1, x2, x9, x11, x12, x13, x14, x292000, x292001, x292002 => if (x9.length : Int) = x14 then (if x12 = true then (if x2 = 0 then (wayfinderlaw14_WiresCount.j4 k x0 x1 x9 x11 x13 (x11 != true) x292000 x292001 x292002) else (wayfinderlaw14_WiresCount.j4 k x0 x1 x9 x11 x13 (x11 != (x2 == 2)) x292000 x292001 x292002)) else (wayfinderlaw14_WiresCount.j4 k x0 x1 x9 x11 x13 (x11 != false) x292000 x292001 x292002)) else (wayfinderlaw14_WiresCount.j4 k x0 x1 x9 x11 x13 true x292000 x292001 x292002)
def wayfinderlaw14_WiresCount.j4 : Nat → List (S54) → Int → List (S54) → Bool → Bool → Bool → Int → Bool → List Int → Option (Bool)
  | 0, _, _, _, _, _, _, _, _, _ => none
  | k + 1, x0, x1, x9, x11, x13, x75, x292000, x292001, x292002 => if x75 = true then (some false) else (wayfinderlaw14_WiresCount.l0 k x0 x1 x9 x11 x13 0 x292000 x292001 x292002)
def wayfinderlaw14_WiresCount.l0 : Nat → List (S54) → Int → List (S54) → Bool → Bool → Int → Int → Bool → List Int → Option (Bool)
  | 0, _, _, _, _, _, _, _, _, _ => none
  | k + 1, x0, x1, x9, x11, x13, x15, x292000, x292001, x292002 => if x15 < (x9.length : Int) then (if x13 = true then (wayfinderlaw14_WiresCount.j6 k x0 x1 x9 x11 x13 x15 x15 (decide (x15 ≥ x1)) x292000 x292001 x292002) else (wayfinderlaw14_WiresCount.j6 k x0 x1 x9 x11 x13 x15 x15 false x292000 x292001 x292002)) else (if x11 = true then (if 0 ≤ x1 then (if x1 < (x0.length : Int) then ((wayfinderref14_One.f x292000 x292001 x292002 ((rd_T54 x0 x1).f0) ((rd_T54 x0 x1).f1) ((rd_T54 x0 x1).f2)).bind fun t293 => (some t293)) else (none)) else (none)) else (some ((x292002.length : Int) == 0)))
def wayfinderlaw14_WiresCount.j6 : Nat → List (S54) → Int → List (S54) → Bool → Bool → Int → Int → Bool → Int → Bool → List Int → Option (Bool)
  | 0, _, _, _, _, _, _, _, _, _, _, _ => none
  | k + 1, x0, x1, x9, x11, x13, x15, x16, x88, x292000, x292001, x292002 => if x88 = true then (if 0 ≤ x15 then (if x15 < (x9.length : Int) then (if 0 ≤ (wrap64 (x15 + 1)) then (if (wrap64 (x15 + 1)) < (x0.length : Int) then ((wayfinderref14_One.f ((rd_T54 x9 x15).f0) ((rd_T54 x9 x15).f1) ((rd_T54 x9 x15).f2) ((rd_T54 x0 (wrap64 (x15 + 1))).f0) ((rd_T54 x0 (wrap64 (x15 + 1))).f1) ((rd_T54 x0 (wrap64 (x15 + 1))).f2)).bind fun t296 => (if t296 = true then (wayfinderlaw14_WiresCount.l0 k x0 x1 x9 x11 x13 (wrap64 (x15 + 1)) x292000 x292001 x292002) else (some false))) else (none)) else (none)) else (none)) else (none)) else (if 0 ≤ x15 then (if x15 < (x9.length : Int) then (if 0 ≤ x16 then (if x16 < (x0.length : Int) then ((wayfinderref14_One.f ((rd_T54 x9 x15).f0) ((rd_T54 x9 x15).f1) ((rd_T54 x9 x15).f2) ((rd_T54 x0 x16).f0) ((rd_T54 x0 x16).f1) ((rd_T54 x0 x16).f2)).bind fun t299 => (if t299 = true then (wayfinderlaw14_WiresCount.l0 k x0 x1 x9 x11 x13 (wrap64 (x15 + 1)) x292000 x292001 x292002) else (some false))) else (none)) else (none)) else (none)) else (none))
end
def wayfinderlaw14_WiresCount.f (k : Nat) (l0 : List (S54)) (a1 : Int) (a2 : Int) : Option (Bool) := (wayfinderlaw14_awake.f).bind fun t280 => ((wayfinderlaw14_Few.f k l0).bind fun t281 => (if t280 = true then (wayfinderlaw14_WiresCount.j0 k l0 a1 a2 t280 (!t281)) else (wayfinderlaw14_WiresCount.j0 k l0 a1 a2 t280 true)))
theorem wayfinderlaw14_WiresCount.mono_l : ∀ k, (∀ y0 y1 y2 y3 y4, LeO (wayfinderlaw14_WiresCount.j0 k y0 y1 y2 y3 y4) (wayfinderlaw14_WiresCount.j0 (k + 1) y0 y1 y2 y3 y4)) ∧ (∀ y0 y1 y2 y3 y4 y5 y6 y7 y8, LeO (wayfinderlaw14_WiresCount.j1 k y0 y1 y2 y3 y4 y5 y6 y7 y8) (wayfinderlaw14_WiresCount.j1 (k + 1) y0 y1 y2 y3 y4 y5 y6 y7 y8)) ∧ (∀ y0 y1 y2 y3 y4 y5 y6 y7 y8 y9, LeO (wayfinderlaw14_WiresCount.j2 k y0 y1 y2 y3 y4 y5 y6 y7 y8 y9) (wayfinderlaw14_WiresCount.j2 (k + 1) y0 y1 y2 y3 y4 y5 y6 y7 y8 y9)) ∧ (∀ y0 y1 y2 y3 y4 y5 y6 y7 y8 y9 y10, LeO (wayfinderlaw14_WiresCount.j3 k y0 y1 y2 y3 y4 y5 y6 y7 y8 y9 y10) (wayfinderlaw14_WiresCount.j3 (k + 1) y0 y1 y2 y3 y4 y5 y6 y7 y8 y9 y10)) ∧ (∀ y0 y1 y2 y3 y4 y5 y6 y7 y8, LeO (wayfinderlaw14_WiresCount.j4 k y0 y1 y2 y3 y4 y5 y6 y7 y8) (wayfinderlaw14_WiresCount.j4 (k + 1) y0 y1 y2 y3 y4 y5 y6 y7 y8)) ∧ (∀ y0 y1 y2 y3 y4 y5 y6 y7 y8, LeO (wayfinderlaw14_WiresCount.l0 k y0 y1 y2 y3 y4 y5 y6 y7 y8) (wayfinderlaw14_WiresCount.l0 (k + 1) y0 y1 y2 y3 y4 y5 y6 y7 y8)) ∧ (∀ y0 y1 y2 y3 y4 y5 y6 y7 y8 y9 y10, LeO (wayfinderlaw14_WiresCount.j6 k y0 y1 y2 y3 y4 y5 y6 y7 y8 y9 y10) (wayfinderlaw14_WiresCount.j6 (k + 1) y0 y1 y2 y3 y4 y5 y6 y7 y8 y9 y10))
  | 0 => ⟨fun _ _ _ _ _ r h => by simp [wayfinderlaw14_WiresCount.j0] at h, fun _ _ _ _ _ _ _ _ _ r h => by simp [wayfinderlaw14_WiresCount.j1] at h, fun _ _ _ _ _ _ _ _ _ _ r h => by simp [wayfinderlaw14_WiresCount.j2] at h, fun _ _ _ _ _ _ _ _ _ _ _ r h => by simp [wayfinderlaw14_WiresCount.j3] at h, fun _ _ _ _ _ _ _ _ _ r h => by simp [wayfinderlaw14_WiresCount.j4] at h, fun _ _ _ _ _ _ _ _ _ r h => by simp [wayfinderlaw14_WiresCount.l0] at h, fun _ _ _ _ _ _ _ _ _ _ _ r h => by simp [wayfinderlaw14_WiresCount.j6] at h⟩
  | k + 1 => by
    obtain ⟨ih0, ih1, ih2, ih3, ih4, ih5, ih6⟩ := wayfinderlaw14_WiresCount.mono_l k
    refine ⟨?_, ?_, ?_, ?_, ?_, ?_, ?_⟩
    · intro y0 y1 y2 y3 y4
      unfold wayfinderlaw14_WiresCount.j0
      repeat' first
      | (with_reducible exact ih0 _ _ _ _ _)
      | (with_reducible exact ih1 _ _ _ _ _ _ _ _ _)
      | (with_reducible exact ih2 _ _ _ _ _ _ _ _ _ _)
      | (with_reducible exact ih3 _ _ _ _ _ _ _ _ _ _ _)
      | (with_reducible exact ih4 _ _ _ _ _ _ _ _ _)
      | (with_reducible exact ih5 _ _ _ _ _ _ _ _ _)
      | (with_reducible exact ih6 _ _ _ _ _ _ _ _ _ _ _)
      | (with_reducible exact wayfinderlaw14_Few.mono _ _)
      | (with_reducible exact LeO.refl _)
      | (with_reducible exact LeO.none _)
      | (with_reducible refine LeO.ite ?_ ?_)
      | (with_reducible refine LeO.bind ?_ (fun _ => ?_))
      | exact ih0 _ _ _ _ _
      | exact ih1 _ _ _ _ _ _ _ _ _
      | exact ih2 _ _ _ _ _ _ _ _ _ _
      | exact ih3 _ _ _ _ _ _ _ _ _ _ _
      | exact ih4 _ _ _ _ _ _ _ _ _
      | exact ih5 _ _ _ _ _ _ _ _ _
      | exact ih6 _ _ _ _ _ _ _ _ _ _ _
      | exact wayfinderlaw14_Few.mono _ _
      | exact LeO.none _
      | refine LeO.ite ?_ ?_
      | refine LeO.bind ?_ (fun _ => ?_)
    · intro y0 y1 y2 y3 y4 y5 y6 y7 y8
      unfold wayfinderlaw14_WiresCount.j1
      repeat' first
      | (with_reducible exact ih0 _ _ _ _ _)
      | (with_reducible exact ih1 _ _ _ _ _ _ _ _ _)
      | (with_reducible exact ih2 _ _ _ _ _ _ _ _ _ _)
      | (with_reducible exact ih3 _ _ _ _ _ _ _ _ _ _ _)
      | (with_reducible exact ih4 _ _ _ _ _ _ _ _ _)
      | (with_reducible exact ih5 _ _ _ _ _ _ _ _ _)
      | (with_reducible exact ih6 _ _ _ _ _ _ _ _ _ _ _)
      | (with_reducible exact wayfinderlaw14_Few.mono _ _)
      | (with_reducible exact LeO.refl _)
      | (with_reducible exact LeO.none _)
      | (with_reducible refine LeO.ite ?_ ?_)
      | (with_reducible refine LeO.bind ?_ (fun _ => ?_))
      | exact ih0 _ _ _ _ _
      | exact ih1 _ _ _ _ _ _ _ _ _
      | exact ih2 _ _ _ _ _ _ _ _ _ _
      | exact ih3 _ _ _ _ _ _ _ _ _ _ _
      | exact ih4 _ _ _ _ _ _ _ _ _
      | exact ih5 _ _ _ _ _ _ _ _ _
      | exact ih6 _ _ _ _ _ _ _ _ _ _ _
      | exact wayfinderlaw14_Few.mono _ _
      | exact LeO.none _
      | refine LeO.ite ?_ ?_
      | refine LeO.bind ?_ (fun _ => ?_)
    · intro y0 y1 y2 y3 y4 y5 y6 y7 y8 y9
      unfold wayfinderlaw14_WiresCount.j2
      repeat' first
      | (with_reducible exact ih0 _ _ _ _ _)
      | (with_reducible exact ih1 _ _ _ _ _ _ _ _ _)
      | (with_reducible exact ih2 _ _ _ _ _ _ _ _ _ _)
      | (with_reducible exact ih3 _ _ _ _ _ _ _ _ _ _ _)
      | (with_reducible exact ih4 _ _ _ _ _ _ _ _ _)
      | (with_reducible exact ih5 _ _ _ _ _ _ _ _ _)
      | (with_reducible exact ih6 _ _ _ _ _ _ _ _ _ _ _)
      | (with_reducible exact wayfinderlaw14_Few.mono _ _)
      | (with_reducible exact LeO.refl _)
      | (with_reducible exact LeO.none _)
      | (with_reducible refine LeO.ite ?_ ?_)
      | (with_reducible refine LeO.bind ?_ (fun _ => ?_))
      | exact ih0 _ _ _ _ _
      | exact ih1 _ _ _ _ _ _ _ _ _
      | exact ih2 _ _ _ _ _ _ _ _ _ _
      | exact ih3 _ _ _ _ _ _ _ _ _ _ _
      | exact ih4 _ _ _ _ _ _ _ _ _
      | exact ih5 _ _ _ _ _ _ _ _ _
      | exact ih6 _ _ _ _ _ _ _ _ _ _ _
      | exact wayfinderlaw14_Few.mono _ _
      | exact LeO.none _
      | refine LeO.ite ?_ ?_
      | refine LeO.bind ?_ (fun _ => ?_)
    · intro y0 y1 y2 y3 y4 y5 y6 y7 y8 y9 y10
      unfold wayfinderlaw14_WiresCount.j3
      repeat' first
      | (with_reducible exact ih0 _ _ _ _ _)
      | (with_reducible exact ih1 _ _ _ _ _ _ _ _ _)
      | (with_reducible exact ih2 _ _ _ _ _ _ _ _ _ _)
      | (with_reducible exact ih3 _ _ _ _ _ _ _ _ _ _ _)
      | (with_reducible exact ih4 _ _ _ _ _ _ _ _ _)
      | (with_reducible exact ih5 _ _ _ _ _ _ _ _ _)
      | (with_reducible exact ih6 _ _ _ _ _ _ _ _ _ _ _)
      | (with_reducible exact wayfinderlaw14_Few.mono _ _)
      | (with_reducible exact LeO.refl _)
      | (with_reducible exact LeO.none _)
      | (with_reducible refine LeO.ite ?_ ?_)
      | (with_reducible refine LeO.bind ?_ (fun _ => ?_))
      | exact ih0 _ _ _ _ _
      | exact ih1 _ _ _ _ _ _ _ _ _
      | exact ih2 _ _ _ _ _ _ _ _ _ _
      | exact ih3 _ _ _ _ _ _ _ _ _ _ _
      | exact ih4 _ _ _ _ _ _ _ _ _
      | exact ih5 _ _ _ _ _ _ _ _ _
      | exact ih6 _ _ _ _ _ _ _ _ _ _ _
      | exact wayfinderlaw14_Few.mono _ _
      | exact LeO.none _
      | refine LeO.ite ?_ ?_
      | refine LeO.bind ?_ (fun _ => ?_)
    · intro y0 y1 y2 y3 y4 y5 y6 y7 y8
      unfold wayfinderlaw14_WiresCount.j4
      repeat' first
      | (with_reducible exact ih0 _ _ _ _ _)
      | (with_reducible exact ih1 _ _ _ _ _ _ _ _ _)
      | (with_reducible exact ih2 _ _ _ _ _ _ _ _ _ _)
      | (with_reducible exact ih3 _ _ _ _ _ _ _ _ _ _ _)
      | (with_reducible exact ih4 _ _ _ _ _ _ _ _ _)
      | (with_reducible exact ih5 _ _ _ _ _ _ _ _ _)
      | (with_reducible exact ih6 _ _ _ _ _ _ _ _ _ _ _)
      | (with_reducible exact wayfinderlaw14_Few.mono _ _)
      | (with_reducible exact LeO.refl _)
      | (with_reducible exact LeO.none _)
      | (with_reducible refine LeO.ite ?_ ?_)
      | (with_reducible refine LeO.bind ?_ (fun _ => ?_))
      | exact ih0 _ _ _ _ _
      | exact ih1 _ _ _ _ _ _ _ _ _
      | exact ih2 _ _ _ _ _ _ _ _ _ _
      | exact ih3 _ _ _ _ _ _ _ _ _ _ _
      | exact ih4 _ _ _ _ _ _ _ _ _
      | exact ih5 _ _ _ _ _ _ _ _ _
      | exact ih6 _ _ _ _ _ _ _ _ _ _ _
      | exact wayfinderlaw14_Few.mono _ _
      | exact LeO.none _
      | refine LeO.ite ?_ ?_
      | refine LeO.bind ?_ (fun _ => ?_)
    · intro y0 y1 y2 y3 y4 y5 y6 y7 y8
      unfold wayfinderlaw14_WiresCount.l0
      repeat' first
      | (with_reducible exact ih0 _ _ _ _ _)
      | (with_reducible exact ih1 _ _ _ _ _ _ _ _ _)
      | (with_reducible exact ih2 _ _ _ _ _ _ _ _ _ _)
      | (with_reducible exact ih3 _ _ _ _ _ _ _ _ _ _ _)
      | (with_reducible exact ih4 _ _ _ _ _ _ _ _ _)
      | (with_reducible exact ih5 _ _ _ _ _ _ _ _ _)
      | (with_reducible exact ih6 _ _ _ _ _ _ _ _ _ _ _)
      | (with_reducible exact wayfinderlaw14_Few.mono _ _)
      | (with_reducible exact LeO.refl _)
      | (with_reducible exact LeO.none _)
      | (with_reducible refine LeO.ite ?_ ?_)
      | (with_reducible refine LeO.bind ?_ (fun _ => ?_))
      | exact ih0 _ _ _ _ _
      | exact ih1 _ _ _ _ _ _ _ _ _
      | exact ih2 _ _ _ _ _ _ _ _ _ _
      | exact ih3 _ _ _ _ _ _ _ _ _ _ _
      | exact ih4 _ _ _ _ _ _ _ _ _
      | exact ih5 _ _ _ _ _ _ _ _ _
      | exact ih6 _ _ _ _ _ _ _ _ _ _ _
      | exact wayfinderlaw14_Few.mono _ _
      | exact LeO.none _
      | refine LeO.ite ?_ ?_
      | refine LeO.bind ?_ (fun _ => ?_)
    · intro y0 y1 y2 y3 y4 y5 y6 y7 y8 y9 y10
      unfold wayfinderlaw14_WiresCount.j6
      repeat' first
      | (with_reducible exact ih0 _ _ _ _ _)
      | (with_reducible exact ih1 _ _ _ _ _ _ _ _ _)
      | (with_reducible exact ih2 _ _ _ _ _ _ _ _ _ _)
      | (with_reducible exact ih3 _ _ _ _ _ _ _ _ _ _ _)
      | (with_reducible exact ih4 _ _ _ _ _ _ _ _ _)
      | (with_reducible exact ih5 _ _ _ _ _ _ _ _ _)
      | (with_reducible exact ih6 _ _ _ _ _ _ _ _ _ _ _)
      | (with_reducible exact wayfinderlaw14_Few.mono _ _)
      | (with_reducible exact LeO.refl _)
      | (with_reducible exact LeO.none _)
      | (with_reducible refine LeO.ite ?_ ?_)
      | (with_reducible refine LeO.bind ?_ (fun _ => ?_))
      | exact ih0 _ _ _ _ _
      | exact ih1 _ _ _ _ _ _ _ _ _
      | exact ih2 _ _ _ _ _ _ _ _ _ _
      | exact ih3 _ _ _ _ _ _ _ _ _ _ _
      | exact ih4 _ _ _ _ _ _ _ _ _
      | exact ih5 _ _ _ _ _ _ _ _ _
      | exact ih6 _ _ _ _ _ _ _ _ _ _ _
      | exact wayfinderlaw14_Few.mono _ _
      | exact LeO.none _
      | refine LeO.ite ?_ ?_
      | refine LeO.bind ?_ (fun _ => ?_)
theorem wayfinderlaw14_WiresCount.mono : ∀ a0 a1 a2 k, LeO (wayfinderlaw14_WiresCount.f k a0 a1 a2) (wayfinderlaw14_WiresCount.f (k + 1) a0 a1 a2) := by
  intro a0 a1 a2 k
  obtain ⟨ih0, ih1, ih2, ih3, ih4, ih5, ih6⟩ := wayfinderlaw14_WiresCount.mono_l k
  unfold wayfinderlaw14_WiresCount.f
  repeat' first
      | (with_reducible exact ih0 _ _ _ _ _)
      | (with_reducible exact ih1 _ _ _ _ _ _ _ _ _)
      | (with_reducible exact ih2 _ _ _ _ _ _ _ _ _ _)
      | (with_reducible exact ih3 _ _ _ _ _ _ _ _ _ _ _)
      | (with_reducible exact ih4 _ _ _ _ _ _ _ _ _)
      | (with_reducible exact ih5 _ _ _ _ _ _ _ _ _)
      | (with_reducible exact ih6 _ _ _ _ _ _ _ _ _ _ _)
      | (with_reducible exact wayfinderlaw14_Few.mono _ _)
      | (with_reducible exact LeO.refl _)
      | (with_reducible exact LeO.none _)
      | (with_reducible refine LeO.ite ?_ ?_)
      | (with_reducible refine LeO.bind ?_ (fun _ => ?_))
      | exact ih0 _ _ _ _ _
      | exact ih1 _ _ _ _ _ _ _ _ _
      | exact ih2 _ _ _ _ _ _ _ _ _ _
      | exact ih3 _ _ _ _ _ _ _ _ _ _ _
      | exact ih4 _ _ _ _ _ _ _ _ _
      | exact ih5 _ _ _ _ _ _ _ _ _
      | exact ih6 _ _ _ _ _ _ _ _ _ _ _
      | exact wayfinderlaw14_Few.mono _ _
      | exact LeO.none _
      | refine LeO.ite ?_ ?_
      | refine LeO.bind ?_ (fun _ => ?_)
def wayfinderlaw14_WiresCount.T19 : Bool × List (List Nat × List Nat) := (true, [([], []), ([], []), ([0, 1], [0, 1]), ([2], [2]), ([], []), ([], []), ([4, 5], [4, 5]), ([6], [6]), ([3, 7], [3, 7]), ([8, 8, 0, 1, 2, 3, 4, 5, 6, 7, 8], [8])])
def wayfinderlaw14_WiresCount.B19 : List Nat := [0, 0, 3, 7, 0, 0, 48, 112, 255, 511]
theorem wayfinderlaw14_WiresCount.tab19 : rtab .any (opsOf Try.f11 19) = wayfinderlaw14_WiresCount.T19 := by kernel_rfl
theorem wayfinderlaw14_WiresCount.bits19 : waitsOk wayfinderlaw14_WiresCount.T19.2 wayfinderlaw14_WiresCount.B19 = true := by kernel_rfl
set_option maxHeartbeats 8000000 in
set_option maxRecDepth 100000 in
theorem wayfinderlaw14_WiresCount.calls (k : Nat) (A0 : Option Addr) (c0 : Nat) (l0 : List (S54)) (a1 : Int) (a2 : Int) (r : Bool) (w : World) (hr0 : Kd.C k54 w A0 l0.length l0) (hc0 : l0.length ≤ c0) (h : wayfinderlaw14_WiresCount.f k l0 a1 a2 = some r) :
    Calls Try.prog 11 #[.slice A0 l0.length c0, .int .i64 a1, .int .i64 a2] w fun e w' => e = .returned (.bool r) ∧ Below w.heap.size w w' := by
  have hu54 := Try.underlying54
  have HR0 := Aside0.mk hr0
  have HC0 := Aside0.mk hc0
  clear hr0 hc0
  have HB := Aside0.mk (Below.refl w.heap.size w)
  have H : ((wayfinderlaw14_awake.f).bind fun t280 => ((wayfinderlaw14_Few.f k l0).bind fun t281 => (if t280 = true then (wayfinderlaw14_WiresCount.j0 k l0 a1 a2 t280 (!t281)) else (wayfinderlaw14_WiresCount.j0 k l0 a1 a2 t280 true)))) = some r := h
  clear h
  replace H := Option.bind_eq_some_iff.mp H
  obtain ⟨t280, A40, H⟩ := H
  replace H : ((wayfinderlaw14_Few.f k l0).bind fun t281 => (if t280 = true then (wayfinderlaw14_WiresCount.j0 k l0 a1 a2 t280 (!t281)) else (wayfinderlaw14_WiresCount.j0 k l0 a1 a2 t280 true))) = some r := H
  have A4 := Aside0.mk A40
  clear A40
  replace H := Option.bind_eq_some_iff.mp H
  obtain ⟨t281, A50, H⟩ := H
  replace H : (if t280 = true then (wayfinderlaw14_WiresCount.j0 k l0 a1 a2 t280 (!t281)) else (wayfinderlaw14_WiresCount.j0 k l0 a1 a2 t280 true)) = some r := H
  have A5 := Aside0.mk A50
  clear A50
  have HC6 := Aside0.mk H
  clear H
  go_enter Try.func11, Try.ntmps11
  go_upto_region 3 with (first | ((with_reducible refine gate_callee (f := 23) rfl ?_); refine goesL_ (some 19) rfl rfl Try.func23 (by kernel_rfl) rfl #[] rfl (by (try simp only [List.map_toArray, List.map_cons, List.map_nil]); first | done | rfl | (simp only [List.length_drop, List.length_take]; rfl)) ?_; (with_reducible refine (wayfinderlaw14_awake.calls  t280 _ A4.out).mono ?_); rintro e w7 ⟨rfl, hb⟩; refine ⟨_, rfl, ?_⟩; have n0_ := Aside0.mk (below_step (by repeat (first | (with_reducible first | exact HB.out | apply below_alloc | apply pw_below_drewN | apply below_drew1) | exact HB.out)) hb); clear HB; have HB := n0_; clear n0_; (try clear hb); (try clear hb2); (try clear hk); (try clear hi)) | ((with_reducible refine gate_callee (f := 24) rfl ?_); refine goesL_ (some 21) rfl rfl Try.func24 (by kernel_rfl) rfl #[.slice A0 l0.length c0] rfl (by (try simp only [List.map_toArray, List.map_cons, List.map_nil]); first | done | rfl | (simp only [List.length_drop, List.length_take]; rfl)) ?_; (with_reducible refine (wayfinderlaw14_Few.calls k _ _ l0 t281 _ ?side1 ?side2 A5.out).mono ?_); (case side1 => repeat (first | exact (Kd.C_below HR0.out HB.out) | (with_reducible refine Kd.C_alloc ?_ _) | (with_reducible refine Kd.C_drewN ?_ _) | (with_reducible refine Kd.C_drew ?_))); (case side2 => exact HC0.out); rintro e w' ⟨rfl, ⟨nd, rfl⟩⟩; refine ⟨_, rfl, ?_⟩))
  (try simp only [Act.put, List.setIfInBounds_toArray, List.set_cons_zero, List.set_cons_succ])
  go_cut [27] (fun v27 wc => ∃ (kq : Nat) (x27_5 : Bool), v27 = .bool x27_5 ∧ Aside0 (wayfinderlaw14_WiresCount.j0 kq l0 a1 a2 t280 x27_5 = some r) ∧ Aside0 (kq ≤ k) ∧ Aside0 (Below w.heap.size w wc))
  case first =>
    have H := HC6.out
    clear HC6
    by_cases c8 : t280 = true
    · subst c8
      have H1 : (wayfinderlaw14_WiresCount.j0 k l0 a1 a2 true (!t281)) = some r := by rw [if_pos rfl] at H; exact H
      clear H
      have H := H1
      clear H1
      have H' := Aside0.mk H
      clear H
      go_wp2
      go_meet
      case rel => exact ⟨_, (!t281), (by first | rfl | (simp; done) | (simp [*]; done)), H', ⟨by first | omega | exact Nat.le_refl _⟩, ⟨by repeat (first | (with_reducible first | exact HB.out | apply below_alloc | apply pw_below_drewN | apply below_drew1) | exact HB.out)⟩⟩
    · replace c8 := Bool.eq_false_iff.mpr c8
      subst c8
      have H1 : (wayfinderlaw14_WiresCount.j0 k l0 a1 a2 false true) = some r := by rw [if_neg (show ¬ (false = true) by decide)] at H; exact H
      clear H
      have H := H1
      clear H1
      have H' := Aside0.mk H
      clear H
      go_wp2
      go_meet
      case rel => exact ⟨_, (true), (by first | rfl | (simp; done) | (simp [*]; done)), H', ⟨by first | omega | exact Nat.le_refl _⟩, ⟨by repeat (first | (with_reducible first | exact HB.out | apply below_alloc | apply pw_below_drewN | apply below_drew1) | exact HB.out)⟩⟩
  case rest =>
    clear HC6
    try clear c1
    try clear c2
    try clear p2
    try clear c8
    obtain ⟨kq, x27_5, rfl, HA, HJ5, HB⟩ := hcut
    cases kq with
    | zero => exact absurd HA.out (by simp [wayfinderlaw14_WiresCount.j0])
    | succ kj5 =>
      have H := HA.out
      clear HA
      simp only [wayfinderlaw14_WiresCount.j0] at H
      by_cases c9 : x27_5 = true
      · subst c9
        have H1 : (some t280) = some r := by rw [if_pos rfl] at H; exact H
        clear H
        have H := H1
        clear H1
        obtain rfl := Option.some.inj H
        go_wp2
        go_ret
        exact ⟨by first | rfl | (simp [errW_none, errW_some] <;> rfl) | (simp [*, errW_none, errW_some] <;> rfl), by repeat (first | (with_reducible first | exact HB.out | apply below_alloc | apply pw_below_drewN | apply below_drew1) | exact HB.out)⟩
      · replace c9 := Bool.eq_false_iff.mpr c9
        subst c9
        have H1 : ((wires_Fate.f l0 a1 a2).bind fun bt282 => (if a1 ≥ 0 then (wayfinderlaw14_WiresCount.j1 kj5 l0 a1 a2 bt282.1 bt282.2.2.2.2 (decide (a1 < (l0.length : Int))) bt282.2.1 bt282.2.2.1 bt282.2.2.2.1) else (wayfinderlaw14_WiresCount.j1 kj5 l0 a1 a2 bt282.1 bt282.2.2.2.2 false bt282.2.1 bt282.2.2.1 bt282.2.2.2.1))) = some r := by rw [if_neg (show ¬ (false = true) by decide)] at H; exact H
        clear H
        have H := H1
        clear H1
        replace H := Option.bind_eq_some_iff.mp H
        obtain ⟨⟨t282, t285, t286, t287, t290⟩, A100, H⟩ := H
        replace H : (if a1 ≥ 0 then (wayfinderlaw14_WiresCount.j1 kj5 l0 a1 a2 t282 t290 (decide (a1 < (l0.length : Int))) t285 t286 t287) else (wayfinderlaw14_WiresCount.j1 kj5 l0 a1 a2 t282 t290 false t285 t286 t287)) = some r := H
        have A10 := Aside0.mk A100
        clear A100
        have HC11 := Aside0.mk H
        clear H
        go_upto_region 6 with (first | ((with_reducible refine gate_callee (f := 28) rfl ?_); refine goesL_ (some 33) rfl rfl Try.func28 (by kernel_rfl) rfl #[.slice A0 l0.length c0, .int .i64 a1, .int .i64 a2] rfl (by (try simp only [List.map_toArray, List.map_cons, List.map_nil]); first | done | rfl | (simp only [List.length_drop, List.length_take]; rfl)) ?_; (with_reducible refine (wires_Fate.calls _ _ l0 a1 a2 t282 t285 t286 t287 t290 _ ?side1 ?side2 A10.out).mono ?_); (case side1 => repeat (first | exact (Kd.C_below HR0.out HB.out) | (with_reducible refine Kd.C_alloc ?_ _) | (with_reducible refine Kd.C_drewN ?_ _) | (with_reducible refine Kd.C_drew ?_))); (case side2 => exact HC0.out); rintro e w12 ⟨v283, v288, rfl, ho0, ho1, hb⟩; refine ⟨_, rfl, ?_⟩; have n0_ := Aside0.mk (Kd.V_lower (Kd.V_mono (ok' := fun k_ => True) ho0 (fun k_ hk_ => trivial)) (below_size (by repeat (first | (with_reducible first | exact HB.out | apply below_alloc | apply pw_below_drewN | apply below_drew1) | exact HB.out)))); have n1_ := Aside0.mk (Kd.V_lower (Kd.V_mono (ok' := fun k_ => True) ho1 (fun k_ hk_ => trivial)) (below_size (by repeat (first | (with_reducible first | exact HB.out | apply below_alloc | apply pw_below_drewN | apply below_drew1) | exact HB.out)))); have n2_ := Aside0.mk (below_step (by repeat (first | (with_reducible first | exact HB.out | apply below_alloc | apply pw_below_drewN | apply below_drew1) | exact HB.out)) hb); clear HB; have HO284 := n0_; have HO289 := n1_; have HB := n2_; clear n0_ n1_ n2_; (try clear hb); (try clear hb2); (try clear hk); (try clear hi); (try clear ho0); (try clear ho1)) | ((with_reducible refine gate_dst (N := 10) rfl ?_); (try (refine gate_guard (by rfl) ?_; dsimp only)); refine box_event ?hg (N := 10) ?hd (cs := #[.int .i64 0, .bool false, .slice none 0 0]) (t := 54) ?hr ?_; (case hd => rfl); (case hg => rfl); (case hr => first | (go_simp; done) | (go_simp; rfl)); intro gb291 hg w13 hbox hb; have n0_ := Aside0.mk (Kd.V_below (Kd.V_elderB (by (with_reducible repeat (first | apply Kd.V_alloc | apply Kd.V_drewN | apply Kd.V_drew)); exact HO284.out) gb291 (Nat.le_of_eq hg.symm)) hb); have n1_ := Aside0.mk (Kd.V_below (Kd.V_elderB (by (with_reducible repeat (first | apply Kd.V_alloc | apply Kd.V_drewN | apply Kd.V_drew)); exact HO289.out) gb291 (Nat.le_of_eq hg.symm)) hb); have n2_ := Aside0.mk (below_step (by repeat (first | (with_reducible first | exact HB.out | apply below_alloc | apply pw_below_drewN | apply below_drew1) | exact HB.out)) hb); have n3_ := Aside0.mk (hbox); have n4_ := Aside0.mk ((by rw [hg]; exact (below_size (by repeat (first | (with_reducible first | exact HB.out | apply below_alloc | apply pw_below_drewN | apply below_drew1) | exact HB.out))) : w.heap.size ≤ gb291)); have n5_ := Aside0.mk ((by rw [hg]; exact (below_size (by repeat (first | (with_reducible first | exact HB.out | apply below_alloc | apply pw_below_drewN | apply below_drew1) | exact HB.out))) : w.heap.size ≤ gb291)); clear HO284; clear HO289; clear HB; have HO284 := n0_; have HO289 := n1_; have HB := n2_; have BK291 := n3_; have GW291 := n4_; have GE291 := n5_; clear n0_ n1_ n2_ n3_ n4_ n5_; clear hb hbox hg; have hcz14_0 : w13.cell? ⟨gb291, 0, none⟩ = some (.int .i64 0) := (blk_cell BK291.out 0).trans rfl; have hcz14_1 : w13.cell? ⟨gb291, 1, none⟩ = some (.bool false) := (blk_cell BK291.out 1).trans rfl; have hcz14_2 : w13.cell? ⟨gb291, 2, none⟩ = some (.slice none 0 0) := (blk_cell BK291.out 2).trans rfl; have hfz14_0 := blk_frozen BK291.out 0; have hfz14_1 := blk_frozen BK291.out 1; have hfz14_2 := blk_frozen BK291.out 2; obtain ⟨Ao15, co15, eo15⟩ := Kd.V_slice HO289.out; subst eo15))
        (try simp only [Act.put, List.setIfInBounds_toArray, List.set_cons_zero, List.set_cons_succ])
        go_cut [12] (fun v12 wc => ∃ (kq : Nat) (x12_10 : Bool), v12 = .bool x12_10 ∧ Aside0 (wayfinderlaw14_WiresCount.j1 kq l0 a1 a2 t282 t290 x12_10 t285 t286 t287 = some r) ∧ Aside0 (kq ≤ kj5) ∧ Aside0 (Kd.V k54 54 wc w.heap.size (fun k_ => k_ ≠ gb291) v283 t282) ∧ Aside0 (Kd.V (Kd.int .u8) 5 wc w.heap.size (fun k_ => k_ ≠ gb291) (.slice Ao15 t287.length co15) t287) ∧ Aside0 (wc.heap[gb291]? = some (.cells #[.int .i64 t285, .bool t286, (.slice Ao15 t287.length co15)] 54 (0, 0))) ∧ Aside0 (Below w.heap.size w wc))
        case first =>
          have H := HC11.out
          clear HC11
          by_cases c16 : a1 ≥ 0
          · rw [if_pos c16] at H
            have c16b0 : decide (0 ≤ a1) = true := decide_eq_true c16
            clear c16
            (first | rw [c16b0] | (simp only [i64_w, i32_w]; rw [c16b0]) | skip)
            have H' := Aside0.mk H
            clear H
            go_wp2
            go_meet
            case rel => exact ⟨_, (decide (a1 < (l0.length : Int))), (by first | rfl | (simp; done) | (simp [*]; done)), H', ⟨by have := HJ5.out; first | omega | exact Nat.le_refl _⟩, ⟨by (with_reducible repeat (first | apply Kd.V_alloc | apply Kd.V_drewN | apply Kd.V_drew)); exact Kd.V_mono (Kd.V_far (p := ⟨gb291, 2, none⟩) (Kd.V_far (p := ⟨gb291, 1, none⟩) (Kd.V_far (p := ⟨gb291, 0, none⟩) (Kd.V_mono HO284.out (fun k_ hk => (⟨hk, hk.2⟩ : _ ∧ k_ ≠ gb291))) (fun _ hk => hk.2) (.int .i64 t285)) (fun _ hk => hk.2) (.bool t286)) (fun _ hk => hk.2) (.slice Ao15 t287.length co15)) (fun _ hk => hk.1.2)⟩, ⟨by (with_reducible repeat (first | apply Kd.V_alloc | apply Kd.V_drewN | apply Kd.V_drew)); exact Kd.V_mono (Kd.V_far (p := ⟨gb291, 2, none⟩) (Kd.V_far (p := ⟨gb291, 1, none⟩) (Kd.V_far (p := ⟨gb291, 0, none⟩) (Kd.V_mono HO289.out (fun k_ hk => (⟨hk, hk.2⟩ : _ ∧ k_ ≠ gb291))) (fun _ hk => hk.2) (.int .i64 t285)) (fun _ hk => hk.2) (.bool t286)) (fun _ hk => hk.2) (.slice Ao15 t287.length co15)) (fun _ hk => hk.1.2)⟩, ⟨by (with_reducible repeat (first | refine blk_drewN ?_ _ | refine blk_drew ?_ | refine blk_alloc ?_ _)); refine blk_put (cs := #[.int .i64 t285, .bool t286, .slice none 0 0]) ?_ 2 _ rfl; (with_reducible repeat (first | refine blk_drewN ?_ _ | refine blk_drew ?_ | refine blk_alloc ?_ _)); refine blk_put (cs := #[.int .i64 t285, .bool false, .slice none 0 0]) ?_ 1 _ rfl; (with_reducible repeat (first | refine blk_drewN ?_ _ | refine blk_drew ?_ | refine blk_alloc ?_ _)); refine blk_put (cs := #[.int .i64 0, .bool false, .slice none 0 0]) ?_ 0 _ rfl; (with_reducible repeat (first | refine blk_drewN ?_ _ | refine blk_drew ?_ | refine blk_alloc ?_ _)); exact BK291.out⟩, ⟨by repeat (first | (with_reducible first | exact HB.out | apply below_alloc | apply pw_below_drewN | apply below_drew1 | refine below_set ?_ GE291.out) | exact HB.out)⟩⟩
          · rw [if_neg c16] at H
            have c16b0 : decide (0 ≤ a1) = false := decide_eq_false c16
            clear c16
            (first | rw [c16b0] | (simp only [i64_w, i32_w]; rw [c16b0]) | skip)
            have H' := Aside0.mk H
            clear H
            go_wp2
            go_meet
            case rel => exact ⟨_, (false), (by first | rfl | (simp; done) | (simp [*]; done)), H', ⟨by have := HJ5.out; first | omega | exact Nat.le_refl _⟩, ⟨by (with_reducible repeat (first | apply Kd.V_alloc | apply Kd.V_drewN | apply Kd.V_drew)); exact Kd.V_mono (Kd.V_far (p := ⟨gb291, 2, none⟩) (Kd.V_far (p := ⟨gb291, 1, none⟩) (Kd.V_far (p := ⟨gb291, 0, none⟩) (Kd.V_mono HO284.out (fun k_ hk => (⟨hk, hk.2⟩ : _ ∧ k_ ≠ gb291))) (fun _ hk => hk.2) (.int .i64 t285)) (fun _ hk => hk.2) (.bool t286)) (fun _ hk => hk.2) (.slice Ao15 t287.length co15)) (fun _ hk => hk.1.2)⟩, ⟨by (with_reducible repeat (first | apply Kd.V_alloc | apply Kd.V_drewN | apply Kd.V_drew)); exact Kd.V_mono (Kd.V_far (p := ⟨gb291, 2, none⟩) (Kd.V_far (p := ⟨gb291, 1, none⟩) (Kd.V_far (p := ⟨gb291, 0, none⟩) (Kd.V_mono HO289.out (fun k_ hk => (⟨hk, hk.2⟩ : _ ∧ k_ ≠ gb291))) (fun _ hk => hk.2) (.int .i64 t285)) (fun _ hk => hk.2) (.bool t286)) (fun _ hk => hk.2) (.slice Ao15 t287.length co15)) (fun _ hk => hk.1.2)⟩, ⟨by (with_reducible repeat (first | refine blk_drewN ?_ _ | refine blk_drew ?_ | refine blk_alloc ?_ _)); refine blk_put (cs := #[.int .i64 t285, .bool t286, .slice none 0 0]) ?_ 2 _ rfl; (with_reducible repeat (first | refine blk_drewN ?_ _ | refine blk_drew ?_ | refine blk_alloc ?_ _)); refine blk_put (cs := #[.int .i64 t285, .bool false, .slice none 0 0]) ?_ 1 _ rfl; (with_reducible repeat (first | refine blk_drewN ?_ _ | refine blk_drew ?_ | refine blk_alloc ?_ _)); refine blk_put (cs := #[.int .i64 0, .bool false, .slice none 0 0]) ?_ 0 _ rfl; (with_reducible repeat (first | refine blk_drewN ?_ _ | refine blk_drew ?_ | refine blk_alloc ?_ _)); exact BK291.out⟩, ⟨by repeat (first | (with_reducible first | exact HB.out | apply below_alloc | apply pw_below_drewN | apply below_drew1 | refine below_set ?_ GE291.out) | exact HB.out)⟩⟩
        case rest =>
          clear HC11
          try clear c1
          try clear c2
          try clear p2
          try clear c8
          try clear c9
          try clear c11
          try clear c16
          try clear c16b0
          try clear hcz14_0
          try clear hcz14_1
          try clear hcz14_2
          try clear hfz14_0
          try clear hfz14_1
          try clear hfz14_2
          try clear p2
          obtain ⟨kq, x12_10, rfl, HA, HJ10, HO_9, HO_292002, BK291, HB⟩ := hcut
          cases kq with
          | zero => exact absurd HA.out (by simp [wayfinderlaw14_WiresCount.j1])
          | succ kj10 =>
            have H := HA.out
            clear HA
            simp only [wayfinderlaw14_WiresCount.j1] at H
            have HC17 := Aside0.mk H
            clear H
            go_upto_region 7 with (fail)
            go_cut [13] (fun v13 wc => ∃ (kq : Nat) (x13_16 : Bool), v13 = .bool x13_16 ∧ Aside0 (wayfinderlaw14_WiresCount.j2 kq l0 a1 a2 t282 t290 x12_10 x13_16 t285 t286 t287 = some r) ∧ Aside0 (kq ≤ kj10) ∧ Aside0 (Kd.V k54 54 wc w.heap.size (fun k_ => k_ ≠ gb291) v283 t282) ∧ Aside0 (Kd.V (Kd.int .u8) 5 wc w.heap.size (fun k_ => k_ ≠ gb291) (.slice Ao15 t287.length co15) t287) ∧ Aside0 (wc.heap[gb291]? = some (.cells #[.int .i64 t285, .bool t286, (.slice Ao15 t287.length co15)] 54 (0, 0))) ∧ Aside0 (Below w.heap.size w wc))
            case first =>
              have H := HC17.out
              clear HC17
              by_cases c18 : x12_10 = true
              · subst c18
                have H1 : (if a2 = 0 then (wayfinderlaw14_WiresCount.j2 kj10 l0 a1 a2 t282 t290 true true t285 t286 t287) else (wayfinderlaw14_WiresCount.j2 kj10 l0 a1 a2 t282 t290 true (a2 == 1) t285 t286 t287)) = some r := by rw [if_pos rfl] at H; exact H
                clear H
                have H := H1
                clear H1
                by_cases c19 : a2 = 0
                · rw [if_pos c19] at H
                  have c19b0 : (a2 == 0) = true := beq_iff_eq.mpr c19
                  have c19b1 : (a2 != 0) = false := bne_eq_false_iff_eq.mpr c19
                  clear c19
                  (first | rw [c19b0] | (simp only [i64_w, i32_w]; rw [c19b0]) | skip)
                  have H' := Aside0.mk H
                  clear H
                  go_wp2
                  go_meet
                  case rel => exact ⟨_, (true), (by first | rfl | (simp; done) | (simp [*]; done)), H', ⟨by have := HJ5.out; have := HJ10.out; first | omega | exact Nat.le_refl _⟩, ⟨by (with_reducible repeat (first | apply Kd.V_alloc | apply Kd.V_drewN | apply Kd.V_drew)); exact HO_9.out⟩, ⟨by (with_reducible repeat (first | apply Kd.V_alloc | apply Kd.V_drewN | apply Kd.V_drew)); exact HO_292002.out⟩, ⟨by (with_reducible repeat (first | refine blk_drewN ?_ _ | refine blk_drew ?_ | refine blk_alloc ?_ _)); exact BK291.out⟩, ⟨by repeat (first | (with_reducible first | exact HB.out | apply below_alloc | apply pw_below_drewN | apply below_drew1 | refine below_set ?_ GE291.out) | exact HB.out)⟩⟩
                · rw [if_neg c19] at H
                  have c19b0 : (a2 == 0) = false := beq_eq_false_iff_ne.mpr c19
                  have c19b1 : (a2 != 0) = true := bne_iff_ne.mpr c19
                  (first | rw [c19b0] | (simp only [i64_w, i32_w]; rw [c19b0]) | skip)
                  have H' := Aside0.mk H
                  clear H
                  go_wp2
                  go_meet
                  case rel => exact ⟨_, ((a2 == 1)), (by first | rfl | (simp; done) | (simp [*]; done)), H', ⟨by have := HJ5.out; have := HJ10.out; first | omega | exact Nat.le_refl _⟩, ⟨by (with_reducible repeat (first | apply Kd.V_alloc | apply Kd.V_drewN | apply Kd.V_drew)); exact HO_9.out⟩, ⟨by (with_reducible repeat (first | apply Kd.V_alloc | apply Kd.V_drewN | apply Kd.V_drew)); exact HO_292002.out⟩, ⟨by (with_reducible repeat (first | refine blk_drewN ?_ _ | refine blk_drew ?_ | refine blk_alloc ?_ _)); exact BK291.out⟩, ⟨by repeat (first | (with_reducible first | exact HB.out | apply below_alloc | apply pw_below_drewN | apply below_drew1 | refine below_set ?_ GE291.out) | exact HB.out)⟩⟩
              · replace c18 := Bool.eq_false_iff.mpr c18
                subst c18
                have H1 : (wayfinderlaw14_WiresCount.j2 kj10 l0 a1 a2 t282 t290 false false t285 t286 t287) = some r := by rw [if_neg (show ¬ (false = true) by decide)] at H; exact H
                clear H
                have H := H1
                clear H1
                have H' := Aside0.mk H
                clear H
                go_wp2
                go_meet
                case rel => exact ⟨_, (false), (by first | rfl | (simp; done) | (simp [*]; done)), H', ⟨by have := HJ5.out; have := HJ10.out; first | omega | exact Nat.le_refl _⟩, ⟨by (with_reducible repeat (first | apply Kd.V_alloc | apply Kd.V_drewN | apply Kd.V_drew)); exact HO_9.out⟩, ⟨by (with_reducible repeat (first | apply Kd.V_alloc | apply Kd.V_drewN | apply Kd.V_drew)); exact HO_292002.out⟩, ⟨by (with_reducible repeat (first | refine blk_drewN ?_ _ | refine blk_drew ?_ | refine blk_alloc ?_ _)); exact BK291.out⟩, ⟨by repeat (first | (with_reducible first | exact HB.out | apply below_alloc | apply pw_below_drewN | apply below_drew1 | refine below_set ?_ GE291.out) | exact HB.out)⟩⟩
            case rest =>
              clear HC17
              try clear c1
              try clear c2
              try clear p2
              try clear c8
              try clear c9
              try clear c11
              try clear c16
              try clear c16b0
              try clear c18
              try clear c19
              try clear c19b0
              try clear c19b1
              try clear hcz14_0
              try clear hcz14_1
              try clear hcz14_2
              try clear hfz14_0
              try clear hfz14_1
              try clear hfz14_2
              try clear p2
              obtain ⟨kq, x13_16, rfl, HA, HJ16, HO_9, HO_292002, BK291, HB⟩ := hcut
              cases kq with
              | zero => exact absurd HA.out (by simp [wayfinderlaw14_WiresCount.j2])
              | succ kj16 =>
                have H := HA.out
                clear HA
                simp only [wayfinderlaw14_WiresCount.j2] at H
                have HC20 := Aside0.mk H
                clear H
                go_upto_if 56 with (fail)
                go_cut [14] (fun v14 wc => ∃ (kq : Nat) (x14_19 : Int), v14 = .int .i64 x14_19 ∧ Aside0 (wayfinderlaw14_WiresCount.j3 kq l0 a1 a2 t282 t290 x12_10 x13_16 x14_19 t285 t286 t287 = some r) ∧ Aside0 (kq ≤ kj16) ∧ Aside0 (Kd.V k54 54 wc w.heap.size (fun k_ => k_ ≠ gb291) v283 t282) ∧ Aside0 (Kd.V (Kd.int .u8) 5 wc w.heap.size (fun k_ => k_ ≠ gb291) (.slice Ao15 t287.length co15) t287) ∧ Aside0 (wc.heap[gb291]? = some (.cells #[.int .i64 t285, .bool t286, (.slice Ao15 t287.length co15)] 54 (0, 0))) ∧ Aside0 (Below w.heap.size w wc))
                case first =>
                  have H := HC20.out
                  clear HC20
                  by_cases c21 : x13_16 = true
                  · subst c21
                    have H1 : (wayfinderlaw14_WiresCount.j3 kj16 l0 a1 a2 t282 t290 x12_10 true (wrap64 ((l0.length : Int) - 1)) t285 t286 t287) = some r := by rw [if_pos rfl] at H; exact H
                    clear H
                    have H := H1
                    clear H1
                    have H' := Aside0.mk H
                    clear H
                    go_wp2
                    go_meet
                    case rel => exact ⟨_, (wrap64 ((l0.length : Int) - 1)), (by first | rfl | (simp; done) | (simp [*]; done)), H', ⟨by have := HJ5.out; have := HJ10.out; have := HJ16.out; first | omega | exact Nat.le_refl _⟩, ⟨by (with_reducible repeat (first | apply Kd.V_alloc | apply Kd.V_drewN | apply Kd.V_drew)); exact HO_9.out⟩, ⟨by (with_reducible repeat (first | apply Kd.V_alloc | apply Kd.V_drewN | apply Kd.V_drew)); exact HO_292002.out⟩, ⟨by (with_reducible repeat (first | refine blk_drewN ?_ _ | refine blk_drew ?_ | refine blk_alloc ?_ _)); exact BK291.out⟩, ⟨by repeat (first | (with_reducible first | exact HB.out | apply below_alloc | apply pw_below_drewN | apply below_drew1 | refine below_set ?_ GE291.out) | exact HB.out)⟩⟩
                  · replace c21 := Bool.eq_false_iff.mpr c21
                    subst c21
                    have H1 : (wayfinderlaw14_WiresCount.j3 kj16 l0 a1 a2 t282 t290 x12_10 false (l0.length : Int) t285 t286 t287) = some r := by rw [if_neg (show ¬ (false = true) by decide)] at H; exact H
                    clear H
                    have H := H1
                    clear H1
                    have H' := Aside0.mk H
                    clear H
                    go_wp2
                    go_meet
                    case rel => exact ⟨_, ((l0.length : Int)), (by first | rfl | (simp; done) | (simp [*]; done)), H', ⟨by have := HJ5.out; have := HJ10.out; have := HJ16.out; first | omega | exact Nat.le_refl _⟩, ⟨by (with_reducible repeat (first | apply Kd.V_alloc | apply Kd.V_drewN | apply Kd.V_drew)); exact HO_9.out⟩, ⟨by (with_reducible repeat (first | apply Kd.V_alloc | apply Kd.V_drewN | apply Kd.V_drew)); exact HO_292002.out⟩, ⟨by (with_reducible repeat (first | refine blk_drewN ?_ _ | refine blk_drew ?_ | refine blk_alloc ?_ _)); exact BK291.out⟩, ⟨by repeat (first | (with_reducible first | exact HB.out | apply below_alloc | apply pw_below_drewN | apply below_drew1 | refine below_set ?_ GE291.out) | exact HB.out)⟩⟩
                case rest =>
                  clear HC20
                  try clear c1
                  try clear c2
                  try clear p2
                  try clear p6
                  try clear c8
                  try clear c9
                  try clear c11
                  try clear c16
                  try clear c16b0
                  try clear c18
                  try clear c19
                  try clear c19b0
                  try clear c19b1
                  try clear c21
                  try clear hcz14_0
                  try clear hcz14_1
                  try clear hcz14_2
                  try clear hfz14_0
                  try clear hfz14_1
                  try clear hfz14_2
                  try clear p2
                  obtain ⟨kq, x14_19, rfl, HA, HJ19, HO_9, HO_292002, BK291, HB⟩ := hcut
                  cases kq with
                  | zero => exact absurd HA.out (by simp [wayfinderlaw14_WiresCount.j3])
                  | succ kj19 =>
                    have H := HA.out
                    clear HA
                    simp only [wayfinderlaw14_WiresCount.j3] at H
                    have HC22 := Aside0.mk H
                    clear H
                    go_upto_region 11 with (fail)
                    go_cut [75] (fun v75 wc => ∃ (kq : Nat) (x75_21 : Bool), v75 = .bool x75_21 ∧ Aside0 (wayfinderlaw14_WiresCount.j4 kq l0 a1 t282 t290 x13_16 x75_21 t285 t286 t287 = some r) ∧ Aside0 (kq ≤ kj19) ∧ Aside0 (Kd.V k54 54 wc w.heap.size (fun k_ => k_ ≠ gb291) v283 t282) ∧ Aside0 (Kd.V (Kd.int .u8) 5 wc w.heap.size (fun k_ => k_ ≠ gb291) (.slice Ao15 t287.length co15) t287) ∧ Aside0 (wc.heap[gb291]? = some (.cells #[.int .i64 t285, .bool t286, (.slice Ao15 t287.length co15)] 54 (0, 0))) ∧ Aside0 (Below w.heap.size w wc))
                    case first =>
                      have H := HC22.out
                      clear HC22
                      by_cases c23 : (t282.length : Int) = x14_19
                      · rw [if_pos c23] at H
                        have c23b0 : ((t282.length : Int) == x14_19) = true := beq_iff_eq.mpr c23
                        have c23b1 : ((t282.length : Int) != x14_19) = false := bne_eq_false_iff_eq.mpr c23
                        clear c23
                        (first | rw [c23b0] | (simp only [i64_w, i32_w]; rw [c23b0]) | skip)
                        by_cases c24 : x12_10 = true
                        · subst c24
                          have H1 : (if a2 = 0 then (wayfinderlaw14_WiresCount.j4 kj19 l0 a1 t282 t290 x13_16 (t290 != true) t285 t286 t287) else (wayfinderlaw14_WiresCount.j4 kj19 l0 a1 t282 t290 x13_16 (t290 != (a2 == 2)) t285 t286 t287)) = some r := by rw [if_pos rfl] at H; exact H
                          clear H
                          have H := H1
                          clear H1
                          by_cases c25 : a2 = 0
                          · rw [if_pos c25] at H
                            have c25b0 : (a2 == 0) = true := beq_iff_eq.mpr c25
                            have c25b1 : (a2 != 0) = false := bne_eq_false_iff_eq.mpr c25
                            clear c25
                            have H' := Aside0.mk H
                            clear H
                            obtain ⟨Ao26, co26, eo26⟩ := Kd.V_slice HO_9.out
                            subst eo26
                            go_wp2
                            go_meet
                            case rel => exact ⟨_, ((t290 != true)), (by first | rfl | (simp; done) | (simp [*]; done)), H', ⟨by have := HJ5.out; have := HJ10.out; have := HJ16.out; have := HJ19.out; first | omega | exact Nat.le_refl _⟩, ⟨by (with_reducible repeat (first | apply Kd.V_alloc | apply Kd.V_drewN | apply Kd.V_drew)); exact HO_9.out⟩, ⟨by (with_reducible repeat (first | apply Kd.V_alloc | apply Kd.V_drewN | apply Kd.V_drew)); exact HO_292002.out⟩, ⟨by (with_reducible repeat (first | refine blk_drewN ?_ _ | refine blk_drew ?_ | refine blk_alloc ?_ _)); exact BK291.out⟩, ⟨by repeat (first | (with_reducible first | exact HB.out | apply below_alloc | apply pw_below_drewN | apply below_drew1 | refine below_set ?_ GE291.out) | exact HB.out)⟩⟩
                          · rw [if_neg c25] at H
                            have c25b0 : (a2 == 0) = false := beq_eq_false_iff_ne.mpr c25
                            have c25b1 : (a2 != 0) = true := bne_iff_ne.mpr c25
                            have H' := Aside0.mk H
                            clear H
                            obtain ⟨Ao27, co27, eo27⟩ := Kd.V_slice HO_9.out
                            subst eo27
                            go_wp2
                            go_meet
                            case rel => exact ⟨_, ((t290 != (a2 == 2))), (by first | rfl | (simp; done) | (simp [*]; done)), H', ⟨by have := HJ5.out; have := HJ10.out; have := HJ16.out; have := HJ19.out; first | omega | exact Nat.le_refl _⟩, ⟨by (with_reducible repeat (first | apply Kd.V_alloc | apply Kd.V_drewN | apply Kd.V_drew)); exact HO_9.out⟩, ⟨by (with_reducible repeat (first | apply Kd.V_alloc | apply Kd.V_drewN | apply Kd.V_drew)); exact HO_292002.out⟩, ⟨by (with_reducible repeat (first | refine blk_drewN ?_ _ | refine blk_drew ?_ | refine blk_alloc ?_ _)); exact BK291.out⟩, ⟨by repeat (first | (with_reducible first | exact HB.out | apply below_alloc | apply pw_below_drewN | apply below_drew1 | refine below_set ?_ GE291.out) | exact HB.out)⟩⟩
                        · replace c24 := Bool.eq_false_iff.mpr c24
                          subst c24
                          have H1 : (wayfinderlaw14_WiresCount.j4 kj19 l0 a1 t282 t290 x13_16 (t290 != false) t285 t286 t287) = some r := by rw [if_neg (show ¬ (false = true) by decide)] at H; exact H
                          clear H
                          have H := H1
                          clear H1
                          have H' := Aside0.mk H
                          clear H
                          obtain ⟨Ao28, co28, eo28⟩ := Kd.V_slice HO_9.out
                          subst eo28
                          go_wp2
                          go_meet
                          case rel => exact ⟨_, ((t290 != false)), (by first | rfl | (simp; done) | (simp [*]; done)), H', ⟨by have := HJ5.out; have := HJ10.out; have := HJ16.out; have := HJ19.out; first | omega | exact Nat.le_refl _⟩, ⟨by (with_reducible repeat (first | apply Kd.V_alloc | apply Kd.V_drewN | apply Kd.V_drew)); exact HO_9.out⟩, ⟨by (with_reducible repeat (first | apply Kd.V_alloc | apply Kd.V_drewN | apply Kd.V_drew)); exact HO_292002.out⟩, ⟨by (with_reducible repeat (first | refine blk_drewN ?_ _ | refine blk_drew ?_ | refine blk_alloc ?_ _)); exact BK291.out⟩, ⟨by repeat (first | (with_reducible first | exact HB.out | apply below_alloc | apply pw_below_drewN | apply below_drew1 | refine below_set ?_ GE291.out) | exact HB.out)⟩⟩
                      · rw [if_neg c23] at H
                        have c23b0 : ((t282.length : Int) == x14_19) = false := beq_eq_false_iff_ne.mpr c23
                        have c23b1 : ((t282.length : Int) != x14_19) = true := bne_iff_ne.mpr c23
                        (first | rw [c23b0] | (simp only [i64_w, i32_w]; rw [c23b0]) | skip)
                        have H' := Aside0.mk H
                        clear H
                        obtain ⟨Ao29, co29, eo29⟩ := Kd.V_slice HO_9.out
                        subst eo29
                        go_wp2
                        go_meet
                        case rel => exact ⟨_, (true), (by first | rfl | (simp; done) | (simp [*]; done)), H', ⟨by have := HJ5.out; have := HJ10.out; have := HJ16.out; have := HJ19.out; first | omega | exact Nat.le_refl _⟩, ⟨by (with_reducible repeat (first | apply Kd.V_alloc | apply Kd.V_drewN | apply Kd.V_drew)); exact HO_9.out⟩, ⟨by (with_reducible repeat (first | apply Kd.V_alloc | apply Kd.V_drewN | apply Kd.V_drew)); exact HO_292002.out⟩, ⟨by (with_reducible repeat (first | refine blk_drewN ?_ _ | refine blk_drew ?_ | refine blk_alloc ?_ _)); exact BK291.out⟩, ⟨by repeat (first | (with_reducible first | exact HB.out | apply below_alloc | apply pw_below_drewN | apply below_drew1 | refine below_set ?_ GE291.out) | exact HB.out)⟩⟩
                    case rest =>
                      clear HC22
                      try clear c1
                      try clear c2
                      try clear p2
                      try clear p6
                      try clear c8
                      try clear c9
                      try clear c11
                      try clear c16
                      try clear c16b0
                      try clear c18
                      try clear c19
                      try clear c19b0
                      try clear c19b1
                      try clear c21
                      try clear c23
                      try clear c23b0
                      try clear c23b1
                      try clear c24
                      try clear c25
                      try clear c25b0
                      try clear c25b1
                      try clear c28
                      try clear hcz14_0
                      try clear hcz14_1
                      try clear hcz14_2
                      try clear hfz14_0
                      try clear hfz14_1
                      try clear hfz14_2
                      try clear p2
                      try clear p6
                      obtain ⟨kq, x75_21, rfl, HA, HJ21, HO_9, HO_292002, BK291, HB⟩ := hcut
                      cases kq with
                      | zero => exact absurd HA.out (by simp [wayfinderlaw14_WiresCount.j4])
                      | succ kj21 =>
                        have H := HA.out
                        clear HA
                        simp only [wayfinderlaw14_WiresCount.j4] at H
                        by_cases c30 : x75_21 = true
                        · subst c30
                          have H1 : (some false) = some r := by rw [if_pos rfl] at H; exact H
                          clear H
                          have H := H1
                          clear H1
                          obtain rfl := Option.some.inj H
                          go_wp2
                          go_ret
                          exact ⟨by first | rfl | (simp [errW_none, errW_some] <;> rfl) | (simp [*, errW_none, errW_some] <;> rfl), by repeat (first | (with_reducible first | exact HB.out | apply below_alloc | apply pw_below_drewN | apply below_drew1 | refine below_set ?_ GE291.out) | exact HB.out)⟩
                        · replace c30 := Bool.eq_false_iff.mpr c30
                          subst c30
                          have H1 : (wayfinderlaw14_WiresCount.l0 kj21 l0 a1 t282 t290 x13_16 0 t285 t286 t287) = some r := by rw [if_neg (show ¬ (false = true) by decide)] at H; exact H
                          clear H
                          have H := H1
                          clear H1
                          have H' := Aside0.mk H
                          clear H
                          go_wp2
                          go_loopg [15] kj21 (fun kq v15 w' => ∃ (x15_6 : Int), v15 = .int .i64 x15_6 ∧ Aside0 (wayfinderlaw14_WiresCount.l0 kq l0 a1 t282 t290 x13_16 x15_6 t285 t286 t287 = some r) ∧ Aside0 (kq ≤ kj21) ∧ Aside0 (Kd.V k54 54 w' w.heap.size (fun k_ => k_ ≠ gb291) v283 t282) ∧ Aside0 (Kd.V (Kd.int .u8) 5 w' w.heap.size (fun k_ => k_ ≠ gb291) (.slice Ao15 t287.length co15) t287) ∧ Aside0 (w'.heap[gb291]? = some (.cells #[.int .i64 t285, .bool t286, (.slice Ao15 t287.length co15)] 54 (0, 0))) ∧ Aside0 (Below w.heap.size w w'))
                          case atStart => exact ⟨(0), (by first | rfl | (simp; done) | (simp [*]; done)), H', ⟨Nat.le_refl _⟩, ⟨by (with_reducible repeat (first | apply Kd.V_alloc | apply Kd.V_drewN | apply Kd.V_drew)); exact HO_9.out⟩, ⟨by (with_reducible repeat (first | apply Kd.V_alloc | apply Kd.V_drewN | apply Kd.V_drew)); exact HO_292002.out⟩, ⟨by (with_reducible repeat (first | refine blk_drewN ?_ _ | refine blk_drew ?_ | refine blk_alloc ?_ _)); exact BK291.out⟩, ⟨by repeat (first | (with_reducible first | exact HB.out | apply below_alloc | apply pw_below_drewN | apply below_drew1 | refine below_set ?_ GE291.out) | exact HB.out)⟩⟩
                          case round =>
                            clear H'
                            try clear c1
                            try clear c2
                            try clear p2
                            try clear c3
                            try clear p6
                            try clear c8
                            try clear c9
                            try clear c11
                            try clear c16
                            try clear c16b0
                            try clear c18
                            try clear c19
                            try clear c19b0
                            try clear c19b1
                            try clear c21
                            try clear c23
                            try clear c23b0
                            try clear c23b1
                            try clear c24
                            try clear c25
                            try clear c25b0
                            try clear c25b1
                            try clear c28
                            try clear c30
                            try clear hcz14_0
                            try clear hcz14_1
                            try clear hcz14_2
                            try clear hfz14_0
                            try clear hfz14_1
                            try clear hfz14_2
                            try clear p2
                            try clear p6
                            obtain ⟨x15_6, rfl, HA, HK6, HO_9, HO_292002, BK291, HB⟩ := hrel
                            cases gk with
                            | zero => exact absurd HA.out (by simp [wayfinderlaw14_WiresCount.l0])
                            | succ k6 =>
                              have H := HA.out
                              clear HA
                              simp only [wayfinderlaw14_WiresCount.l0] at H
                              by_cases c31 : x15_6 < (t282.length : Int)
                              · rw [if_pos c31] at H
                                have c31b0 : decide (x15_6 < (t282.length : Int)) = true := decide_eq_true c31
                                clear c31
                                have HC32 := Aside0.mk H
                                clear H
                                obtain ⟨Ao33, co33, eo33⟩ := Kd.V_slice HO_9.out
                                subst eo33
                                go_upto_region 17 with (fail)
                                go_cut [88] (fun v88 wc => ∃ (kq : Nat) (x88_31 : Bool), v88 = .bool x88_31 ∧ Aside0 (wayfinderlaw14_WiresCount.j6 kq l0 a1 t282 t290 x13_16 x15_6 x15_6 x88_31 t285 t286 t287 = some r) ∧ Aside0 (kq ≤ k6) ∧ Aside0 (Kd.V k54 54 wc w.heap.size (fun k_ => k_ ≠ gb291) (.slice Ao33 t282.length co33) t282) ∧ Aside0 (Kd.V (Kd.int .u8) 5 wc w.heap.size (fun k_ => k_ ≠ gb291) (.slice Ao15 t287.length co15) t287) ∧ Aside0 (wc.heap[gb291]? = some (.cells #[.int .i64 t285, .bool t286, (.slice Ao15 t287.length co15)] 54 (0, 0))) ∧ Aside0 (Below w.heap.size w wc))
                                case first =>
                                  have H := HC32.out
                                  clear HC32
                                  by_cases c34 : x13_16 = true
                                  · subst c34
                                    have H1 : (wayfinderlaw14_WiresCount.j6 k6 l0 a1 t282 t290 true x15_6 x15_6 (decide (x15_6 ≥ a1)) t285 t286 t287) = some r := by rw [if_pos rfl] at H; exact H
                                    clear H
                                    have H := H1
                                    clear H1
                                    have H' := Aside0.mk H
                                    clear H
                                    go_wp2
                                    go_meet
                                    case rel => exact ⟨_, (decide (x15_6 ≥ a1)), (by first | rfl | (simp; done) | (simp [*]; done)), H', ⟨by have := HJ5.out; have := HJ10.out; have := HJ16.out; have := HJ19.out; have := HJ21.out; have := HK6.out; first | omega | exact Nat.le_refl _⟩, ⟨by (with_reducible repeat (first | apply Kd.V_alloc | apply Kd.V_drewN | apply Kd.V_drew)); exact HO_9.out⟩, ⟨by (with_reducible repeat (first | apply Kd.V_alloc | apply Kd.V_drewN | apply Kd.V_drew)); exact HO_292002.out⟩, ⟨by (with_reducible repeat (first | refine blk_drewN ?_ _ | refine blk_drew ?_ | refine blk_alloc ?_ _)); exact BK291.out⟩, ⟨by repeat (first | (with_reducible first | exact HB.out | apply below_alloc | apply pw_below_drewN | apply below_drew1 | refine below_set ?_ GE291.out) | exact HB.out)⟩⟩
                                  · replace c34 := Bool.eq_false_iff.mpr c34
                                    subst c34
                                    have H1 : (wayfinderlaw14_WiresCount.j6 k6 l0 a1 t282 t290 false x15_6 x15_6 false t285 t286 t287) = some r := by rw [if_neg (show ¬ (false = true) by decide)] at H; exact H
                                    clear H
                                    have H := H1
                                    clear H1
                                    have H' := Aside0.mk H
                                    clear H
                                    go_wp2
                                    go_meet
                                    case rel => exact ⟨_, (false), (by first | rfl | (simp; done) | (simp [*]; done)), H', ⟨by have := HJ5.out; have := HJ10.out; have := HJ16.out; have := HJ19.out; have := HJ21.out; have := HK6.out; first | omega | exact Nat.le_refl _⟩, ⟨by (with_reducible repeat (first | apply Kd.V_alloc | apply Kd.V_drewN | apply Kd.V_drew)); exact HO_9.out⟩, ⟨by (with_reducible repeat (first | apply Kd.V_alloc | apply Kd.V_drewN | apply Kd.V_drew)); exact HO_292002.out⟩, ⟨by (with_reducible repeat (first | refine blk_drewN ?_ _ | refine blk_drew ?_ | refine blk_alloc ?_ _)); exact BK291.out⟩, ⟨by repeat (first | (with_reducible first | exact HB.out | apply below_alloc | apply pw_below_drewN | apply below_drew1 | refine below_set ?_ GE291.out) | exact HB.out)⟩⟩
                                case rest =>
                                  clear HC32
                                  try clear c1
                                  try clear c2
                                  try clear p2
                                  try clear c3
                                  try clear p6
                                  try clear c8
                                  try clear c9
                                  try clear c11
                                  try clear c16
                                  try clear c16b0
                                  try clear c18
                                  try clear c19
                                  try clear c19b0
                                  try clear c19b1
                                  try clear c21
                                  try clear c23
                                  try clear c23b0
                                  try clear c23b1
                                  try clear c24
                                  try clear c25
                                  try clear c25b0
                                  try clear c25b1
                                  try clear c28
                                  try clear c30
                                  try clear c31
                                  try clear c31b0
                                  try clear c34
                                  try clear hcz14_0
                                  try clear hcz14_1
                                  try clear hcz14_2
                                  try clear hfz14_0
                                  try clear hfz14_1
                                  try clear hfz14_2
                                  try clear p2
                                  try clear p6
                                  obtain ⟨kq, x88_31, rfl, HA, HJ31, HO_9, HO_292002, BK291, HB⟩ := hcut
                                  cases kq with
                                  | zero => exact absurd HA.out (by simp [wayfinderlaw14_WiresCount.j6])
                                  | succ kj31 =>
                                    have H := HA.out
                                    clear HA
                                    simp only [wayfinderlaw14_WiresCount.j6] at H
                                    by_cases c35 : x88_31 = true
                                    · subst c35
                                      have H1 : (if 0 ≤ x15_6 then (if x15_6 < (t282.length : Int) then (if 0 ≤ (wrap64 (x15_6 + 1)) then (if (wrap64 (x15_6 + 1)) < (l0.length : Int) then ((wayfinderref14_One.f ((rd_T54 t282 x15_6).f0) ((rd_T54 t282 x15_6).f1) ((rd_T54 t282 x15_6).f2) ((rd_T54 l0 (wrap64 (x15_6 + 1))).f0) ((rd_T54 l0 (wrap64 (x15_6 + 1))).f1) ((rd_T54 l0 (wrap64 (x15_6 + 1))).f2)).bind fun t296 => (if t296 = true then (wayfinderlaw14_WiresCount.l0 kj31 l0 a1 t282 t290 x13_16 (wrap64 (x15_6 + 1)) t285 t286 t287) else (some false))) else (none)) else (none)) else (none)) else (none)) = some r := by rw [if_pos rfl] at H; exact H
                                      clear H
                                      have H := H1
                                      clear H1
                                      by_cases c36 : 0 ≤ x15_6
                                      · rw [if_pos c36] at H
                                        have c36b0 : decide (0 ≤ x15_6) = true := decide_eq_true c36
                                        clear c36
                                        by_cases c37 : x15_6 < (t282.length : Int)
                                        · rw [if_pos c37] at H
                                          have c37b0 : decide (x15_6 < (t282.length : Int)) = true := decide_eq_true c37
                                          clear c37
                                          obtain ⟨ji38, hji38⟩ : ∃ j_ : Int, (wrap64 (x15_6 + 1)) = j_ := ⟨_, rfl⟩
                                          replace H : (if 0 ≤ (ji38) then (if (ji38) < (l0.length : Int) then ((wayfinderref14_One.f ((rd_T54 t282 x15_6).f0) ((rd_T54 t282 x15_6).f1) ((rd_T54 t282 x15_6).f2) ((rd_T54 l0 (ji38)).f0) ((rd_T54 l0 (ji38)).f1) ((rd_T54 l0 (ji38)).f2)).bind fun t296 => (if t296 = true then (wayfinderlaw14_WiresCount.l0 kj31 l0 a1 t282 t290 x13_16 ji38 t285 t286 t287) else (some false))) else (none)) else (none)) = some r := by first | (rw [hji38] at H; exact H) | (simp only [hji38] at H ⊢; exact H)
                                          have hji38w : (IntKind.i64.wrap (x15_6 + 1)) = ji38 := (i64_w _).trans hji38
                                          by_cases c39 : 0 ≤ (ji38)
                                          · rw [if_pos c39] at H
                                            have c39b0 : decide (0 ≤ (ji38)) = true := decide_eq_true c39
                                            clear c39
                                            by_cases c40 : (ji38) < (l0.length : Int)
                                            · rw [if_pos c40] at H
                                              have c40b0 : decide ((ji38) < (l0.length : Int)) = true := decide_eq_true c40
                                              clear c40
                                              replace H := Option.bind_eq_some_iff.mp H
                                              obtain ⟨t296, A410, H⟩ := H
                                              replace H : (if t296 = true then (wayfinderlaw14_WiresCount.l0 kj31 l0 a1 t282 t290 x13_16 ji38 t285 t286 t287) else (some false)) = some r := H
                                              have A41 := Aside0.mk A410
                                              clear A410
                                              by_cases c42 : t296 = true
                                              · subst c42
                                                have H1 : (wayfinderlaw14_WiresCount.l0 kj31 l0 a1 t282 t290 x13_16 ji38 t285 t286 t287) = some r := by rw [if_pos rfl] at H; exact H
                                                clear H
                                                have H := H1
                                                clear H1
                                                have H' := Aside0.mk H
                                                clear H
                                                try go_wp2
                                                have n0_ := Aside0.mk (Kd.V_drew HO_9.out)
                                                have n1_ := Aside0.mk (Kd.V_drew HO_292002.out)
                                                have n2_ := Aside0.mk (blk_drew BK291.out)
                                                have n3_ := Aside0.mk (below_drew1 HB.out)
                                                clear HO_9
                                                clear HO_292002
                                                clear BK291
                                                clear HB
                                                have HO_9 := n0_
                                                have HO_292002 := n1_
                                                have BK291 := n2_
                                                have HB := n3_
                                                clear n0_ n1_ n2_ n3_
                                                have p294 : 0 ≤ (x15_6 : Int) := of_decide_eq_true (by first | (with_reducible assumption) | assumption)
                                                have q294 : x15_6 < (t282.length : Int) := of_decide_eq_true (by first | (with_reducible assumption) | assumption)
                                                obtain ⟨ad294, A294_2, c294_2, e294, hx294_0, hx294_1, hx294_2, hl294_2, hi294_2⟩ := at_T54 (Kd.V_reads' HO_9.out).2.2 x15_6 p294 q294
                                                cases e294
                                                obtain ⟨ce294, hce294, hMe294, hcc294⟩ := Kd.V_get HO_9.out z54 x15_6 p294 (by first | exact q294 | exact of_decide_eq_true (by first | (with_reducible assumption) | assumption) | (have e_ := (Kd.V_reads' HO_9.out).1; omega))
                                                obtain ⟨ua294_2, uc294_2, rfl, ul294_2, ge294_2⟩ := k54_openF hMe294
                                                have hv294_2 := hcc294 2 _ rfl
                                                rw [add_field _ _ 2 (by omega)] at hv294_2
                                                replace hv294_2 := Option.some.inj (hv294_2.symm.trans hx294_2)
                                                injection hv294_2 with hva_ hvn_ hvc_
                                                rw [hva_] at ge294_2
                                                rw [hvc_] at ul294_2
                                                have HL294_2 := Aside0.mk (show Kd.V (Kd.int .u8) 5 _ w.heap.size _ _ ((rd_T54 t282 x15_6).f2) from Kd.V_mk ul294_2 ge294_2)
                                                clear hva_ hvn_ hvc_ ge294_2 ul294_2
                                                clear hcc294 hce294
                                                have HR294_2 := Aside0.mk hi294_2
                                                have HC294_2 := Aside0.mk hl294_2
                                                clear hi294_2 hl294_2
                                                replace p294 := eq_true p294
                                                replace q294 := eq_true q294
                                                have p295 : 0 ≤ ((ji38) : Int) := of_decide_eq_true (by first | (with_reducible assumption) | assumption)
                                                have q295 : (ji38) < (l0.length : Int) := of_decide_eq_true (by first | (with_reducible assumption) | assumption)
                                                obtain ⟨ad295, A295_2, c295_2, e295, hx295_0, hx295_1, hx295_2, hl295_2, hi295_2⟩ := at_T54 HR0.out (ji38) p295 q295
                                                have hw295_2 := hx295_2
                                                have hw295_1 := hx295_1
                                                have hw295_0 := hx295_0
                                                cases e295
                                                replace hx295_0 := (HB.out.cell (World.block_lt_of_cell? w _ hx295_0)).trans hx295_0
                                                replace hx295_1 := (HB.out.cell (World.block_lt_of_cell? w _ hx295_1)).trans hx295_1
                                                replace hx295_2 := (HB.out.cell (World.block_lt_of_cell? w _ hx295_2)).trans hx295_2
                                                have HR295_2 := Aside0.mk hi295_2
                                                have HC295_2 := Aside0.mk hl295_2
                                                clear hi295_2 hl295_2
                                                replace p295 := eq_true p295
                                                replace q295 := eq_true q295
                                                refine start_ (n := 10) (S := fun w' => w'.cell? (ad294.add ((x15_6).toNat * 3)) = some (.int .i64 ((rd_T54 t282 x15_6).f0)) ∧ w'.cell? ⟨(ad294.add ((x15_6).toNat * 3)).block, (ad294.add ((x15_6).toNat * 3)).off + 1, none⟩ = some (.bool ((rd_T54 t282 x15_6).f1)) ∧ w'.cell? ⟨(ad294.add ((x15_6).toNat * 3)).block, (ad294.add ((x15_6).toNat * 3)).off + 2, none⟩ = some (.slice A294_2 ((rd_T54 t282 x15_6).f2).length c294_2) ∧ w'.cell? (ad295.add (((ji38)).toNat * 3)) = some (.int .i64 ((rd_T54 l0 (ji38)).f0)) ∧ w'.cell? ⟨(ad295.add (((ji38)).toNat * 3)).block, (ad295.add (((ji38)).toNat * 3)).off + 1, none⟩ = some (.bool ((rd_T54 l0 (ji38)).f1)) ∧ w'.cell? ⟨(ad295.add (((ji38)).toNat * 3)).block, (ad295.add (((ji38)).toNat * 3)).off + 2, none⟩ = some (.slice A295_2 ((rd_T54 l0 (ji38)).f2).length c295_2)) (ds := []) #[false, false, false, false, false, false, false, false, false, false] (by kernel_rfl) rfl rfl ⟨hx294_0, hx294_1, hx294_2, ((HB.out.cell (World.block_lt_of_cell? w _ hw295_0)).trans hw295_0), ((HB.out.cell (World.block_lt_of_cell? w _ hw295_1)).trans hw295_1), ((HB.out.cell (World.block_lt_of_cell? w _ hw295_2)).trans hw295_2)⟩ (fun hHeld => ?_); refine with_tabW wayfinderlaw14_WiresCount.tab19 wayfinderlaw14_WiresCount.bits19 (fun HT_ HW_ => ?_)
                                                generalize wc.drew = w43 at HO_9 HO_292002 BK291 HB HL294_2 HR294_2 HR295_2 hx294_0 hx294_1 hx294_2 hx295_0 hx295_1 hx295_2 hHeld ⊢
                                                refine pure_ (i := 0) (N := some 91) (v := ?_) (a' := ?_) #[true, false, false, false, false, false, false, false, false, false] rfl rfl (any_of HT_.out (by kernel_rfl)) (fun _ _ _ h => h) (Or.inl ⟨by rfl, ?_⟩) ?_ ?_
                                                rotate_left
                                                · intro w'
                                                  go_simp
                                                  with_reducible rfl
                                                rotate_left
                                                · simp only [Act.put, List.setIfInBounds_toArray, List.set_cons_zero, List.set_cons_succ, i64_w, i32_w]
                                                  rfl
                                                refine pure_ (i := 1) (N := some 92) (v := ?_) (a' := ?_) #[true, true, false, false, false, false, false, false, false, false] rfl rfl (any_of HT_.out (by kernel_rfl)) (fun _ _ _ h => h) (Or.inl ⟨by rfl, ?_⟩) ?_ ?_
                                                rotate_left
                                                · intro w'
                                                  go_simp
                                                  with_reducible rfl
                                                rotate_left
                                                · simp only [Act.put, List.setIfInBounds_toArray, List.set_cons_zero, List.set_cons_succ, i64_w, i32_w]
                                                  rfl
                                                refine pure_ (i := 2) (N := some 93) (v := ?_) (a' := ?_) #[true, true, true, false, false, false, false, false, false, false] rfl rfl (any_of HT_.out (by kernel_rfl)) (fun _ _ _ h => h) (Or.inl ⟨by rfl, ?_⟩) ?_ ?_
                                                rotate_left
                                                · intro w'
                                                  go_simp
                                                  with_reducible rfl
                                                rotate_left
                                                · simp only [Act.put, List.setIfInBounds_toArray, List.set_cons_zero, List.set_cons_succ, i64_w, i32_w]
                                                  rfl
                                                refine pure_ (i := 4) (N := some 95) (v := ?_) (a' := ?_) #[true, true, true, false, true, false, false, false, false, false] rfl rfl (any_of HT_.out (by kernel_rfl)) (fun _ _ _ h => h) (Or.inl ⟨by rfl, ?_⟩) ?_ ?_
                                                rotate_left
                                                · intro w'
                                                  go_simp
                                                  with_reducible rfl
                                                rotate_left
                                                · simp only [Act.put, List.setIfInBounds_toArray, List.set_cons_zero, List.set_cons_succ, i64_w, i32_w]
                                                  rfl
                                                refine pure_ (i := 5) (N := some 96) (v := ?_) (a' := ?_) #[true, true, true, false, true, true, false, false, false, false] rfl rfl (any_of HT_.out (by kernel_rfl)) (fun _ _ _ h => h) (Or.inl ⟨by rfl, ?_⟩) ?_ ?_
                                                rotate_left
                                                · intro w'
                                                  go_simp
                                                  with_reducible rfl
                                                rotate_left
                                                · simp only [Act.put, List.setIfInBounds_toArray, List.set_cons_zero, List.set_cons_succ, i64_w, i32_w]
                                                  rfl
                                                refine pure_ (i := 6) (N := some 97) (v := ?_) (a' := ?_) #[true, true, true, false, true, true, true, false, false, false] rfl rfl (any_of HT_.out (by kernel_rfl)) (fun _ _ _ h => h) (Or.inl ⟨by rfl, ?_⟩) ?_ ?_
                                                rotate_left
                                                · intro w'
                                                  go_simp
                                                  with_reducible rfl
                                                rotate_left
                                                · simp only [Act.put, List.setIfInBounds_toArray, List.set_cons_zero, List.set_cons_succ, i64_w, i32_w]
                                                  rfl
                                                refine take_ (i := 3) (N := some 94) (v := ?_) (a' := ?_) #[true, true, true, true, true, true, true, false, false, false] rfl rfl (take_ofW HT_.out HW_.out (by kernel_rfl)) (fun _ _ _ h => h) (Or.inl ⟨by rfl, ?_⟩) hHeld ?_ ?_
                                                rotate_left
                                                · rintro w' ⟨s0, s1, s2, s3, s4, s5⟩
                                                  go_simp
                                                  with_reducible rfl
                                                rotate_left
                                                · simp only [Act.put, List.setIfInBounds_toArray, List.set_cons_zero, List.set_cons_succ, i64_w, i32_w]
                                                  rfl
                                                refine take_ (i := 7) (N := some 98) (v := ?_) (a' := ?_) #[true, true, true, true, true, true, true, true, false, false] rfl rfl (take_ofW HT_.out HW_.out (by kernel_rfl)) (fun _ _ _ h => h) (Or.inl ⟨by rfl, ?_⟩) hHeld ?_ ?_
                                                rotate_left
                                                · rintro w' ⟨s0, s1, s2, s3, s4, s5⟩
                                                  go_simp
                                                  with_reducible rfl
                                                rotate_left
                                                · simp only [Act.put, List.setIfInBounds_toArray, List.set_cons_zero, List.set_cons_succ, i64_w, i32_w]
                                                  rfl
                                                refine one_ (i := 8) (N := some 99) #[true, true, true, true, true, true, true, true, true, false] rfl rfl (one_of HT_.out (by kernel_rfl)) (by decide) (fun K hK => ?_)
                                                refine goes_ Try.func30 (by kernel_rfl) rfl #[.agg #[.int .i64 ((rd_T54 t282 x15_6).f0), .bool ((rd_T54 t282 x15_6).f1), .slice A294_2 ((rd_T54 t282 x15_6).f2).length c294_2], .agg #[.int .i64 ((rd_T54 l0 (ji38)).f0), .bool ((rd_T54 l0 (ji38)).f1), .slice A295_2 ((rd_T54 l0 (ji38)).f2).length c295_2]] (by rfl) rfl rfl (by (try simp only [List.map_toArray, List.map_cons, List.map_nil]); first | done | (simp only [hji38]; rfl) | rfl | (simp only [List.length_drop, List.length_take]; rfl)) ?_
                                                with_reducible refine (wayfinderref14_One.calls ((rd_T54 t282 x15_6).f0) ((rd_T54 t282 x15_6).f1) _ _ ((rd_T54 t282 x15_6).f2) ((rd_T54 l0 (ji38)).f0) ((rd_T54 l0 (ji38)).f1) _ _ ((rd_T54 l0 (ji38)).f2) true _ ?side1 ?side2 ?side3 ?side4 A41.out).mono ?_
                                                (case side1 => repeat (first | exact (by repeat (first | (with_reducible exact HR294_2.out) | (with_reducible refine Kd.C_alloc ?_ _) | (with_reducible refine Kd.C_drewN ?_ _) | (with_reducible refine Kd.C_drew ?_) | exact HR294_2.out)) | (with_reducible refine Kd.C_alloc ?_ _) | (with_reducible refine Kd.C_drewN ?_ _) | (with_reducible refine Kd.C_drew ?_)))
                                                (case side2 => exact HC294_2.out)
                                                (case side3 => repeat (first | exact (Kd.C_below HR295_2.out HB.out) | (with_reducible refine Kd.C_alloc ?_ _) | (with_reducible refine Kd.C_drewN ?_ _) | (with_reducible refine Kd.C_drew ?_)))
                                                (case side4 => exact HC295_2.out)
                                                rintro e w44 ⟨rfl, hb⟩
                                                have HS0_ := (hb.cell (World.block_lt_of_cell? _ _ (hHeld.1))).trans (hHeld.1)
                                                have HS1_ := (hb.cell (World.block_lt_of_cell? _ _ (hHeld.2.1))).trans (hHeld.2.1)
                                                have HS2_ := (hb.cell (World.block_lt_of_cell? _ _ (hHeld.2.2.1))).trans (hHeld.2.2.1)
                                                refine ⟨_, rfl, ?_⟩
                                                have n0_ := Aside0.mk (Kd.V_below (by (with_reducible repeat (first | apply Kd.V_alloc | apply Kd.V_drewN | apply Kd.V_drew)); exact HO_9.out) hb)
                                                have n1_ := Aside0.mk (Kd.V_below (by (with_reducible repeat (first | apply Kd.V_alloc | apply Kd.V_drewN | apply Kd.V_drew)); exact HO_292002.out) hb)
                                                have n2_ := Aside0.mk (Kd.V_below (by (with_reducible repeat (first | apply Kd.V_alloc | apply Kd.V_drewN | apply Kd.V_drew)); exact HL294_2.out) hb)
                                                have n3_ := Aside0.mk (blk_below (g := gb291) (o := .cells #[.int .i64 t285, .bool t286, .slice Ao15 t287.length co15] 54 (0, 0)) (by (with_reducible repeat (first | refine blk_drewN ?_ _ | refine blk_drew ?_ | refine blk_alloc ?_ _)); exact BK291.out) hb)
                                                have n4_ := Aside0.mk (Kd.C_below (by repeat (first | (with_reducible exact HR294_2.out) | (with_reducible refine Kd.C_alloc ?_ _) | (with_reducible refine Kd.C_drewN ?_ _) | (with_reducible refine Kd.C_drew ?_) | exact HR294_2.out)) hb)
                                                have n5_ := Aside0.mk (below_step (by repeat (first | (with_reducible first | exact HB.out | apply below_alloc | apply pw_below_drewN | apply below_drew1 | refine below_set ?_ GE291.out) | exact HB.out)) hb)
                                                clear HO_9
                                                clear HO_292002
                                                clear HL294_2
                                                clear BK291
                                                clear HR294_2
                                                clear HB
                                                have HO_9 := n0_
                                                have HO_292002 := n1_
                                                have HL294_2 := n2_
                                                have BK291 := n3_
                                                have HR294_2 := n4_
                                                have HB := n5_
                                                clear n0_ n1_ n2_ n3_ n4_ n5_
                                                (try clear hb)
                                                (try clear hb2)
                                                (try clear hk)
                                                (try clear hi)
                                                refine hK.out _ _ ⟨HS0_, HS1_, HS2_, ((HB.out.cell (World.block_lt_of_cell? w _ hw295_0)).trans hw295_0), ((HB.out.cell (World.block_lt_of_cell? w _ hw295_1)).trans hw295_1), ((HB.out.cell (World.block_lt_of_cell? w _ hw295_2)).trans hw295_2)⟩ (fun hHeld => ?_)
                                                clear hK K
                                                refine norm_ (a' := ?_) ?_ ?_
                                                rotate_left
                                                · show Act.put _ (some 99) _ = _
                                                  simp only [Act.put, List.setIfInBounds_toArray, List.set_cons_zero, List.set_cons_succ, i64_w, i32_w]
                                                  rfl
                                                refine pure_ (i := 9) (N := some 17) (v := ?_) (a' := ?_) #[true, true, true, true, true, true, true, true, true, true] rfl rfl (any_of HT_.out (by kernel_rfl)) (fun _ _ _ h => h) (Or.inl ⟨by rfl, ?_⟩) ?_ ?_
                                                rotate_left
                                                · intro w'
                                                  go_simp
                                                  with_reducible rfl
                                                rotate_left
                                                · simp only [Act.put, List.setIfInBounds_toArray, List.set_cons_zero, List.set_cons_succ, i64_w, i32_w]
                                                  rfl
                                                refine done_ (done_of HT_.out (by kernel_rfl)) ?_
                                                try go_wp2
                                                go_roundg kj31
                                                case measure => have := HJ5.out; have := HJ10.out; have := HJ16.out; have := HJ19.out; have := HJ21.out; have := HK6.out; have := HJ31.out; omega
                                                case rel => exact ⟨(ji38), (by first | rfl | (simp; done) | (simp only [← hji38] <;> (first | rfl | simp)) | (simp [*]; done)), H', ⟨by have := HJ5.out; have := HJ10.out; have := HJ16.out; have := HJ19.out; have := HJ21.out; have := HK6.out; have := HJ31.out; omega⟩, ⟨by (with_reducible repeat (first | apply Kd.V_alloc | apply Kd.V_drewN | apply Kd.V_drew)); exact HO_9.out⟩, ⟨by (with_reducible repeat (first | apply Kd.V_alloc | apply Kd.V_drewN | apply Kd.V_drew)); exact HO_292002.out⟩, ⟨by (with_reducible repeat (first | refine blk_drewN ?_ _ | refine blk_drew ?_ | refine blk_alloc ?_ _)); exact BK291.out⟩, ⟨by repeat (first | (with_reducible first | exact HB.out | apply below_alloc | apply pw_below_drewN | apply below_drew1 | refine below_set ?_ GE291.out) | exact HB.out)⟩⟩
                                              · replace c42 := Bool.eq_false_iff.mpr c42
                                                subst c42
                                                have H1 : (some false) = some r := by rw [if_neg (show ¬ (false = true) by decide)] at H; exact H
                                                clear H
                                                have H := H1
                                                clear H1
                                                obtain rfl := Option.some.inj H
                                                try go_wp2
                                                have n0_ := Aside0.mk (Kd.V_drew HO_9.out)
                                                have n1_ := Aside0.mk (Kd.V_drew HO_292002.out)
                                                have n2_ := Aside0.mk (blk_drew BK291.out)
                                                have n3_ := Aside0.mk (below_drew1 HB.out)
                                                clear HO_9
                                                clear HO_292002
                                                clear BK291
                                                clear HB
                                                have HO_9 := n0_
                                                have HO_292002 := n1_
                                                have BK291 := n2_
                                                have HB := n3_
                                                clear n0_ n1_ n2_ n3_
                                                have p294 : 0 ≤ (x15_6 : Int) := of_decide_eq_true (by first | (with_reducible assumption) | assumption)
                                                have q294 : x15_6 < (t282.length : Int) := of_decide_eq_true (by first | (with_reducible assumption) | assumption)
                                                obtain ⟨ad294, A294_2, c294_2, e294, hx294_0, hx294_1, hx294_2, hl294_2, hi294_2⟩ := at_T54 (Kd.V_reads' HO_9.out).2.2 x15_6 p294 q294
                                                cases e294
                                                obtain ⟨ce294, hce294, hMe294, hcc294⟩ := Kd.V_get HO_9.out z54 x15_6 p294 (by first | exact q294 | exact of_decide_eq_true (by first | (with_reducible assumption) | assumption) | (have e_ := (Kd.V_reads' HO_9.out).1; omega))
                                                obtain ⟨ua294_2, uc294_2, rfl, ul294_2, ge294_2⟩ := k54_openF hMe294
                                                have hv294_2 := hcc294 2 _ rfl
                                                rw [add_field _ _ 2 (by omega)] at hv294_2
                                                replace hv294_2 := Option.some.inj (hv294_2.symm.trans hx294_2)
                                                injection hv294_2 with hva_ hvn_ hvc_
                                                rw [hva_] at ge294_2
                                                rw [hvc_] at ul294_2
                                                have HL294_2 := Aside0.mk (show Kd.V (Kd.int .u8) 5 _ w.heap.size _ _ ((rd_T54 t282 x15_6).f2) from Kd.V_mk ul294_2 ge294_2)
                                                clear hva_ hvn_ hvc_ ge294_2 ul294_2
                                                clear hcc294 hce294
                                                have HR294_2 := Aside0.mk hi294_2
                                                have HC294_2 := Aside0.mk hl294_2
                                                clear hi294_2 hl294_2
                                                replace p294 := eq_true p294
                                                replace q294 := eq_true q294
                                                have p295 : 0 ≤ ((ji38) : Int) := of_decide_eq_true (by first | (with_reducible assumption) | assumption)
                                                have q295 : (ji38) < (l0.length : Int) := of_decide_eq_true (by first | (with_reducible assumption) | assumption)
                                                obtain ⟨ad295, A295_2, c295_2, e295, hx295_0, hx295_1, hx295_2, hl295_2, hi295_2⟩ := at_T54 HR0.out (ji38) p295 q295
                                                have hw295_2 := hx295_2
                                                have hw295_1 := hx295_1
                                                have hw295_0 := hx295_0
                                                cases e295
                                                replace hx295_0 := (HB.out.cell (World.block_lt_of_cell? w _ hx295_0)).trans hx295_0
                                                replace hx295_1 := (HB.out.cell (World.block_lt_of_cell? w _ hx295_1)).trans hx295_1
                                                replace hx295_2 := (HB.out.cell (World.block_lt_of_cell? w _ hx295_2)).trans hx295_2
                                                have HR295_2 := Aside0.mk hi295_2
                                                have HC295_2 := Aside0.mk hl295_2
                                                clear hi295_2 hl295_2
                                                replace p295 := eq_true p295
                                                replace q295 := eq_true q295
                                                refine start_ (n := 10) (S := fun w' => w'.cell? (ad294.add ((x15_6).toNat * 3)) = some (.int .i64 ((rd_T54 t282 x15_6).f0)) ∧ w'.cell? ⟨(ad294.add ((x15_6).toNat * 3)).block, (ad294.add ((x15_6).toNat * 3)).off + 1, none⟩ = some (.bool ((rd_T54 t282 x15_6).f1)) ∧ w'.cell? ⟨(ad294.add ((x15_6).toNat * 3)).block, (ad294.add ((x15_6).toNat * 3)).off + 2, none⟩ = some (.slice A294_2 ((rd_T54 t282 x15_6).f2).length c294_2) ∧ w'.cell? (ad295.add (((ji38)).toNat * 3)) = some (.int .i64 ((rd_T54 l0 (ji38)).f0)) ∧ w'.cell? ⟨(ad295.add (((ji38)).toNat * 3)).block, (ad295.add (((ji38)).toNat * 3)).off + 1, none⟩ = some (.bool ((rd_T54 l0 (ji38)).f1)) ∧ w'.cell? ⟨(ad295.add (((ji38)).toNat * 3)).block, (ad295.add (((ji38)).toNat * 3)).off + 2, none⟩ = some (.slice A295_2 ((rd_T54 l0 (ji38)).f2).length c295_2)) (ds := []) #[false, false, false, false, false, false, false, false, false, false] (by kernel_rfl) rfl rfl ⟨hx294_0, hx294_1, hx294_2, ((HB.out.cell (World.block_lt_of_cell? w _ hw295_0)).trans hw295_0), ((HB.out.cell (World.block_lt_of_cell? w _ hw295_1)).trans hw295_1), ((HB.out.cell (World.block_lt_of_cell? w _ hw295_2)).trans hw295_2)⟩ (fun hHeld => ?_); refine with_tabW wayfinderlaw14_WiresCount.tab19 wayfinderlaw14_WiresCount.bits19 (fun HT_ HW_ => ?_)
                                                generalize wc.drew = w45 at HO_9 HO_292002 BK291 HB HL294_2 HR294_2 HR295_2 hx294_0 hx294_1 hx294_2 hx295_0 hx295_1 hx295_2 hHeld ⊢
                                                refine pure_ (i := 0) (N := some 91) (v := ?_) (a' := ?_) #[true, false, false, false, false, false, false, false, false, false] rfl rfl (any_of HT_.out (by kernel_rfl)) (fun _ _ _ h => h) (Or.inl ⟨by rfl, ?_⟩) ?_ ?_
                                                rotate_left
                                                · intro w'
                                                  go_simp
                                                  with_reducible rfl
                                                rotate_left
                                                · simp only [Act.put, List.setIfInBounds_toArray, List.set_cons_zero, List.set_cons_succ, i64_w, i32_w]
                                                  rfl
                                                refine pure_ (i := 1) (N := some 92) (v := ?_) (a' := ?_) #[true, true, false, false, false, false, false, false, false, false] rfl rfl (any_of HT_.out (by kernel_rfl)) (fun _ _ _ h => h) (Or.inl ⟨by rfl, ?_⟩) ?_ ?_
                                                rotate_left
                                                · intro w'
                                                  go_simp
                                                  with_reducible rfl
                                                rotate_left
                                                · simp only [Act.put, List.setIfInBounds_toArray, List.set_cons_zero, List.set_cons_succ, i64_w, i32_w]
                                                  rfl
                                                refine pure_ (i := 2) (N := some 93) (v := ?_) (a' := ?_) #[true, true, true, false, false, false, false, false, false, false] rfl rfl (any_of HT_.out (by kernel_rfl)) (fun _ _ _ h => h) (Or.inl ⟨by rfl, ?_⟩) ?_ ?_
                                                rotate_left
                                                · intro w'
                                                  go_simp
                                                  with_reducible rfl
                                                rotate_left
                                                · simp only [Act.put, List.setIfInBounds_toArray, List.set_cons_zero, List.set_cons_succ, i64_w, i32_w]
                                                  rfl
                                                refine pure_ (i := 4) (N := some 95) (v := ?_) (a' := ?_) #[true, true, true, false, true, false, false, false, false, false] rfl rfl (any_of HT_.out (by kernel_rfl)) (fun _ _ _ h => h) (Or.inl ⟨by rfl, ?_⟩) ?_ ?_
                                                rotate_left
                                                · intro w'
                                                  go_simp
                                                  with_reducible rfl
                                                rotate_left
                                                · simp only [Act.put, List.setIfInBounds_toArray, List.set_cons_zero, List.set_cons_succ, i64_w, i32_w]
                                                  rfl
                                                refine pure_ (i := 5) (N := some 96) (v := ?_) (a' := ?_) #[true, true, true, false, true, true, false, false, false, false] rfl rfl (any_of HT_.out (by kernel_rfl)) (fun _ _ _ h => h) (Or.inl ⟨by rfl, ?_⟩) ?_ ?_
                                                rotate_left
                                                · intro w'
                                                  go_simp
                                                  with_reducible rfl
                                                rotate_left
                                                · simp only [Act.put, List.setIfInBounds_toArray, List.set_cons_zero, List.set_cons_succ, i64_w, i32_w]
                                                  rfl
                                                refine pure_ (i := 6) (N := some 97) (v := ?_) (a' := ?_) #[true, true, true, false, true, true, true, false, false, false] rfl rfl (any_of HT_.out (by kernel_rfl)) (fun _ _ _ h => h) (Or.inl ⟨by rfl, ?_⟩) ?_ ?_
                                                rotate_left
                                                · intro w'
                                                  go_simp
                                                  with_reducible rfl
                                                rotate_left
                                                · simp only [Act.put, List.setIfInBounds_toArray, List.set_cons_zero, List.set_cons_succ, i64_w, i32_w]
                                                  rfl
                                                refine take_ (i := 3) (N := some 94) (v := ?_) (a' := ?_) #[true, true, true, true, true, true, true, false, false, false] rfl rfl (take_ofW HT_.out HW_.out (by kernel_rfl)) (fun _ _ _ h => h) (Or.inl ⟨by rfl, ?_⟩) hHeld ?_ ?_
                                                rotate_left
                                                · rintro w' ⟨s0, s1, s2, s3, s4, s5⟩
                                                  go_simp
                                                  with_reducible rfl
                                                rotate_left
                                                · simp only [Act.put, List.setIfInBounds_toArray, List.set_cons_zero, List.set_cons_succ, i64_w, i32_w]
                                                  rfl
                                                refine take_ (i := 7) (N := some 98) (v := ?_) (a' := ?_) #[true, true, true, true, true, true, true, true, false, false] rfl rfl (take_ofW HT_.out HW_.out (by kernel_rfl)) (fun _ _ _ h => h) (Or.inl ⟨by rfl, ?_⟩) hHeld ?_ ?_
                                                rotate_left
                                                · rintro w' ⟨s0, s1, s2, s3, s4, s5⟩
                                                  go_simp
                                                  with_reducible rfl
                                                rotate_left
                                                · simp only [Act.put, List.setIfInBounds_toArray, List.set_cons_zero, List.set_cons_succ, i64_w, i32_w]
                                                  rfl
                                                refine one_ (i := 8) (N := some 99) #[true, true, true, true, true, true, true, true, true, false] rfl rfl (one_of HT_.out (by kernel_rfl)) (by decide) (fun K hK => ?_)
                                                refine goes_ Try.func30 (by kernel_rfl) rfl #[.agg #[.int .i64 ((rd_T54 t282 x15_6).f0), .bool ((rd_T54 t282 x15_6).f1), .slice A294_2 ((rd_T54 t282 x15_6).f2).length c294_2], .agg #[.int .i64 ((rd_T54 l0 (ji38)).f0), .bool ((rd_T54 l0 (ji38)).f1), .slice A295_2 ((rd_T54 l0 (ji38)).f2).length c295_2]] (by rfl) rfl rfl (by (try simp only [List.map_toArray, List.map_cons, List.map_nil]); first | done | (simp only [hji38]; rfl) | rfl | (simp only [List.length_drop, List.length_take]; rfl)) ?_
                                                with_reducible refine (wayfinderref14_One.calls ((rd_T54 t282 x15_6).f0) ((rd_T54 t282 x15_6).f1) _ _ ((rd_T54 t282 x15_6).f2) ((rd_T54 l0 (ji38)).f0) ((rd_T54 l0 (ji38)).f1) _ _ ((rd_T54 l0 (ji38)).f2) false _ ?side1 ?side2 ?side3 ?side4 A41.out).mono ?_
                                                (case side1 => repeat (first | exact (by repeat (first | (with_reducible exact HR294_2.out) | (with_reducible refine Kd.C_alloc ?_ _) | (with_reducible refine Kd.C_drewN ?_ _) | (with_reducible refine Kd.C_drew ?_) | exact HR294_2.out)) | (with_reducible refine Kd.C_alloc ?_ _) | (with_reducible refine Kd.C_drewN ?_ _) | (with_reducible refine Kd.C_drew ?_)))
                                                (case side2 => exact HC294_2.out)
                                                (case side3 => repeat (first | exact (Kd.C_below HR295_2.out HB.out) | (with_reducible refine Kd.C_alloc ?_ _) | (with_reducible refine Kd.C_drewN ?_ _) | (with_reducible refine Kd.C_drew ?_)))
                                                (case side4 => exact HC295_2.out)
                                                rintro e w46 ⟨rfl, hb⟩
                                                have HS0_ := (hb.cell (World.block_lt_of_cell? _ _ (hHeld.1))).trans (hHeld.1)
                                                have HS1_ := (hb.cell (World.block_lt_of_cell? _ _ (hHeld.2.1))).trans (hHeld.2.1)
                                                have HS2_ := (hb.cell (World.block_lt_of_cell? _ _ (hHeld.2.2.1))).trans (hHeld.2.2.1)
                                                refine ⟨_, rfl, ?_⟩
                                                have n0_ := Aside0.mk (Kd.V_below (by (with_reducible repeat (first | apply Kd.V_alloc | apply Kd.V_drewN | apply Kd.V_drew)); exact HO_9.out) hb)
                                                have n1_ := Aside0.mk (Kd.V_below (by (with_reducible repeat (first | apply Kd.V_alloc | apply Kd.V_drewN | apply Kd.V_drew)); exact HO_292002.out) hb)
                                                have n2_ := Aside0.mk (Kd.V_below (by (with_reducible repeat (first | apply Kd.V_alloc | apply Kd.V_drewN | apply Kd.V_drew)); exact HL294_2.out) hb)
                                                have n3_ := Aside0.mk (blk_below (g := gb291) (o := .cells #[.int .i64 t285, .bool t286, .slice Ao15 t287.length co15] 54 (0, 0)) (by (with_reducible repeat (first | refine blk_drewN ?_ _ | refine blk_drew ?_ | refine blk_alloc ?_ _)); exact BK291.out) hb)
                                                have n4_ := Aside0.mk (Kd.C_below (by repeat (first | (with_reducible exact HR294_2.out) | (with_reducible refine Kd.C_alloc ?_ _) | (with_reducible refine Kd.C_drewN ?_ _) | (with_reducible refine Kd.C_drew ?_) | exact HR294_2.out)) hb)
                                                have n5_ := Aside0.mk (below_step (by repeat (first | (with_reducible first | exact HB.out | apply below_alloc | apply pw_below_drewN | apply below_drew1 | refine below_set ?_ GE291.out) | exact HB.out)) hb)
                                                clear HO_9
                                                clear HO_292002
                                                clear HL294_2
                                                clear BK291
                                                clear HR294_2
                                                clear HB
                                                have HO_9 := n0_
                                                have HO_292002 := n1_
                                                have HL294_2 := n2_
                                                have BK291 := n3_
                                                have HR294_2 := n4_
                                                have HB := n5_
                                                clear n0_ n1_ n2_ n3_ n4_ n5_
                                                (try clear hb)
                                                (try clear hb2)
                                                (try clear hk)
                                                (try clear hi)
                                                refine hK.out _ _ ⟨HS0_, HS1_, HS2_, ((HB.out.cell (World.block_lt_of_cell? w _ hw295_0)).trans hw295_0), ((HB.out.cell (World.block_lt_of_cell? w _ hw295_1)).trans hw295_1), ((HB.out.cell (World.block_lt_of_cell? w _ hw295_2)).trans hw295_2)⟩ (fun hHeld => ?_)
                                                clear hK K
                                                refine norm_ (a' := ?_) ?_ ?_
                                                rotate_left
                                                · show Act.put _ (some 99) _ = _
                                                  simp only [Act.put, List.setIfInBounds_toArray, List.set_cons_zero, List.set_cons_succ, i64_w, i32_w]
                                                  rfl
                                                refine pure_ (i := 9) (N := some 17) (v := ?_) (a' := ?_) #[true, true, true, true, true, true, true, true, true, true] rfl rfl (any_of HT_.out (by kernel_rfl)) (fun _ _ _ h => h) (Or.inl ⟨by rfl, ?_⟩) ?_ ?_
                                                rotate_left
                                                · intro w'
                                                  go_simp
                                                  with_reducible rfl
                                                rotate_left
                                                · simp only [Act.put, List.setIfInBounds_toArray, List.set_cons_zero, List.set_cons_succ, i64_w, i32_w]
                                                  rfl
                                                refine done_ (done_of HT_.out (by kernel_rfl)) ?_
                                                try go_wp2
                                                go_ret
                                                exact ⟨by first | rfl | (simp [errW_none, errW_some] <;> rfl) | (simp only [← hji38]; first | rfl | (simp [errW_none, errW_some] <;> rfl)) | (simp [*, errW_none, errW_some] <;> rfl), by repeat (first | (with_reducible first | exact HB.out | apply below_alloc | apply pw_below_drewN | apply below_drew1 | refine below_set ?_ GE291.out) | exact HB.out)⟩
                                            · rw [if_neg c40] at H
                                              exact absurd H (by simp)
                                          · rw [if_neg c39] at H
                                            exact absurd H (by simp)
                                        · rw [if_neg c37] at H
                                          exact absurd H (by simp)
                                      · rw [if_neg c36] at H
                                        exact absurd H (by simp)
                                    · replace c35 := Bool.eq_false_iff.mpr c35
                                      subst c35
                                      have H1 : (if 0 ≤ x15_6 then (if x15_6 < (t282.length : Int) then (if 0 ≤ x15_6 then (if x15_6 < (l0.length : Int) then ((wayfinderref14_One.f ((rd_T54 t282 x15_6).f0) ((rd_T54 t282 x15_6).f1) ((rd_T54 t282 x15_6).f2) ((rd_T54 l0 x15_6).f0) ((rd_T54 l0 x15_6).f1) ((rd_T54 l0 x15_6).f2)).bind fun t299 => (if t299 = true then (wayfinderlaw14_WiresCount.l0 kj31 l0 a1 t282 t290 x13_16 (wrap64 (x15_6 + 1)) t285 t286 t287) else (some false))) else (none)) else (none)) else (none)) else (none)) = some r := by rw [if_neg (show ¬ (false = true) by decide)] at H; exact H
                                      clear H
                                      have H := H1
                                      clear H1
                                      by_cases c47 : 0 ≤ x15_6
                                      · rw [if_pos c47] at H
                                        have c47b0 : decide (0 ≤ x15_6) = true := decide_eq_true c47
                                        clear c47
                                        by_cases c48 : x15_6 < (t282.length : Int)
                                        · rw [if_pos c48] at H
                                          have c48b0 : decide (x15_6 < (t282.length : Int)) = true := decide_eq_true c48
                                          clear c48
                                          by_cases c49 : 0 ≤ x15_6
                                          · rw [if_pos c49] at H
                                            have c49b0 : decide (0 ≤ x15_6) = true := decide_eq_true c49
                                            clear c49
                                            by_cases c50 : x15_6 < (l0.length : Int)
                                            · rw [if_pos c50] at H
                                              have c50b0 : decide (x15_6 < (l0.length : Int)) = true := decide_eq_true c50
                                              clear c50
                                              replace H := Option.bind_eq_some_iff.mp H
                                              obtain ⟨t299, A510, H⟩ := H
                                              replace H : (if t299 = true then (wayfinderlaw14_WiresCount.l0 kj31 l0 a1 t282 t290 x13_16 (wrap64 (x15_6 + 1)) t285 t286 t287) else (some false)) = some r := H
                                              have A51 := Aside0.mk A510
                                              clear A510
                                              by_cases c52 : t299 = true
                                              · subst c52
                                                have H1 : (wayfinderlaw14_WiresCount.l0 kj31 l0 a1 t282 t290 x13_16 (wrap64 (x15_6 + 1)) t285 t286 t287) = some r := by rw [if_pos rfl] at H; exact H
                                                clear H
                                                have H := H1
                                                clear H1
                                                have H' := Aside0.mk H
                                                clear H
                                                try go_wp2
                                                have n0_ := Aside0.mk (Kd.V_drew HO_9.out)
                                                have n1_ := Aside0.mk (Kd.V_drew HO_292002.out)
                                                have n2_ := Aside0.mk (blk_drew BK291.out)
                                                have n3_ := Aside0.mk (below_drew1 HB.out)
                                                clear HO_9
                                                clear HO_292002
                                                clear BK291
                                                clear HB
                                                have HO_9 := n0_
                                                have HO_292002 := n1_
                                                have BK291 := n2_
                                                have HB := n3_
                                                clear n0_ n1_ n2_ n3_
                                                have p297 : 0 ≤ (x15_6 : Int) := of_decide_eq_true (by first | (with_reducible assumption) | assumption)
                                                have q297 : x15_6 < (t282.length : Int) := of_decide_eq_true (by first | (with_reducible assumption) | assumption)
                                                obtain ⟨ad297, A297_2, c297_2, e297, hx297_0, hx297_1, hx297_2, hl297_2, hi297_2⟩ := at_T54 (Kd.V_reads' HO_9.out).2.2 x15_6 p297 q297
                                                cases e297
                                                obtain ⟨ce297, hce297, hMe297, hcc297⟩ := Kd.V_get HO_9.out z54 x15_6 p297 (by first | exact q297 | exact of_decide_eq_true (by first | (with_reducible assumption) | assumption) | (have e_ := (Kd.V_reads' HO_9.out).1; omega))
                                                obtain ⟨ua297_2, uc297_2, rfl, ul297_2, ge297_2⟩ := k54_openF hMe297
                                                have hv297_2 := hcc297 2 _ rfl
                                                rw [add_field _ _ 2 (by omega)] at hv297_2
                                                replace hv297_2 := Option.some.inj (hv297_2.symm.trans hx297_2)
                                                injection hv297_2 with hva_ hvn_ hvc_
                                                rw [hva_] at ge297_2
                                                rw [hvc_] at ul297_2
                                                have HL297_2 := Aside0.mk (show Kd.V (Kd.int .u8) 5 _ w.heap.size _ _ ((rd_T54 t282 x15_6).f2) from Kd.V_mk ul297_2 ge297_2)
                                                clear hva_ hvn_ hvc_ ge297_2 ul297_2
                                                clear hcc297 hce297
                                                have HR297_2 := Aside0.mk hi297_2
                                                have HC297_2 := Aside0.mk hl297_2
                                                clear hi297_2 hl297_2
                                                replace p297 := eq_true p297
                                                replace q297 := eq_true q297
                                                have p298 : 0 ≤ (x15_6 : Int) := of_decide_eq_true (by first | (with_reducible assumption) | assumption)
                                                have q298 : x15_6 < (l0.length : Int) := of_decide_eq_true (by first | (with_reducible assumption) | assumption)
                                                obtain ⟨ad298, A298_2, c298_2, e298, hx298_0, hx298_1, hx298_2, hl298_2, hi298_2⟩ := at_T54 HR0.out x15_6 p298 q298
                                                have hw298_2 := hx298_2
                                                have hw298_1 := hx298_1
                                                have hw298_0 := hx298_0
                                                cases e298
                                                replace hx298_0 := (HB.out.cell (World.block_lt_of_cell? w _ hx298_0)).trans hx298_0
                                                replace hx298_1 := (HB.out.cell (World.block_lt_of_cell? w _ hx298_1)).trans hx298_1
                                                replace hx298_2 := (HB.out.cell (World.block_lt_of_cell? w _ hx298_2)).trans hx298_2
                                                have HR298_2 := Aside0.mk hi298_2
                                                have HC298_2 := Aside0.mk hl298_2
                                                clear hi298_2 hl298_2
                                                replace p298 := eq_true p298
                                                replace q298 := eq_true q298
                                                refine start_ (n := 10) (S := fun w' => w'.cell? (ad297.add ((x15_6).toNat * 3)) = some (.int .i64 ((rd_T54 t282 x15_6).f0)) ∧ w'.cell? ⟨(ad297.add ((x15_6).toNat * 3)).block, (ad297.add ((x15_6).toNat * 3)).off + 1, none⟩ = some (.bool ((rd_T54 t282 x15_6).f1)) ∧ w'.cell? ⟨(ad297.add ((x15_6).toNat * 3)).block, (ad297.add ((x15_6).toNat * 3)).off + 2, none⟩ = some (.slice A297_2 ((rd_T54 t282 x15_6).f2).length c297_2) ∧ w'.cell? (ad298.add ((x15_6).toNat * 3)) = some (.int .i64 ((rd_T54 l0 x15_6).f0)) ∧ w'.cell? ⟨(ad298.add ((x15_6).toNat * 3)).block, (ad298.add ((x15_6).toNat * 3)).off + 1, none⟩ = some (.bool ((rd_T54 l0 x15_6).f1)) ∧ w'.cell? ⟨(ad298.add ((x15_6).toNat * 3)).block, (ad298.add ((x15_6).toNat * 3)).off + 2, none⟩ = some (.slice A298_2 ((rd_T54 l0 x15_6).f2).length c298_2)) (ds := []) #[false, false, false, false, false, false, false, false, false, false] (by kernel_rfl) rfl rfl ⟨hx297_0, hx297_1, hx297_2, ((HB.out.cell (World.block_lt_of_cell? w _ hw298_0)).trans hw298_0), ((HB.out.cell (World.block_lt_of_cell? w _ hw298_1)).trans hw298_1), ((HB.out.cell (World.block_lt_of_cell? w _ hw298_2)).trans hw298_2)⟩ (fun hHeld => ?_); refine with_tabW wayfinderlaw14_WiresCount.tab19 wayfinderlaw14_WiresCount.bits19 (fun HT_ HW_ => ?_)
                                                generalize wc.drew = w53 at HO_9 HO_292002 BK291 HB HL297_2 HR297_2 HR298_2 hx297_0 hx297_1 hx297_2 hx298_0 hx298_1 hx298_2 hHeld ⊢
                                                refine pure_ (i := 0) (N := some 91) (v := ?_) (a' := ?_) #[true, false, false, false, false, false, false, false, false, false] rfl rfl (any_of HT_.out (by kernel_rfl)) (fun _ _ _ h => h) (Or.inl ⟨by rfl, ?_⟩) ?_ ?_
                                                rotate_left
                                                · intro w'
                                                  go_simp
                                                  with_reducible rfl
                                                rotate_left
                                                · simp only [Act.put, List.setIfInBounds_toArray, List.set_cons_zero, List.set_cons_succ, i64_w, i32_w]
                                                  rfl
                                                refine pure_ (i := 1) (N := some 92) (v := ?_) (a' := ?_) #[true, true, false, false, false, false, false, false, false, false] rfl rfl (any_of HT_.out (by kernel_rfl)) (fun _ _ _ h => h) (Or.inl ⟨by rfl, ?_⟩) ?_ ?_
                                                rotate_left
                                                · intro w'
                                                  go_simp
                                                  with_reducible rfl
                                                rotate_left
                                                · simp only [Act.put, List.setIfInBounds_toArray, List.set_cons_zero, List.set_cons_succ, i64_w, i32_w]
                                                  rfl
                                                refine pure_ (i := 2) (N := some 93) (v := ?_) (a' := ?_) #[true, true, true, false, false, false, false, false, false, false] rfl rfl (any_of HT_.out (by kernel_rfl)) (fun _ _ _ h => h) (Or.inl ⟨by rfl, ?_⟩) ?_ ?_
                                                rotate_left
                                                · intro w'
                                                  go_simp
                                                  with_reducible rfl
                                                rotate_left
                                                · simp only [Act.put, List.setIfInBounds_toArray, List.set_cons_zero, List.set_cons_succ, i64_w, i32_w]
                                                  rfl
                                                refine pure_ (i := 4) (N := some 95) (v := ?_) (a' := ?_) #[true, true, true, false, true, false, false, false, false, false] rfl rfl (any_of HT_.out (by kernel_rfl)) (fun _ _ _ h => h) (Or.inl ⟨by rfl, ?_⟩) ?_ ?_
                                                rotate_left
                                                · intro w'
                                                  go_simp
                                                  with_reducible rfl
                                                rotate_left
                                                · simp only [Act.put, List.setIfInBounds_toArray, List.set_cons_zero, List.set_cons_succ, i64_w, i32_w]
                                                  rfl
                                                refine pure_ (i := 5) (N := some 96) (v := ?_) (a' := ?_) #[true, true, true, false, true, true, false, false, false, false] rfl rfl (any_of HT_.out (by kernel_rfl)) (fun _ _ _ h => h) (Or.inl ⟨by rfl, ?_⟩) ?_ ?_
                                                rotate_left
                                                · intro w'
                                                  go_simp
                                                  with_reducible rfl
                                                rotate_left
                                                · simp only [Act.put, List.setIfInBounds_toArray, List.set_cons_zero, List.set_cons_succ, i64_w, i32_w]
                                                  rfl
                                                refine pure_ (i := 6) (N := some 97) (v := ?_) (a' := ?_) #[true, true, true, false, true, true, true, false, false, false] rfl rfl (any_of HT_.out (by kernel_rfl)) (fun _ _ _ h => h) (Or.inl ⟨by rfl, ?_⟩) ?_ ?_
                                                rotate_left
                                                · intro w'
                                                  go_simp
                                                  with_reducible rfl
                                                rotate_left
                                                · simp only [Act.put, List.setIfInBounds_toArray, List.set_cons_zero, List.set_cons_succ, i64_w, i32_w]
                                                  rfl
                                                refine take_ (i := 3) (N := some 94) (v := ?_) (a' := ?_) #[true, true, true, true, true, true, true, false, false, false] rfl rfl (take_ofW HT_.out HW_.out (by kernel_rfl)) (fun _ _ _ h => h) (Or.inl ⟨by rfl, ?_⟩) hHeld ?_ ?_
                                                rotate_left
                                                · rintro w' ⟨s0, s1, s2, s3, s4, s5⟩
                                                  go_simp
                                                  with_reducible rfl
                                                rotate_left
                                                · simp only [Act.put, List.setIfInBounds_toArray, List.set_cons_zero, List.set_cons_succ, i64_w, i32_w]
                                                  rfl
                                                refine take_ (i := 7) (N := some 98) (v := ?_) (a' := ?_) #[true, true, true, true, true, true, true, true, false, false] rfl rfl (take_ofW HT_.out HW_.out (by kernel_rfl)) (fun _ _ _ h => h) (Or.inl ⟨by rfl, ?_⟩) hHeld ?_ ?_
                                                rotate_left
                                                · rintro w' ⟨s0, s1, s2, s3, s4, s5⟩
                                                  go_simp
                                                  with_reducible rfl
                                                rotate_left
                                                · simp only [Act.put, List.setIfInBounds_toArray, List.set_cons_zero, List.set_cons_succ, i64_w, i32_w]
                                                  rfl
                                                refine one_ (i := 8) (N := some 99) #[true, true, true, true, true, true, true, true, true, false] rfl rfl (one_of HT_.out (by kernel_rfl)) (by decide) (fun K hK => ?_)
                                                refine goes_ Try.func30 (by kernel_rfl) rfl #[.agg #[.int .i64 ((rd_T54 t282 x15_6).f0), .bool ((rd_T54 t282 x15_6).f1), .slice A297_2 ((rd_T54 t282 x15_6).f2).length c297_2], .agg #[.int .i64 ((rd_T54 l0 x15_6).f0), .bool ((rd_T54 l0 x15_6).f1), .slice A298_2 ((rd_T54 l0 x15_6).f2).length c298_2]] (by rfl) rfl rfl (by (try simp only [List.map_toArray, List.map_cons, List.map_nil]); first | done | rfl | (simp only [List.length_drop, List.length_take]; rfl)) ?_
                                                with_reducible refine (wayfinderref14_One.calls ((rd_T54 t282 x15_6).f0) ((rd_T54 t282 x15_6).f1) _ _ ((rd_T54 t282 x15_6).f2) ((rd_T54 l0 x15_6).f0) ((rd_T54 l0 x15_6).f1) _ _ ((rd_T54 l0 x15_6).f2) true _ ?side1 ?side2 ?side3 ?side4 A51.out).mono ?_
                                                (case side1 => repeat (first | exact (by repeat (first | (with_reducible exact HR297_2.out) | (with_reducible refine Kd.C_alloc ?_ _) | (with_reducible refine Kd.C_drewN ?_ _) | (with_reducible refine Kd.C_drew ?_) | exact HR297_2.out)) | (with_reducible refine Kd.C_alloc ?_ _) | (with_reducible refine Kd.C_drewN ?_ _) | (with_reducible refine Kd.C_drew ?_)))
                                                (case side2 => exact HC297_2.out)
                                                (case side3 => repeat (first | exact (Kd.C_below HR298_2.out HB.out) | (with_reducible refine Kd.C_alloc ?_ _) | (with_reducible refine Kd.C_drewN ?_ _) | (with_reducible refine Kd.C_drew ?_)))
                                                (case side4 => exact HC298_2.out)
                                                rintro e w54 ⟨rfl, hb⟩
                                                have HS0_ := (hb.cell (World.block_lt_of_cell? _ _ (hHeld.1))).trans (hHeld.1)
                                                have HS1_ := (hb.cell (World.block_lt_of_cell? _ _ (hHeld.2.1))).trans (hHeld.2.1)
                                                have HS2_ := (hb.cell (World.block_lt_of_cell? _ _ (hHeld.2.2.1))).trans (hHeld.2.2.1)
                                                refine ⟨_, rfl, ?_⟩
                                                have n0_ := Aside0.mk (Kd.V_below (by (with_reducible repeat (first | apply Kd.V_alloc | apply Kd.V_drewN | apply Kd.V_drew)); exact HO_9.out) hb)
                                                have n1_ := Aside0.mk (Kd.V_below (by (with_reducible repeat (first | apply Kd.V_alloc | apply Kd.V_drewN | apply Kd.V_drew)); exact HO_292002.out) hb)
                                                have n2_ := Aside0.mk (Kd.V_below (by (with_reducible repeat (first | apply Kd.V_alloc | apply Kd.V_drewN | apply Kd.V_drew)); exact HL297_2.out) hb)
                                                have n3_ := Aside0.mk (blk_below (g := gb291) (o := .cells #[.int .i64 t285, .bool t286, .slice Ao15 t287.length co15] 54 (0, 0)) (by (with_reducible repeat (first | refine blk_drewN ?_ _ | refine blk_drew ?_ | refine blk_alloc ?_ _)); exact BK291.out) hb)
                                                have n4_ := Aside0.mk (Kd.C_below (by repeat (first | (with_reducible exact HR297_2.out) | (with_reducible refine Kd.C_alloc ?_ _) | (with_reducible refine Kd.C_drewN ?_ _) | (with_reducible refine Kd.C_drew ?_) | exact HR297_2.out)) hb)
                                                have n5_ := Aside0.mk (below_step (by repeat (first | (with_reducible first | exact HB.out | apply below_alloc | apply pw_below_drewN | apply below_drew1 | refine below_set ?_ GE291.out) | exact HB.out)) hb)
                                                clear HO_9
                                                clear HO_292002
                                                clear HL297_2
                                                clear BK291
                                                clear HR297_2
                                                clear HB
                                                have HO_9 := n0_
                                                have HO_292002 := n1_
                                                have HL297_2 := n2_
                                                have BK291 := n3_
                                                have HR297_2 := n4_
                                                have HB := n5_
                                                clear n0_ n1_ n2_ n3_ n4_ n5_
                                                (try clear hb)
                                                (try clear hb2)
                                                (try clear hk)
                                                (try clear hi)
                                                refine hK.out _ _ ⟨HS0_, HS1_, HS2_, ((HB.out.cell (World.block_lt_of_cell? w _ hw298_0)).trans hw298_0), ((HB.out.cell (World.block_lt_of_cell? w _ hw298_1)).trans hw298_1), ((HB.out.cell (World.block_lt_of_cell? w _ hw298_2)).trans hw298_2)⟩ (fun hHeld => ?_)
                                                clear hK K
                                                refine norm_ (a' := ?_) ?_ ?_
                                                rotate_left
                                                · show Act.put _ (some 99) _ = _
                                                  simp only [Act.put, List.setIfInBounds_toArray, List.set_cons_zero, List.set_cons_succ, i64_w, i32_w]
                                                  rfl
                                                refine pure_ (i := 9) (N := some 17) (v := ?_) (a' := ?_) #[true, true, true, true, true, true, true, true, true, true] rfl rfl (any_of HT_.out (by kernel_rfl)) (fun _ _ _ h => h) (Or.inl ⟨by rfl, ?_⟩) ?_ ?_
                                                rotate_left
                                                · intro w'
                                                  go_simp
                                                  with_reducible rfl
                                                rotate_left
                                                · simp only [Act.put, List.setIfInBounds_toArray, List.set_cons_zero, List.set_cons_succ, i64_w, i32_w]
                                                  rfl
                                                refine done_ (done_of HT_.out (by kernel_rfl)) ?_
                                                try go_wp2
                                                go_roundg kj31
                                                case measure => have := HJ5.out; have := HJ10.out; have := HJ16.out; have := HJ19.out; have := HJ21.out; have := HK6.out; have := HJ31.out; omega
                                                case rel => exact ⟨(wrap64 (x15_6 + 1)), (by first | rfl | (simp; done) | (simp [*]; done)), H', ⟨by have := HJ5.out; have := HJ10.out; have := HJ16.out; have := HJ19.out; have := HJ21.out; have := HK6.out; have := HJ31.out; omega⟩, ⟨by (with_reducible repeat (first | apply Kd.V_alloc | apply Kd.V_drewN | apply Kd.V_drew)); exact HO_9.out⟩, ⟨by (with_reducible repeat (first | apply Kd.V_alloc | apply Kd.V_drewN | apply Kd.V_drew)); exact HO_292002.out⟩, ⟨by (with_reducible repeat (first | refine blk_drewN ?_ _ | refine blk_drew ?_ | refine blk_alloc ?_ _)); exact BK291.out⟩, ⟨by repeat (first | (with_reducible first | exact HB.out | apply below_alloc | apply pw_below_drewN | apply below_drew1 | refine below_set ?_ GE291.out) | exact HB.out)⟩⟩
                                              · replace c52 := Bool.eq_false_iff.mpr c52
                                                subst c52
                                                have H1 : (some false) = some r := by rw [if_neg (show ¬ (false = true) by decide)] at H; exact H
                                                clear H
                                                have H := H1
                                                clear H1
                                                obtain rfl := Option.some.inj H
                                                try go_wp2
                                                have n0_ := Aside0.mk (Kd.V_drew HO_9.out)
                                                have n1_ := Aside0.mk (Kd.V_drew HO_292002.out)
                                                have n2_ := Aside0.mk (blk_drew BK291.out)
                                                have n3_ := Aside0.mk (below_drew1 HB.out)
                                                clear HO_9
                                                clear HO_292002
                                                clear BK291
                                                clear HB
                                                have HO_9 := n0_
                                                have HO_292002 := n1_
                                                have BK291 := n2_
                                                have HB := n3_
                                                clear n0_ n1_ n2_ n3_
                                                have p297 : 0 ≤ (x15_6 : Int) := of_decide_eq_true (by first | (with_reducible assumption) | assumption)
                                                have q297 : x15_6 < (t282.length : Int) := of_decide_eq_true (by first | (with_reducible assumption) | assumption)
                                                obtain ⟨ad297, A297_2, c297_2, e297, hx297_0, hx297_1, hx297_2, hl297_2, hi297_2⟩ := at_T54 (Kd.V_reads' HO_9.out).2.2 x15_6 p297 q297
                                                cases e297
                                                obtain ⟨ce297, hce297, hMe297, hcc297⟩ := Kd.V_get HO_9.out z54 x15_6 p297 (by first | exact q297 | exact of_decide_eq_true (by first | (with_reducible assumption) | assumption) | (have e_ := (Kd.V_reads' HO_9.out).1; omega))
                                                obtain ⟨ua297_2, uc297_2, rfl, ul297_2, ge297_2⟩ := k54_openF hMe297
                                                have hv297_2 := hcc297 2 _ rfl
                                                rw [add_field _ _ 2 (by omega)] at hv297_2
                                                replace hv297_2 := Option.some.inj (hv297_2.symm.trans hx297_2)
                                                injection hv297_2 with hva_ hvn_ hvc_
                                                rw [hva_] at ge297_2
                                                rw [hvc_] at ul297_2
                                                have HL297_2 := Aside0.mk (show Kd.V (Kd.int .u8) 5 _ w.heap.size _ _ ((rd_T54 t282 x15_6).f2) from Kd.V_mk ul297_2 ge297_2)
                                                clear hva_ hvn_ hvc_ ge297_2 ul297_2
                                                clear hcc297 hce297
                                                have HR297_2 := Aside0.mk hi297_2
                                                have HC297_2 := Aside0.mk hl297_2
                                                clear hi297_2 hl297_2
                                                replace p297 := eq_true p297
                                                replace q297 := eq_true q297
                                                have p298 : 0 ≤ (x15_6 : Int) := of_decide_eq_true (by first | (with_reducible assumption) | assumption)
                                                have q298 : x15_6 < (l0.length : Int) := of_decide_eq_true (by first | (with_reducible assumption) | assumption)
                                                obtain ⟨ad298, A298_2, c298_2, e298, hx298_0, hx298_1, hx298_2, hl298_2, hi298_2⟩ := at_T54 HR0.out x15_6 p298 q298
                                                have hw298_2 := hx298_2
                                                have hw298_1 := hx298_1
                                                have hw298_0 := hx298_0
                                                cases e298
                                                replace hx298_0 := (HB.out.cell (World.block_lt_of_cell? w _ hx298_0)).trans hx298_0
                                                replace hx298_1 := (HB.out.cell (World.block_lt_of_cell? w _ hx298_1)).trans hx298_1
                                                replace hx298_2 := (HB.out.cell (World.block_lt_of_cell? w _ hx298_2)).trans hx298_2
                                                have HR298_2 := Aside0.mk hi298_2
                                                have HC298_2 := Aside0.mk hl298_2
                                                clear hi298_2 hl298_2
                                                replace p298 := eq_true p298
                                                replace q298 := eq_true q298
                                                refine start_ (n := 10) (S := fun w' => w'.cell? (ad297.add ((x15_6).toNat * 3)) = some (.int .i64 ((rd_T54 t282 x15_6).f0)) ∧ w'.cell? ⟨(ad297.add ((x15_6).toNat * 3)).block, (ad297.add ((x15_6).toNat * 3)).off + 1, none⟩ = some (.bool ((rd_T54 t282 x15_6).f1)) ∧ w'.cell? ⟨(ad297.add ((x15_6).toNat * 3)).block, (ad297.add ((x15_6).toNat * 3)).off + 2, none⟩ = some (.slice A297_2 ((rd_T54 t282 x15_6).f2).length c297_2) ∧ w'.cell? (ad298.add ((x15_6).toNat * 3)) = some (.int .i64 ((rd_T54 l0 x15_6).f0)) ∧ w'.cell? ⟨(ad298.add ((x15_6).toNat * 3)).block, (ad298.add ((x15_6).toNat * 3)).off + 1, none⟩ = some (.bool ((rd_T54 l0 x15_6).f1)) ∧ w'.cell? ⟨(ad298.add ((x15_6).toNat * 3)).block, (ad298.add ((x15_6).toNat * 3)).off + 2, none⟩ = some (.slice A298_2 ((rd_T54 l0 x15_6).f2).length c298_2)) (ds := []) #[false, false, false, false, false, false, false, false, false, false] (by kernel_rfl) rfl rfl ⟨hx297_0, hx297_1, hx297_2, ((HB.out.cell (World.block_lt_of_cell? w _ hw298_0)).trans hw298_0), ((HB.out.cell (World.block_lt_of_cell? w _ hw298_1)).trans hw298_1), ((HB.out.cell (World.block_lt_of_cell? w _ hw298_2)).trans hw298_2)⟩ (fun hHeld => ?_); refine with_tabW wayfinderlaw14_WiresCount.tab19 wayfinderlaw14_WiresCount.bits19 (fun HT_ HW_ => ?_)
                                                generalize wc.drew = w55 at HO_9 HO_292002 BK291 HB HL297_2 HR297_2 HR298_2 hx297_0 hx297_1 hx297_2 hx298_0 hx298_1 hx298_2 hHeld ⊢
                                                refine pure_ (i := 0) (N := some 91) (v := ?_) (a' := ?_) #[true, false, false, false, false, false, false, false, false, false] rfl rfl (any_of HT_.out (by kernel_rfl)) (fun _ _ _ h => h) (Or.inl ⟨by rfl, ?_⟩) ?_ ?_
                                                rotate_left
                                                · intro w'
                                                  go_simp
                                                  with_reducible rfl
                                                rotate_left
                                                · simp only [Act.put, List.setIfInBounds_toArray, List.set_cons_zero, List.set_cons_succ, i64_w, i32_w]
                                                  rfl
                                                refine pure_ (i := 1) (N := some 92) (v := ?_) (a' := ?_) #[true, true, false, false, false, false, false, false, false, false] rfl rfl (any_of HT_.out (by kernel_rfl)) (fun _ _ _ h => h) (Or.inl ⟨by rfl, ?_⟩) ?_ ?_
                                                rotate_left
                                                · intro w'
                                                  go_simp
                                                  with_reducible rfl
                                                rotate_left
                                                · simp only [Act.put, List.setIfInBounds_toArray, List.set_cons_zero, List.set_cons_succ, i64_w, i32_w]
                                                  rfl
                                                refine pure_ (i := 2) (N := some 93) (v := ?_) (a' := ?_) #[true, true, true, false, false, false, false, false, false, false] rfl rfl (any_of HT_.out (by kernel_rfl)) (fun _ _ _ h => h) (Or.inl ⟨by rfl, ?_⟩) ?_ ?_
                                                rotate_left
                                                · intro w'
                                                  go_simp
                                                  with_reducible rfl
                                                rotate_left
                                                · simp only [Act.put, List.setIfInBounds_toArray, List.set_cons_zero, List.set_cons_succ, i64_w, i32_w]
                                                  rfl
                                                refine pure_ (i := 4) (N := some 95) (v := ?_) (a' := ?_) #[true, true, true, false, true, false, false, false, false, false] rfl rfl (any_of HT_.out (by kernel_rfl)) (fun _ _ _ h => h) (Or.inl ⟨by rfl, ?_⟩) ?_ ?_
                                                rotate_left
                                                · intro w'
                                                  go_simp
                                                  with_reducible rfl
                                                rotate_left
                                                · simp only [Act.put, List.setIfInBounds_toArray, List.set_cons_zero, List.set_cons_succ, i64_w, i32_w]
                                                  rfl
                                                refine pure_ (i := 5) (N := some 96) (v := ?_) (a' := ?_) #[true, true, true, false, true, true, false, false, false, false] rfl rfl (any_of HT_.out (by kernel_rfl)) (fun _ _ _ h => h) (Or.inl ⟨by rfl, ?_⟩) ?_ ?_
                                                rotate_left
                                                · intro w'
                                                  go_simp
                                                  with_reducible rfl
                                                rotate_left
                                                · simp only [Act.put, List.setIfInBounds_toArray, List.set_cons_zero, List.set_cons_succ, i64_w, i32_w]
                                                  rfl
                                                refine pure_ (i := 6) (N := some 97) (v := ?_) (a' := ?_) #[true, true, true, false, true, true, true, false, false, false] rfl rfl (any_of HT_.out (by kernel_rfl)) (fun _ _ _ h => h) (Or.inl ⟨by rfl, ?_⟩) ?_ ?_
                                                rotate_left
                                                · intro w'
                                                  go_simp
                                                  with_reducible rfl
                                                rotate_left
                                                · simp only [Act.put, List.setIfInBounds_toArray, List.set_cons_zero, List.set_cons_succ, i64_w, i32_w]
                                                  rfl
                                                refine take_ (i := 3) (N := some 94) (v := ?_) (a' := ?_) #[true, true, true, true, true, true, true, false, false, false] rfl rfl (take_ofW HT_.out HW_.out (by kernel_rfl)) (fun _ _ _ h => h) (Or.inl ⟨by rfl, ?_⟩) hHeld ?_ ?_
                                                rotate_left
                                                · rintro w' ⟨s0, s1, s2, s3, s4, s5⟩
                                                  go_simp
                                                  with_reducible rfl
                                                rotate_left
                                                · simp only [Act.put, List.setIfInBounds_toArray, List.set_cons_zero, List.set_cons_succ, i64_w, i32_w]
                                                  rfl
                                                refine take_ (i := 7) (N := some 98) (v := ?_) (a' := ?_) #[true, true, true, true, true, true, true, true, false, false] rfl rfl (take_ofW HT_.out HW_.out (by kernel_rfl)) (fun _ _ _ h => h) (Or.inl ⟨by rfl, ?_⟩) hHeld ?_ ?_
                                                rotate_left
                                                · rintro w' ⟨s0, s1, s2, s3, s4, s5⟩
                                                  go_simp
                                                  with_reducible rfl
                                                rotate_left
                                                · simp only [Act.put, List.setIfInBounds_toArray, List.set_cons_zero, List.set_cons_succ, i64_w, i32_w]
                                                  rfl
                                                refine one_ (i := 8) (N := some 99) #[true, true, true, true, true, true, true, true, true, false] rfl rfl (one_of HT_.out (by kernel_rfl)) (by decide) (fun K hK => ?_)
                                                refine goes_ Try.func30 (by kernel_rfl) rfl #[.agg #[.int .i64 ((rd_T54 t282 x15_6).f0), .bool ((rd_T54 t282 x15_6).f1), .slice A297_2 ((rd_T54 t282 x15_6).f2).length c297_2], .agg #[.int .i64 ((rd_T54 l0 x15_6).f0), .bool ((rd_T54 l0 x15_6).f1), .slice A298_2 ((rd_T54 l0 x15_6).f2).length c298_2]] (by rfl) rfl rfl (by (try simp only [List.map_toArray, List.map_cons, List.map_nil]); first | done | rfl | (simp only [List.length_drop, List.length_take]; rfl)) ?_
                                                with_reducible refine (wayfinderref14_One.calls ((rd_T54 t282 x15_6).f0) ((rd_T54 t282 x15_6).f1) _ _ ((rd_T54 t282 x15_6).f2) ((rd_T54 l0 x15_6).f0) ((rd_T54 l0 x15_6).f1) _ _ ((rd_T54 l0 x15_6).f2) false _ ?side1 ?side2 ?side3 ?side4 A51.out).mono ?_
                                                (case side1 => repeat (first | exact (by repeat (first | (with_reducible exact HR297_2.out) | (with_reducible refine Kd.C_alloc ?_ _) | (with_reducible refine Kd.C_drewN ?_ _) | (with_reducible refine Kd.C_drew ?_) | exact HR297_2.out)) | (with_reducible refine Kd.C_alloc ?_ _) | (with_reducible refine Kd.C_drewN ?_ _) | (with_reducible refine Kd.C_drew ?_)))
                                                (case side2 => exact HC297_2.out)
                                                (case side3 => repeat (first | exact (Kd.C_below HR298_2.out HB.out) | (with_reducible refine Kd.C_alloc ?_ _) | (with_reducible refine Kd.C_drewN ?_ _) | (with_reducible refine Kd.C_drew ?_)))
                                                (case side4 => exact HC298_2.out)
                                                rintro e w56 ⟨rfl, hb⟩
                                                have HS0_ := (hb.cell (World.block_lt_of_cell? _ _ (hHeld.1))).trans (hHeld.1)
                                                have HS1_ := (hb.cell (World.block_lt_of_cell? _ _ (hHeld.2.1))).trans (hHeld.2.1)
                                                have HS2_ := (hb.cell (World.block_lt_of_cell? _ _ (hHeld.2.2.1))).trans (hHeld.2.2.1)
                                                refine ⟨_, rfl, ?_⟩
                                                have n0_ := Aside0.mk (Kd.V_below (by (with_reducible repeat (first | apply Kd.V_alloc | apply Kd.V_drewN | apply Kd.V_drew)); exact HO_9.out) hb)
                                                have n1_ := Aside0.mk (Kd.V_below (by (with_reducible repeat (first | apply Kd.V_alloc | apply Kd.V_drewN | apply Kd.V_drew)); exact HO_292002.out) hb)
                                                have n2_ := Aside0.mk (Kd.V_below (by (with_reducible repeat (first | apply Kd.V_alloc | apply Kd.V_drewN | apply Kd.V_drew)); exact HL297_2.out) hb)
                                                have n3_ := Aside0.mk (blk_below (g := gb291) (o := .cells #[.int .i64 t285, .bool t286, .slice Ao15 t287.length co15] 54 (0, 0)) (by (with_reducible repeat (first | refine blk_drewN ?_ _ | refine blk_drew ?_ | refine blk_alloc ?_ _)); exact BK291.out) hb)
                                                have n4_ := Aside0.mk (Kd.C_below (by repeat (first | (with_reducible exact HR297_2.out) | (with_reducible refine Kd.C_alloc ?_ _) | (with_reducible refine Kd.C_drewN ?_ _) | (with_reducible refine Kd.C_drew ?_) | exact HR297_2.out)) hb)
                                                have n5_ := Aside0.mk (below_step (by repeat (first | (with_reducible first | exact HB.out | apply below_alloc | apply pw_below_drewN | apply below_drew1 | refine below_set ?_ GE291.out) | exact HB.out)) hb)
                                                clear HO_9
                                                clear HO_292002
                                                clear HL297_2
                                                clear BK291
                                                clear HR297_2
                                                clear HB
                                                have HO_9 := n0_
                                                have HO_292002 := n1_
                                                have HL297_2 := n2_
                                                have BK291 := n3_
                                                have HR297_2 := n4_
                                                have HB := n5_
                                                clear n0_ n1_ n2_ n3_ n4_ n5_
                                                (try clear hb)
                                                (try clear hb2)
                                                (try clear hk)
                                                (try clear hi)
                                                refine hK.out _ _ ⟨HS0_, HS1_, HS2_, ((HB.out.cell (World.block_lt_of_cell? w _ hw298_0)).trans hw298_0), ((HB.out.cell (World.block_lt_of_cell? w _ hw298_1)).trans hw298_1), ((HB.out.cell (World.block_lt_of_cell? w _ hw298_2)).trans hw298_2)⟩ (fun hHeld => ?_)
                                                clear hK K
                                                refine norm_ (a' := ?_) ?_ ?_
                                                rotate_left
                                                · show Act.put _ (some 99) _ = _
                                                  simp only [Act.put, List.setIfInBounds_toArray, List.set_cons_zero, List.set_cons_succ, i64_w, i32_w]
                                                  rfl
                                                refine pure_ (i := 9) (N := some 17) (v := ?_) (a' := ?_) #[true, true, true, true, true, true, true, true, true, true] rfl rfl (any_of HT_.out (by kernel_rfl)) (fun _ _ _ h => h) (Or.inl ⟨by rfl, ?_⟩) ?_ ?_
                                                rotate_left
                                                · intro w'
                                                  go_simp
                                                  with_reducible rfl
                                                rotate_left
                                                · simp only [Act.put, List.setIfInBounds_toArray, List.set_cons_zero, List.set_cons_succ, i64_w, i32_w]
                                                  rfl
                                                refine done_ (done_of HT_.out (by kernel_rfl)) ?_
                                                try go_wp2
                                                go_ret
                                                exact ⟨by first | rfl | (simp [errW_none, errW_some] <;> rfl) | (simp [*, errW_none, errW_some] <;> rfl), by repeat (first | (with_reducible first | exact HB.out | apply below_alloc | apply pw_below_drewN | apply below_drew1 | refine below_set ?_ GE291.out) | exact HB.out)⟩
                                            · rw [if_neg c50] at H
                                              exact absurd H (by simp)
                                          · rw [if_neg c49] at H
                                            exact absurd H (by simp)
                                        · rw [if_neg c48] at H
                                          exact absurd H (by simp)
                                      · rw [if_neg c47] at H
                                        exact absurd H (by simp)
                              · rw [if_neg c31] at H
                                have c31b0 : decide (x15_6 < (t282.length : Int)) = false := decide_eq_false c31
                                clear c31
                                by_cases c57 : t290 = true
                                · subst c57
                                  have H1 : (if 0 ≤ a1 then (if a1 < (l0.length : Int) then ((wayfinderref14_One.f t285 t286 t287 ((rd_T54 l0 a1).f0) ((rd_T54 l0 a1).f1) ((rd_T54 l0 a1).f2)).bind fun t293 => (some t293)) else (none)) else (none)) = some r := by rw [if_pos rfl] at H; exact H
                                  clear H
                                  have H := H1
                                  clear H1
                                  by_cases c58 : 0 ≤ a1
                                  · rw [if_pos c58] at H
                                    have c58b0 : decide (0 ≤ a1) = true := decide_eq_true c58
                                    clear c58
                                    by_cases c59 : a1 < (l0.length : Int)
                                    · rw [if_pos c59] at H
                                      have c59b0 : decide (a1 < (l0.length : Int)) = true := decide_eq_true c59
                                      clear c59
                                      replace H := Option.bind_eq_some_iff.mp H
                                      obtain ⟨t293, A600, H⟩ := H
                                      replace H : (some t293) = some r := H
                                      have A60 := Aside0.mk A600
                                      clear A600
                                      obtain rfl := Option.some.inj H
                                      obtain ⟨Ao61, co61, eo61⟩ := Kd.V_slice HO_9.out
                                      subst eo61
                                      try go_wp2
                                      have n0_ := Aside0.mk (Kd.V_drew HO_9.out)
                                      have n1_ := Aside0.mk (Kd.V_drew HO_292002.out)
                                      have n2_ := Aside0.mk (blk_drew BK291.out)
                                      have n3_ := Aside0.mk (below_drew1 HB.out)
                                      clear HO_9
                                      clear HO_292002
                                      clear BK291
                                      clear HB
                                      have HO_9 := n0_
                                      have HO_292002 := n1_
                                      have BK291 := n2_
                                      have HB := n3_
                                      clear n0_ n1_ n2_ n3_
                                      have p292 : 0 ≤ (a1 : Int) := of_decide_eq_true (by first | (with_reducible assumption) | assumption)
                                      have q292 : a1 < (l0.length : Int) := of_decide_eq_true (by first | (with_reducible assumption) | assumption)
                                      obtain ⟨ad292, A292_2, c292_2, e292, hx292_0, hx292_1, hx292_2, hl292_2, hi292_2⟩ := at_T54 HR0.out a1 p292 q292
                                      have hw292_2 := hx292_2
                                      have hw292_1 := hx292_1
                                      have hw292_0 := hx292_0
                                      cases e292
                                      replace hx292_0 := (HB.out.cell (World.block_lt_of_cell? w _ hx292_0)).trans hx292_0
                                      replace hx292_1 := (HB.out.cell (World.block_lt_of_cell? w _ hx292_1)).trans hx292_1
                                      replace hx292_2 := (HB.out.cell (World.block_lt_of_cell? w _ hx292_2)).trans hx292_2
                                      have HR292_2 := Aside0.mk hi292_2
                                      have HC292_2 := Aside0.mk hl292_2
                                      clear hi292_2 hl292_2
                                      replace p292 := eq_true p292
                                      replace q292 := eq_true q292
                                      refine start_ (n := 7) (S := fun w' => w'.cell? ⟨gb291, 0, none⟩ = some (.int .i64 t285) ∧ w'.cell? ⟨gb291, 1, none⟩ = some (.bool t286) ∧ w'.cell? ⟨gb291, 2, none⟩ = some (.slice Ao15 t287.length co15) ∧ w'.cell? (ad292.add ((a1).toNat * 3)) = some (.int .i64 ((rd_T54 l0 a1).f0)) ∧ w'.cell? ⟨(ad292.add ((a1).toNat * 3)).block, (ad292.add ((a1).toNat * 3)).off + 1, none⟩ = some (.bool ((rd_T54 l0 a1).f1)) ∧ w'.cell? ⟨(ad292.add ((a1).toNat * 3)).block, (ad292.add ((a1).toNat * 3)).off + 2, none⟩ = some (.slice A292_2 ((rd_T54 l0 a1).f2).length c292_2)) (ds := []) #[false, false, false, false, false, false, false] (by kernel_rfl) rfl rfl ⟨(blk_cell BK291.out 0).trans rfl, (blk_cell BK291.out 1).trans rfl, (blk_cell BK291.out 2).trans rfl, ((HB.out.cell (World.block_lt_of_cell? w _ hw292_0)).trans hw292_0), ((HB.out.cell (World.block_lt_of_cell? w _ hw292_1)).trans hw292_1), ((HB.out.cell (World.block_lt_of_cell? w _ hw292_2)).trans hw292_2)⟩ (fun hHeld => ?_)
                                      generalize wr.drew = w62 at HO_9 HO_292002 BK291 HB HR292_2 hx292_0 hx292_1 hx292_2 hHeld ⊢
                                      refine pure_ (i := 1) (N := some 109) (v := ?_) (a' := ?_) #[false, true, false, false, false, false, false] rfl rfl (by kernel_rfl) (fun _ _ _ h => h) (Or.inl ⟨by rfl, ?_⟩) ?_ ?_
                                      rotate_left
                                      · intro w'
                                        go_simp
                                        with_reducible rfl
                                      rotate_left
                                      · simp only [Act.put, List.setIfInBounds_toArray, List.set_cons_zero, List.set_cons_succ, i64_w, i32_w]
                                        rfl
                                      refine pure_ (i := 2) (N := some 110) (v := ?_) (a' := ?_) #[false, true, true, false, false, false, false] rfl rfl (by kernel_rfl) (fun _ _ _ h => h) (Or.inl ⟨by rfl, ?_⟩) ?_ ?_
                                      rotate_left
                                      · intro w'
                                        go_simp
                                        with_reducible rfl
                                      rotate_left
                                      · simp only [Act.put, List.setIfInBounds_toArray, List.set_cons_zero, List.set_cons_succ, i64_w, i32_w]
                                        rfl
                                      refine pure_ (i := 3) (N := some 111) (v := ?_) (a' := ?_) #[false, true, true, true, false, false, false] rfl rfl (by kernel_rfl) (fun _ _ _ h => h) (Or.inl ⟨by rfl, ?_⟩) ?_ ?_
                                      rotate_left
                                      · intro w'
                                        go_simp
                                        with_reducible rfl
                                      rotate_left
                                      · simp only [Act.put, List.setIfInBounds_toArray, List.set_cons_zero, List.set_cons_succ, i64_w, i32_w]
                                        rfl
                                      refine take_ (i := 0) (N := some 108) (v := ?_) (a' := ?_) #[true, true, true, true, false, false, false] rfl rfl (by kernel_rfl) (fun _ _ _ h => h) (Or.inl ⟨by rfl, ?_⟩) hHeld ?_ ?_
                                      rotate_left
                                      · rintro w' ⟨s0, s1, s2, s3, s4, s5⟩
                                        go_simp
                                        with_reducible rfl
                                      rotate_left
                                      · simp only [Act.put, List.setIfInBounds_toArray, List.set_cons_zero, List.set_cons_succ, i64_w, i32_w]
                                        rfl
                                      refine take_ (i := 4) (N := some 112) (v := ?_) (a' := ?_) #[true, true, true, true, true, false, false] rfl rfl (by kernel_rfl) (fun _ _ _ h => h) (Or.inl ⟨by rfl, ?_⟩) hHeld ?_ ?_
                                      rotate_left
                                      · rintro w' ⟨s0, s1, s2, s3, s4, s5⟩
                                        go_simp
                                        with_reducible rfl
                                      rotate_left
                                      · simp only [Act.put, List.setIfInBounds_toArray, List.set_cons_zero, List.set_cons_succ, i64_w, i32_w]
                                        rfl
                                      refine one_ (i := 5) (N := some 113) #[true, true, true, true, true, true, false] rfl rfl (by kernel_rfl) (by decide) (fun K hK => ?_)
                                      refine goes_ Try.func30 (by kernel_rfl) rfl #[.agg #[.int .i64 t285, .bool t286, .slice Ao15 t287.length co15], .agg #[.int .i64 ((rd_T54 l0 a1).f0), .bool ((rd_T54 l0 a1).f1), .slice A292_2 ((rd_T54 l0 a1).f2).length c292_2]] (by rfl) rfl rfl (by (try simp only [List.map_toArray, List.map_cons, List.map_nil]); first | done | rfl | (simp only [List.length_drop, List.length_take]; rfl)) ?_
                                      with_reducible refine (wayfinderref14_One.calls t285 t286 _ _ t287 ((rd_T54 l0 a1).f0) ((rd_T54 l0 a1).f1) _ _ ((rd_T54 l0 a1).f2) t293 _ ?side1 ?side2 ?side3 ?side4 A60.out).mono ?_
                                      (case side1 => repeat (first | exact (Kd.V_reads' HO_292002.out).2.2 | (with_reducible refine Kd.C_alloc ?_ _) | (with_reducible refine Kd.C_drewN ?_ _) | (with_reducible refine Kd.C_drew ?_)))
                                      (case side2 => exact (Kd.V_reads' HO_292002.out).2.1)
                                      (case side3 => repeat (first | exact (Kd.C_below HR292_2.out HB.out) | (with_reducible refine Kd.C_alloc ?_ _) | (with_reducible refine Kd.C_drewN ?_ _) | (with_reducible refine Kd.C_drew ?_)))
                                      (case side4 => exact HC292_2.out)
                                      rintro e w63 ⟨rfl, hb⟩
                                      refine ⟨_, rfl, ?_⟩
                                      have n0_ := Aside0.mk (Kd.V_below (by (with_reducible repeat (first | apply Kd.V_alloc | apply Kd.V_drewN | apply Kd.V_drew)); exact HO_9.out) hb)
                                      have n1_ := Aside0.mk (Kd.V_below (by (with_reducible repeat (first | apply Kd.V_alloc | apply Kd.V_drewN | apply Kd.V_drew)); exact HO_292002.out) hb)
                                      have n2_ := Aside0.mk (blk_below (g := gb291) (o := .cells #[.int .i64 t285, .bool t286, .slice Ao15 t287.length co15] 54 (0, 0)) (by (with_reducible repeat (first | refine blk_drewN ?_ _ | refine blk_drew ?_ | refine blk_alloc ?_ _)); exact BK291.out) hb)
                                      have n3_ := Aside0.mk (below_step (by repeat (first | (with_reducible first | exact HB.out | apply below_alloc | apply pw_below_drewN | apply below_drew1 | refine below_set ?_ GE291.out) | exact HB.out)) hb)
                                      clear HO_9
                                      clear HO_292002
                                      clear BK291
                                      clear HB
                                      have HO_9 := n0_
                                      have HO_292002 := n1_
                                      have BK291 := n2_
                                      have HB := n3_
                                      clear n0_ n1_ n2_ n3_
                                      (try clear hb)
                                      (try clear hb2)
                                      (try clear hk)
                                      (try clear hi)
                                      refine hK.out _ _ ⟨(blk_cell BK291.out 0).trans rfl, (blk_cell BK291.out 1).trans rfl, (blk_cell BK291.out 2).trans rfl, ((HB.out.cell (World.block_lt_of_cell? w _ hw292_0)).trans hw292_0), ((HB.out.cell (World.block_lt_of_cell? w _ hw292_1)).trans hw292_1), ((HB.out.cell (World.block_lt_of_cell? w _ hw292_2)).trans hw292_2)⟩ (fun hHeld => ?_)
                                      clear hK K
                                      refine norm_ (a' := ?_) ?_ ?_
                                      rotate_left
                                      · show Act.put _ (some 113) _ = _
                                        simp only [Act.put, List.setIfInBounds_toArray, List.set_cons_zero, List.set_cons_succ, i64_w, i32_w]
                                        rfl
                                      refine pure_ (i := 6) (N := some 18) (v := ?_) (a' := ?_) #[true, true, true, true, true, true, true] rfl rfl (by kernel_rfl) (fun _ _ _ h => h) (Or.inl ⟨by rfl, ?_⟩) ?_ ?_
                                      rotate_left
                                      · intro w'
                                        go_simp
                                        with_reducible rfl
                                      rotate_left
                                      · simp only [Act.put, List.setIfInBounds_toArray, List.set_cons_zero, List.set_cons_succ, i64_w, i32_w]
                                        rfl
                                      refine done_ (by kernel_rfl) ?_
                                      try go_wp2
                                      go_ret
                                      exact ⟨by first | rfl | (simp [errW_none, errW_some] <;> rfl) | (simp [*, errW_none, errW_some] <;> rfl), by repeat (first | (with_reducible first | exact HB.out | apply below_alloc | apply pw_below_drewN | apply below_drew1 | refine below_set ?_ GE291.out) | exact HB.out)⟩
                                    · rw [if_neg c59] at H
                                      exact absurd H (by simp)
                                  · rw [if_neg c58] at H
                                    exact absurd H (by simp)
                                · replace c57 := Bool.eq_false_iff.mpr c57
                                  subst c57
                                  have H1 : (some ((t287.length : Int) == 0)) = some r := by rw [if_neg (show ¬ (false = true) by decide)] at H; exact H
                                  clear H
                                  have H := H1
                                  clear H1
                                  obtain rfl := Option.some.inj H
                                  obtain ⟨Ao64, co64, eo64⟩ := Kd.V_slice HO_9.out
                                  subst eo64
                                  have hcz65_0 : wr.cell? ⟨gb291, 0, none⟩ = some (.int .i64 t285) := (blk_cell BK291.out 0).trans rfl
                                  have hcz65_1 : wr.cell? ⟨gb291, 1, none⟩ = some (.bool t286) := (blk_cell BK291.out 1).trans rfl
                                  have hcz65_2 : wr.cell? ⟨gb291, 2, none⟩ = some (.slice Ao15 t287.length co15) := (blk_cell BK291.out 2).trans rfl
                                  have hfz65_0 := blk_frozen BK291.out 0
                                  have hfz65_1 := blk_frozen BK291.out 1
                                  have hfz65_2 := blk_frozen BK291.out 2
                                  go_wp2
                                  go_ret
                                  exact ⟨by first | rfl | (simp [errW_none, errW_some] <;> rfl) | (simp [*, errW_none, errW_some] <;> rfl), by repeat (first | (with_reducible first | exact HB.out | apply below_alloc | apply pw_below_drewN | apply below_drew1 | refine below_set ?_ GE291.out) | exact HB.out)⟩

def wayfinderlaw14_WiresCount.Pure : Prop := ∀ (l0 : List (S54)) (a1 : Int) (a2 : Int), l0.length ≤ maxLen → (∀ x ∈ l0, wfT54 x) → (Lit.int .i64 a1).wf = true → (Lit.int .i64 a2).wf = true → ∃ k, wayfinderlaw14_WiresCount.f k l0 a1 a2 = some true
theorem wayfinderlaw14_WiresCount.walk (P : wayfinderlaw14_WiresCount.Pure) (A0 : Option Addr) (c0 : Nat) (l0 : List (S54)) (a1 : Int) (a2 : Int) (w : World) (hr0 : Kd.C k54 w A0 l0.length l0) (hc0 : l0.length ≤ c0) (w0 : l0.length ≤ maxLen) (w1 : (∀ x ∈ l0, wfT54 x)) (w2 : (Lit.int .i64 a1).wf = true) (w3 : (Lit.int .i64 a2).wf = true) :
    Calls Try.prog 11 #[.slice A0 l0.length c0, .int .i64 a1, .int .i64 a2] w fun e w' => e = .returned (.bool true) ∧ Below w.heap.size w w' := by
  obtain ⟨k, h⟩ := P l0 a1 a2 w0 w1 w2 w3
  refine (wayfinderlaw14_WiresCount.calls k A0 c0 l0 a1 a2 true w hr0 hc0 h).mono ?_
  rintro e w' ⟨rfl, hd⟩
  exact ⟨rfl, hd⟩

end Go.Proofs.Ytifgncaihpoijaa.Print
