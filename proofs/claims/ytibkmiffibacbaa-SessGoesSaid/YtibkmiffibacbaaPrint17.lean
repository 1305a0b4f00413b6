/- A text that a program of this session printed out of the translation: checked by Lean alone. -/
import Derived.Test.YtibkmiffibacbaaPrint0
import Derived.Test.YtibkmiffibacbaaPrint15
import Derived.Test.YtibkmiffibacbaaPrint5
import Derived.Test.YtibkmiffibacbaaPrint7
import Derived.Test.YtibkmiffibacbaaPrint8
import Derived.Test.YtibkmiffibacbaaPrint9
import Derived.Test.YtibkmiffibacbaaPrintO
namespace Go.Proofs.Ytibkmiffibacbaa.Print
open Go.RowKit Go.Proofs.YtibkmiffibacbaaW.PrintWords Go.Proofs.YtibkmiffibacbaaW.PrintLast Go.Proofs.YtibkmiffibacbaaW.PrintMore
attribute [local go_sem] max2_int min2_int max_two min_two max_three min_three max_four min_four   -- for this text's walks alone
set_option linter.unusedVariables false
set_option linter.unusedSimpArgs false

/-! ### wayfinderlaw15_SessGoes: function 7 -/
mutual
def wayfinderlaw15_SessGoes.j0 : Nat → List Int → Bool → Bool → Option (Bool)
  | 0, _, _, _ => none
  | k + 1, x0, x3, x17 => if x17 = true then (some x3) else ((sess_New.f 1).bind fun bt336 => (wayfinderlaw15_SessGoes.l0 k x0 0 bt336.1 bt336.2.1 bt336.2.2))
def wayfinderlaw15_SessGoes.l0 : Nat → List Int → Int → Int → Int → List (S34) → Option (Bool)
  | 0, _, _, _, _, _ => none
  | k + 1, x0, x5, x342000, x342001, x342002 => if x5 < (x0.length : Int) then (if 0 ≤ x5 then ((sess_Push.f x342000 x342001 x342002 0 0 0 (rd x0 x5) 0 0 0 0 0 0).bind fun bt343 => (wayfinderlaw15_SessGoes.l0 k x0 (wrap64 (x5 + 1)) bt343.1 bt343.2.1 bt343.2.2.1)) else (none)) else (wayfinderlaw15_SessGoes.l1 k x0 0 x342000 x342001 x342002)
def wayfinderlaw15_SessGoes.l1 : Nat → List Int → Int → Int → Int → List (S34) → Option (Bool)
  | 0, _, _, _, _, _ => none
  | k + 1, x0, x8, x342000, x342001, x342002 => if x8 < (x0.length : Int) then ((sess_First.f x342000 x342001 x342002 1).bind fun t353 => (if (t353.length : Int) = 1 then (if 0 < (t353.length : Int) then (if 0 ≤ x8 then (if ((rd_T34 t353 0).f3) = (rd x0 x8) then ((sess_Take.f 1 x8 ((rd_T34 t353 0).f0) ((rd_T34 t353 0).f1) ((rd_T34 t353 0).f2) ((rd_T34 t353 0).f3) ((rd_T34 t353 0).f4.f0.f0) ((rd_T34 t353 0).f4.f0.f1) ((rd_T34 t353 0).f4.f1) ((rd_T34 t353 0).f4.f2) ((rd_T34 t353 0).f4.f3.f0) ((rd_T34 t353 0).f4.f3.f1)).bind fun t359 => (if t359 = 0 then ((sess_Done.f x342000 x342001 x342002 1 (wrap64 (x8 + 1))).bind fun bt360 => (wayfinderlaw15_SessGoes.l1 k x0 (wrap64 (x8 + 1)) bt360.1 bt360.2.1 bt360.2.2)) else (none))) else (none)) else (none)) else (none)) else (none))) else (if (x342002.length : Int) = 0 then ((sess_First.f x342000 x342001 x342002 3).bind fun t350 => (some ((t350.length : Int) == 0))) else (none))
end
def wayfinderlaw15_SessGoes.f (k : Nat) (l0 : List Int) : Option (Bool) := (wayfinderlaw15_awake.f).bind fun t335 => (if t335 = true then (wayfinderlaw15_SessGoes.j0 k l0 t335 (decide ((l0.length : Int) > 200))) else (wayfinderlaw15_SessGoes.j0 k l0 t335 true))
theorem wayfinderlaw15_SessGoes.mono_l : ∀ k, (∀ y0 y1 y2, LeO (wayfinderlaw15_SessGoes.j0 k y0 y1 y2) (wayfinderlaw15_SessGoes.j0 (k + 1) y0 y1 y2)) ∧ (∀ y0 y1 y2 y3 y4, LeO (wayfinderlaw15_SessGoes.l0 k y0 y1 y2 y3 y4) (wayfinderlaw15_SessGoes.l0 (k + 1) y0 y1 y2 y3 y4)) ∧ (∀ y0 y1 y2 y3 y4, LeO (wayfinderlaw15_SessGoes.l1 k y0 y1 y2 y3 y4) (wayfinderlaw15_SessGoes.l1 (k + 1) y0 y1 y2 y3 y4))
  | 0 => ⟨fun _ _ _ r h => by simp [wayfinderlaw15_SessGoes.j0] at h, fun _ _ _ _ _ r h => by simp [wayfinderlaw15_SessGoes.l0] at h, fun _ _ _ _ _ r h => by simp [wayfinderlaw15_SessGoes.l1] at h⟩
  | k + 1 => by
    obtain ⟨ih0, ih1, ih2⟩ := wayfinderlaw15_SessGoes.mono_l k
    refine ⟨?_, ?_, ?_⟩
    · intro y0 y1 y2
      unfold wayfinderlaw15_SessGoes.j0
      repeat' first
      | (with_reducible exact ih0 _ _ _)
      | (with_reducible exact ih1 _ _ _ _ _)
      | (with_reducible exact ih2 _ _ _ _ _)
      | (with_reducible exact LeO.refl _)
      | (with_reducible exact LeO.none _)
      | (with_reducible refine LeO.ite ?_ ?_)
      | (with_reducible refine LeO.bind ?_ (fun _ => ?_))
      | exact ih0 _ _ _
      | exact ih1 _ _ _ _ _
      | exact ih2 _ _ _ _ _
      | exact LeO.none _
      | refine LeO.ite ?_ ?_
      | refine LeO.bind ?_ (fun _ => ?_)
    · intro y0 y1 y2 y3 y4
      unfold wayfinderlaw15_SessGoes.l0
      repeat' first
      | (with_reducible exact ih0 _ _ _)
      | (with_reducible exact ih1 _ _ _ _ _)
      | (with_reducible exact ih2 _ _ _ _ _)
      | (with_reducible exact LeO.refl _)
      | (with_reducible exact LeO.none _)
      | (with_reducible refine LeO.ite ?_ ?_)
      | (with_reducible refine LeO.bind ?_ (fun _ => ?_))
      | exact ih0 _ _ _
      | exact ih1 _ _ _ _ _
      | exact ih2 _ _ _ _ _
      | exact LeO.none _
      | refine LeO.ite ?_ ?_
      | refine LeO.bind ?_ (fun _ => ?_)
    · intro y0 y1 y2 y3 y4
      unfold wayfinderlaw15_SessGoes.l1
      repeat' first
      | (with_reducible exact ih0 _ _ _)
      | (with_reducible exact ih1 _ _ _ _ _)
      | (with_reducible exact ih2 _ _ _ _ _)
      | (with_reducible exact LeO.refl _)
      | (with_reducible exact LeO.none _)
      | (with_reducible refine LeO.ite ?_ ?_)
      | (with_reducible refine LeO.bind ?_ (fun _ => ?_))
      | exact ih0 _ _ _
      | exact ih1 _ _ _ _ _
      | exact ih2 _ _ _ _ _
      | exact LeO.none _
      | refine LeO.ite ?_ ?_
      | refine LeO.bind ?_ (fun _ => ?_)
theorem wayfinderlaw15_SessGoes.mono : ∀ a0 k, LeO (wayfinderlaw15_SessGoes.f k a0) (wayfinderlaw15_SessGoes.f (k + 1) a0) := by
  intro a0 k
  obtain ⟨ih0, ih1, ih2⟩ := wayfinderlaw15_SessGoes.mono_l k
  unfold wayfinderlaw15_SessGoes.f
  repeat' first
      | (with_reducible exact ih0 _ _ _)
      | (with_reducible exact ih1 _ _ _ _ _)
      | (with_reducible exact ih2 _ _ _ _ _)
      | (with_reducible exact LeO.refl _)
      | (with_reducible exact LeO.none _)
      | (with_reducible refine LeO.ite ?_ ?_)
      | (with_reducible refine LeO.bind ?_ (fun _ => ?_))
      | exact ih0 _ _ _
      | exact ih1 _ _ _ _ _
      | exact ih2 _ _ _ _ _
      | exact LeO.none _
      | refine LeO.ite ?_ ?_
      | refine LeO.bind ?_ (fun _ => ?_)
def wayfinderlaw15_SessGoes.T8 : Bool × List (List Nat × List Nat) := (true, [([], []), ([], []), ([], []), ([1, 2], [1, 2]), ([3], [3]), ([4], [4]), ([0, 5], [0, 5]), ([6], [6]), ([7], [7]), ([7], [7]), ([], []), ([10, 8, 6, 0, 1, 2, 3, 4, 5, 6, 7, 8, 10], [8, 10]), ([9, 11, 0, 1, 2, 3, 4, 5, 6, 7, 8, 9, 10, 11], [9])])
def wayfinderlaw15_SessGoes.B8 : List Nat := [0, 0, 0, 6, 14, 30, 63, 127, 255, 255, 0, 1535, 4095]
theorem wayfinderlaw15_SessGoes.tab8 : rtab .any (opsOf Try.f7 8) = wayfinderlaw15_SessGoes.T8 := by kernel_rfl
theorem wayfinderlaw15_SessGoes.bits8 : waitsOk wayfinderlaw15_SessGoes.T8.2 wayfinderlaw15_SessGoes.B8 = true := by kernel_rfl
def wayfinderlaw15_SessGoes.T14 : Bool × List (List Nat × List Nat) := (true, [([], []), ([0], [0]), ([1], [1]), ([2], [2]), ([3], [3]), ([4, 3], [3, 4]), ([5, 3], [3, 5]), ([6, 3], [3, 6]), ([3], [3]), ([3], [3]), ([8, 9, 3], [3, 8, 9]), ([10, 3], [3, 10]), ([7, 11, 3], [3, 7, 11]), ([3, 12], [3, 12]), ([13, 3], [13]), ([14], [14]), ([14], [14]), ([16, 14], [14, 16]), ([17, 14], [14, 17]), ([15, 18, 14, 14], [14, 15, 18]), ([19, 14], [14, 19]), ([14, 20], [14, 20])])
def wayfinderlaw15_SessGoes.B14 : List Nat := [0, 1, 3, 7, 15, 31, 63, 127, 15, 15, 783, 1807, 4095, 8191, 16383, 32767, 32767, 98303, 229375, 524287, 1048575, 2097151]
theorem wayfinderlaw15_SessGoes.tab14 : rtab .any (opsOf Try.f7 14) = wayfinderlaw15_SessGoes.T14 := by kernel_rfl
theorem wayfinderlaw15_SessGoes.bits14 : waitsOk wayfinderlaw15_SessGoes.T14.2 wayfinderlaw15_SessGoes.B14 = true := by kernel_rfl
set_option maxHeartbeats 8000000 in
set_option maxRecDepth 100000 in
theorem wayfinderlaw15_SessGoes.calls (k : Nat) (A0 : Option Addr) (c0 : Nat) (l0 : List Int) (r : Bool) (w : World) (hr0 : Kd.C (Kd.int .i64) w A0 l0.length l0) (hc0 : l0.length ≤ c0) (h : wayfinderlaw15_SessGoes.f k l0 = some r) :
    Calls Try.prog 7 #[.slice A0 l0.length c0] w fun e w' => e = .returned (.bool r) ∧ Below w.heap.size w w' := by
  have hu41 := Try.underlying41
  have hu34 := Try.underlying34
  have HR0 := Aside0.mk hr0
  have HC0 := Aside0.mk hc0
  clear hr0 hc0
  have HB := Aside0.mk (Below.refl w.heap.size w)
  have H : ((wayfinderlaw15_awake.f).bind fun t335 => (if t335 = true then (wayfinderlaw15_SessGoes.j0 k l0 t335 (decide ((l0.length : Int) > 200))) else (wayfinderlaw15_SessGoes.j0 k l0 t335 true))) = some r := h
  clear h
  replace H := Option.bind_eq_some_iff.mp H
  obtain ⟨t335, A20, H⟩ := H
  replace H : (if t335 = true then (wayfinderlaw15_SessGoes.j0 k l0 t335 (decide ((l0.length : Int) > 200))) else (wayfinderlaw15_SessGoes.j0 k l0 t335 true)) = some r := H
  have A2 := Aside0.mk A20
  clear A20
  have HC3 := Aside0.mk H
  clear H
  go_enter Try.func7, Try.ntmps7
  go_upto_region 2 with (first | ((with_reducible refine gate_callee (f := 15) rfl ?_); refine goesL_ (some 10) rfl rfl Try.func15 (by kernel_rfl) rfl #[] rfl (by (try simp only [List.map_toArray, List.map_cons, List.map_nil]); first | done | rfl | (simp only [List.length_drop, List.length_take]; rfl)) ?_; (with_reducible refine (wayfinderlaw15_awake.calls  t335 _ A2.out).mono ?_); rintro e w4 ⟨rfl, hb⟩; refine ⟨_, rfl, ?_⟩; have n0_ := Aside0.mk (below_step (by repeat (first | (with_reducible first | exact HB.out | apply below_alloc | apply pw_below_drewN | apply below_drew1) | exact HB.out)) hb); clear HB; have HB := n0_; clear n0_; (try clear hb); (try clear hb2); (try clear hk); (try clear hi)))
  (try simp only [Act.put, List.setIfInBounds_toArray, List.set_cons_zero, List.set_cons_succ])
  go_cut [17] (fun v17 wc => ∃ (kq : Nat) (x17_2 : Bool), v17 = .bool x17_2 ∧ Aside0 (wayfinderlaw15_SessGoes.j0 kq l0 t335 x17_2 = some r) ∧ Aside0 (kq ≤ k) ∧ Aside0 (Below w.heap.size w wc))
  case first =>
    have H := HC3.out
    clear HC3
    by_cases c5 : t335 = true
    · subst c5
      have H1 : (wayfinderlaw15_SessGoes.j0 k l0 true (decide ((l0.length : Int) > 200))) = some r := by rw [if_pos rfl] at H; exact H
      clear H
      have H := H1
      clear H1
      have H' := Aside0.mk H
      clear H
      go_wp2
      go_meet
      case rel => exact ⟨_, (decide ((l0.length : Int) > 200)), (by first | rfl | (simp; done) | (simp [*]; done)), H', ⟨by first | omega | exact Nat.le_refl _⟩, ⟨by repeat (first | (with_reducible first | exact HB.out | apply below_alloc | apply pw_below_drewN | apply below_drew1) | exact HB.out)⟩⟩
    · replace c5 := Bool.eq_false_iff.mpr c5
      subst c5
      have H1 : (wayfinderlaw15_SessGoes.j0 k l0 false true) = some r := by rw [if_neg (show ¬ (false = true) by decide)] at H; exact H
      clear H
      have H := H1
      clear H1
      have H' := Aside0.mk H
      clear H
      go_wp2
      go_meet
      case rel => exact ⟨_, (true), (by first | rfl | (simp; done) | (simp [*]; done)), H', ⟨by first | omega | exact Nat.le_refl _⟩, ⟨by repeat (first | (with_reducible first | exact HB.out | apply below_alloc | apply pw_below_drewN | apply below_drew1) | exact HB.out)⟩⟩
  case rest =>
    clear HC3
    try clear c1
    try clear p2
    try clear c5
    obtain ⟨kq, x17_2, rfl, HA, HJ2, HB⟩ := hcut
    cases kq with
    | zero => exact absurd HA.out (by simp [wayfinderlaw15_SessGoes.j0])
    | succ kj2 =>
      have H := HA.out
      clear HA
      simp only [wayfinderlaw15_SessGoes.j0] at H
      by_cases c6 : x17_2 = true
      · subst c6
        have H1 : (some t335) = some r := by rw [if_pos rfl] at H; exact H
        clear H
        have H := H1
        clear H1
        obtain rfl := Option.some.inj H
        go_wp2
        go_ret
        exact ⟨by first | rfl | (simp [errW_none, errW_some] <;> rfl) | (simp [*, errW_none, errW_some] <;> rfl), by repeat (first | (with_reducible first | exact HB.out | apply below_alloc | apply pw_below_drewN | apply below_drew1) | exact HB.out)⟩
      · replace c6 := Bool.eq_false_iff.mpr c6
        subst c6
        have H1 : ((sess_New.f 1).bind fun bt336 => (wayfinderlaw15_SessGoes.l0 kj2 l0 0 bt336.1 bt336.2.1 bt336.2.2)) = some r := by rw [if_neg (show ¬ (false = true) by decide)] at H; exact H
        clear H
        have H := H1
        clear H1
        replace H := Option.bind_eq_some_iff.mp H
        obtain ⟨⟨t336, t337, t338⟩, A70, H⟩ := H
        replace H : (wayfinderlaw15_SessGoes.l0 kj2 l0 0 t336 t337 t338) = some r := H
        have A7 := Aside0.mk A70
        clear A70
        have H' := Aside0.mk H
        clear H
        go_wp2_with (first | ((with_reducible refine gate_callee (f := 16) rfl ?_); refine goesL_ (some 19) rfl rfl Try.func16 (by kernel_rfl) rfl #[.int .i64 1] rfl (by (try simp only [List.map_toArray, List.map_cons, List.map_nil]); first | done | rfl | (simp only [List.length_drop, List.length_take]; rfl)) ?_; (with_reducible refine (sess_New.calls 1 t336 t337 t338 _ A7.out).mono ?_); rintro e w8 ⟨v339, rfl, ho0, hb⟩; refine ⟨_, rfl, ?_⟩; have n0_ := Aside0.mk (Kd.R_lower ho0 (below_size (by repeat (first | (with_reducible first | exact HB.out | apply below_alloc | apply pw_below_drewN | apply below_drew1) | exact HB.out)))); have n1_ := Aside0.mk (below_step (by repeat (first | (with_reducible first | exact HB.out | apply below_alloc | apply pw_below_drewN | apply below_drew1) | exact HB.out)) hb); clear HB; have HO340 := n0_; have HB := n1_; clear n0_ n1_; (try clear hb); (try clear hb2); (try clear hk); (try clear hi); (try clear ho0)) | ((with_reducible refine gate_dst (N := 4) rfl ?_); (try (refine gate_guard (by rfl) ?_; dsimp only)); refine box_event ?hg (N := 4) ?hd (cs := #[.int .i64 0, .int .i64 0, .slice none 0 0]) (t := 41) ?hr ?_; (case hd => rfl); (case hg => rfl); (case hr => first | (go_simp; done) | (go_simp; rfl)); intro gb341 hg w9 hbox hb; have n0_ := Aside0.mk (Kd.R_below (by (with_reducible repeat (first | apply Kd.R_alloc | apply Kd.R_drewN | apply Kd.R_drew)); exact HO340.out) hb); have n1_ := Aside0.mk (below_step (by repeat (first | (with_reducible first | exact HB.out | apply below_alloc | apply pw_below_drewN | apply below_drew1) | exact HB.out)) hb); have n2_ := Aside0.mk (hbox); have n3_ := Aside0.mk ((by rw [hg]; exact (below_size (by repeat (first | (with_reducible first | exact HB.out | apply below_alloc | apply pw_below_drewN | apply below_drew1) | exact HB.out))) : w.heap.size ≤ gb341)); have n4_ := Aside0.mk ((by rw [hg]; exact (below_size (by repeat (first | (with_reducible first | exact HB.out | apply below_alloc | apply pw_below_drewN | apply below_drew1) | exact HB.out))) : w.heap.size ≤ gb341)); clear HO340; clear HB; have HO340 := n0_; have HB := n1_; have BK341 := n2_; have GW341 := n3_; have GE341 := n4_; clear n0_ n1_ n2_ n3_ n4_; clear hb hbox hg; have hcz10_0 : w9.cell? ⟨gb341, 0, none⟩ = some (.int .i64 0) := (blk_cell BK341.out 0).trans rfl; have hcz10_1 : w9.cell? ⟨gb341, 1, none⟩ = some (.int .i64 0) := (blk_cell BK341.out 1).trans rfl; have hcz10_2 : w9.cell? ⟨gb341, 2, none⟩ = some (.slice none 0 0) := (blk_cell BK341.out 2).trans rfl; have hfz10_0 := blk_frozen BK341.out 0; have hfz10_1 := blk_frozen BK341.out 1; have hfz10_2 := blk_frozen BK341.out 2; obtain ⟨Ao11, co11, eo11⟩ := Kd.R_slice HO340.out; subst eo11))
        go_loopg [5] kj2 (fun kq v5 w' => ∃ (x5_2 : Int) (x342000_2 : Int) (x342001_2 : Int) (x342002_2 : List (S34)) (u342002 : Value), v5 = .int .i64 x5_2 ∧ Aside0 (wayfinderlaw15_SessGoes.l0 kq l0 x5_2 x342000_2 x342001_2 x342002_2 = some r) ∧ Aside0 (kq ≤ kj2) ∧ Aside0 (Kd.V k34 34 w' w.heap.size (fun k_ => k_ ≠ gb341) u342002 x342002_2) ∧ Aside0 (w'.heap[gb341]? = some (.cells #[.int .i64 x342000_2, .int .i64 x342001_2, u342002] 41 (0, 0))) ∧ Aside0 (Below w.heap.size w w'))
        case atStart => exact ⟨(0), (t336), (t337), (t338), (.slice Ao11 t338.length co11), (by first | rfl | (simp; done) | (simp [*]; done)), H', ⟨Nat.le_refl _⟩, ⟨Kd.R_V (by (with_reducible repeat (first | apply Kd.R_alloc | apply Kd.R_drewN | apply Kd.R_drew)); exact Kd.R_mono (Kd.R_far (p := ⟨gb341, 2, none⟩) (Kd.R_far (p := ⟨gb341, 1, none⟩) (Kd.R_far (p := ⟨gb341, 0, none⟩) (Kd.R_types (Kd.R_types HO340.out BK341.out (by decide)) BK341.out (by decide)) (fun _ hk => hk.2) (.int .i64 t336)) (fun _ hk => hk.2) (.int .i64 t337)) (fun _ hk => hk.2) (.slice Ao11 t338.length co11)) (fun _ hk => hk.1.2))⟩, ⟨by (with_reducible repeat (first | refine blk_drewN ?_ _ | refine blk_drew ?_ | refine blk_alloc ?_ _)); refine blk_put (cs := #[.int .i64 t336, .int .i64 t337, .slice none 0 0]) ?_ 2 _ rfl; (with_reducible repeat (first | refine blk_drewN ?_ _ | refine blk_drew ?_ | refine blk_alloc ?_ _)); refine blk_put (cs := #[.int .i64 t336, .int .i64 0, .slice none 0 0]) ?_ 1 _ rfl; (with_reducible repeat (first | refine blk_drewN ?_ _ | refine blk_drew ?_ | refine blk_alloc ?_ _)); refine blk_put (cs := #[.int .i64 0, .int .i64 0, .slice none 0 0]) ?_ 0 _ rfl; (with_reducible repeat (first | refine blk_drewN ?_ _ | refine blk_drew ?_ | refine blk_alloc ?_ _)); exact BK341.out⟩, ⟨by repeat (first | (with_reducible first | exact HB.out | apply below_alloc | apply pw_below_drewN | apply below_drew1 | refine below_set ?_ GE341.out) | exact HB.out)⟩⟩
        case round =>
          clear H'
          try clear c1
          try clear p2
          try clear c5
          try clear c6
          try clear c7
          try clear hcz10_0
          try clear hcz10_1
          try clear hcz10_2
          try clear hfz10_0
          try clear hfz10_1
          try clear hfz10_2
          try clear p2
          obtain ⟨x5_2, x342000_2, x342001_2, x342002_2, u342002, rfl, HA, HK2, HO_342002, BK341, HB⟩ := hrel
          cases gk with
          | zero => exact absurd HA.out (by simp [wayfinderlaw15_SessGoes.l0])
          | succ k2 =>
            have H := HA.out
            clear HA
            simp only [wayfinderlaw15_SessGoes.l0] at H
            by_cases c12 : x5_2 < (l0.length : Int)
            · rw [if_pos c12] at H
              have c12b0 : decide (x5_2 < (l0.length : Int)) = true := decide_eq_true c12
              clear c12
              by_cases c13 : 0 ≤ x5_2
              · rw [if_pos c13] at H
                have c13b0 : decide (0 ≤ x5_2) = true := decide_eq_true c13
                clear c13
                replace H := Option.bind_eq_some_iff.mp H
                obtain ⟨⟨t343, t344, t345, t348⟩, A140, H⟩ := H
                replace H : (wayfinderlaw15_SessGoes.l0 k2 l0 (wrap64 (x5_2 + 1)) t343 t344 t345) = some r := H
                have A14 := Aside0.mk A140
                clear A140
                have H' := Aside0.mk H
                clear H
                obtain ⟨Ao15, co15, eo15⟩ := Kd.V_slice HO_342002.out
                subst eo15
                try go_wp2
                have n0_ := Aside0.mk (Kd.V_drew HO_342002.out)
                have n1_ := Aside0.mk (blk_drew BK341.out)
                have n2_ := Aside0.mk (below_drew1 HB.out)
                clear HO_342002
                clear BK341
                clear HB
                have HO_342002 := n0_
                have BK341 := n1_
                have HB := n2_
                clear n0_ n1_ n2_
                have p342 : 0 ≤ (x5_2 : Int) := of_decide_eq_true (by first | (with_reducible assumption) | assumption)
                have q342 : x5_2 < (l0.length : Int) := of_decide_eq_true (by first | (with_reducible assumption) | assumption)
                obtain ⟨ad342, e342, hx342_0⟩ := Kd.at_int HR0.out x5_2 p342 q342
                have hw342_0 := hx342_0
                cases e342
                replace hx342_0 := (HB.out.cell (World.block_lt_of_cell? w _ hx342_0)).trans hx342_0
                replace p342 := eq_true p342
                replace q342 := eq_true q342
                refine start_ (n := 13) (S := fun w' => w'.cell? ⟨gb341, 0, none⟩ = some (.int .i64 x342000_2) ∧ w'.cell? ⟨gb341, 1, none⟩ = some (.int .i64 x342001_2) ∧ w'.cell? ⟨gb341, 2, none⟩ = some (.slice Ao15 x342002_2.length co15) ∧ w'.cell? (ad342.add (x5_2).toNat) = some (.int .i64 (rd l0 x5_2))) (ds := []) #[false, false, false, false, false, false, false, false, false, false, false, false, false] (by kernel_rfl) rfl rfl ⟨(blk_cell BK341.out 0).trans rfl, (blk_cell BK341.out 1).trans rfl, (blk_cell BK341.out 2).trans rfl, ((HB.out.cell (World.block_lt_of_cell? w _ hw342_0)).trans hw342_0)⟩ (fun hHeld => ?_); refine with_tabW wayfinderlaw15_SessGoes.tab8 wayfinderlaw15_SessGoes.bits8 (fun HT_ HW_ => ?_)
                generalize wr.drew = w16 at HO_342002 BK341 HB hx342_0 hHeld ⊢
                refine pure_ (i := 1) (N := some 28) (v := ?_) (a' := ?_) #[false, true, false, false, false, false, false, false, false, false, false, false, false] rfl rfl (any_of HT_.out (by kernel_rfl)) (fun _ _ _ h => h) (Or.inl ⟨by rfl, ?_⟩) ?_ ?_
                rotate_left
                · intro w'
                  go_simp
                  with_reducible rfl
                rotate_left
                · simp only [Act.put, List.setIfInBounds_toArray, List.set_cons_zero, List.set_cons_succ, i64_w, i32_w]
                  rfl
                refine pure_ (i := 2) (N := some 29) (v := ?_) (a' := ?_) #[false, true, true, false, false, false, false, false, false, false, false, false, false] rfl rfl (any_of HT_.out (by kernel_rfl)) (fun _ _ _ h => h) (Or.inl ⟨by rfl, ?_⟩) ?_ ?_
                rotate_left
                · intro w'
                  go_simp
                  with_reducible rfl
                rotate_left
                · simp only [Act.put, List.setIfInBounds_toArray, List.set_cons_zero, List.set_cons_succ, i64_w, i32_w]
                  rfl
                refine pure_ (i := 3) (N := some 30) (v := ?_) (a' := ?_) #[false, true, true, true, false, false, false, false, false, false, false, false, false] rfl rfl (any_of HT_.out (by kernel_rfl)) (fun _ _ _ h => h) (Or.inl ⟨by rfl, ?_⟩) ?_ ?_
                rotate_left
                · intro w'
                  go_simp
                  with_reducible rfl
                rotate_left
                · simp only [Act.put, List.setIfInBounds_toArray, List.set_cons_zero, List.set_cons_succ, i64_w, i32_w]
                  rfl
                refine take_ (i := 0) (N := some 27) (v := ?_) (a' := ?_) #[true, true, true, true, false, false, false, false, false, false, false, false, false] rfl rfl (take_ofW HT_.out HW_.out (by kernel_rfl)) (fun _ _ _ h => h) (Or.inl ⟨by rfl, ?_⟩) hHeld ?_ ?_
                rotate_left
                · rintro w' ⟨s0, s1, s2, s3⟩
                  go_simp
                  with_reducible rfl
                rotate_left
                · simp only [Act.put, List.setIfInBounds_toArray, List.set_cons_zero, List.set_cons_succ, i64_w, i32_w]
                  rfl
                refine take_ (i := 4) (N := some 31) (v := ?_) (a' := ?_) #[true, true, true, true, true, false, false, false, false, false, false, false, false] rfl rfl (take_ofW HT_.out HW_.out (by kernel_rfl)) (fun _ _ _ h => h) (Or.inl ⟨by rfl, ?_⟩) hHeld ?_ ?_
                rotate_left
                · rintro w' ⟨s0, s1, s2, s3⟩
                  go_simp
                  with_reducible rfl
                rotate_left
                · simp only [Act.put, List.setIfInBounds_toArray, List.set_cons_zero, List.set_cons_succ, i64_w, i32_w]
                  rfl
                refine pure_ (i := 5) (N := some 32) (v := ?_) (a' := ?_) #[true, true, true, true, true, true, false, false, false, false, false, false, false] rfl rfl (any_of HT_.out (by kernel_rfl)) (fun _ _ _ h => h) (Or.inl ⟨by rfl, ?_⟩) ?_ ?_
                rotate_left
                · intro w'
                  go_simp
                  with_reducible rfl
                rotate_left
                · simp only [Act.put, List.setIfInBounds_toArray, List.set_cons_zero, List.set_cons_succ, i64_w, i32_w]
                  rfl
                refine join_ (σ := Value × Nat) 2 #[true, true, true, true, true, true, true, true, true, true, true, false, false] (fun s_ => [(33, .tuple #[.agg #[.int .i64 t343, .int .i64 t344, s_.1], .int .i64 t348]), (6, .pointer (some ⟨s_.2, 0, none⟩)), (26, .tuple #[.agg #[.int .i64 t343, .int .i64 t344, s_.1], .int .i64 t348]), (34, .agg #[.int .i64 t343, .int .i64 t344, s_.1]), (35, .int .i64 t348)]) (fun s_ w' => (w'.cell? ⟨gb341, 0, none⟩ = some (.int .i64 x342000_2) ∧ w'.cell? ⟨gb341, 1, none⟩ = some (.int .i64 x342001_2) ∧ w'.cell? ⟨gb341, 2, none⟩ = some (.slice Ao15 x342002_2.length co15) ∧ w'.cell? (ad342.add (x5_2).toNat) = some (.int .i64 (rd l0 x5_2))) ∧ (Kd.R k34 34 w' w.heap.size (fun _ => True) s_.1 t345) ∧ (Kd.V k34 34 w' w.heap.size (fun k_ => some k_ ≠ (s_.1 : Value).ownBlock ∧ k_ ≠ gb341 ∧ k_ ≠ s_.2) (.slice Ao15 x342002_2.length co15) x342002_2) ∧ (w'.heap[gb341]? = some (.cells #[.int .i64 x342000_2, .int .i64 x342001_2, .slice Ao15 x342002_2.length co15] 41 (0, 0))) ∧ (w'.heap[s_.2]? = some (.cells #[.int .i64 0, .int .i64 0, .slice none 0 0] 41 (0, 0))) ∧ (w.heap.size ≤ s_.2) ∧ (w.heap.size ≤ s_.2) ∧ (gb341 ≠ s_.2) ∧ (s_.2 ≠ gb341) ∧ (Below w.heap.size w w')) ?_ ?_
                rotate_left
                · intro hCont
                  refine two_ (i := 6) (j := 10) (Ni := some 33) (Nj := some 6) #[true, true, true, true, true, true, true, false, false, false, false, false, false] #[true, true, true, true, true, true, false, false, false, false, true, false, false] rfl rfl rfl rfl (two_of HT_.out (by kernel_rfl)) (by decide) (by decide) (fun K hK => ?_) (fun K hK => ?_)
                  · skip
                    refine goes_ Try.func17 (by kernel_rfl) rfl #[.agg #[.int .i64 x342000_2, .int .i64 x342001_2, .slice Ao15 x342002_2.length co15], .agg #[.int .i64 0, .int .i64 0, .int .i64 0, .int .i64 (rd l0 x5_2), .int .i64 0, .int .i64 0, .int .i64 0, .int .i64 0, .int .i64 0, .int .i64 0]] (by rfl) rfl rfl (by (try simp only [List.map_toArray, List.map_cons, List.map_nil]); first | done | rfl | (simp only [List.length_drop, List.length_take]; rfl)) ?_
                    with_reducible refine (sess_Push.calls x342000_2 x342001_2 _ _ x342002_2 0 0 0 (rd l0 x5_2) 0 0 0 0 0 0 t343 t344 t345 t348 _ ?side1 ?side2 A14.out).mono ?_
                    (case side1 => repeat (first | exact (Kd.V_reads' HO_342002.out).2.2 | (with_reducible refine Kd.C_alloc ?_ _) | (with_reducible refine Kd.C_drewN ?_ _) | (with_reducible refine Kd.C_drew ?_)))
                    (case side2 => exact (Kd.V_reads' HO_342002.out).2.1)
                    rintro e w17 ⟨v346, rfl, ho0, hb⟩
                    refine ⟨_, rfl, ?_⟩
                    have n0_ := Aside0.mk (Kd.V_elder' (by (with_reducible repeat (first | apply Kd.V_alloc | apply Kd.V_drewN | apply Kd.V_drew)); exact HO_342002.out) (Kd.R_base ho0) hb)
                    have n1_ := Aside0.mk (Kd.R_lower ho0 (below_size (by repeat (first | (with_reducible first | exact HB.out | apply below_alloc | apply pw_below_drewN | apply below_drew1 | refine below_set ?_ GE341.out) | exact HB.out))))
                    have n2_ := Aside0.mk (blk_below (g := gb341) (o := .cells #[.int .i64 x342000_2, .int .i64 x342001_2, .slice Ao15 x342002_2.length co15] 41 (0, 0)) (by (with_reducible repeat (first | refine blk_drewN ?_ _ | refine blk_drew ?_ | refine blk_alloc ?_ _)); exact BK341.out) hb)
                    have n3_ := Aside0.mk (below_step (by repeat (first | (with_reducible first | exact HB.out | apply below_alloc | apply pw_below_drewN | apply below_drew1 | refine below_set ?_ GE341.out) | exact HB.out)) hb)
                    clear HO_342002
                    clear BK341
                    clear HB
                    have HO_342002 := n0_
                    have HO347 := n1_
                    have BK341 := n2_
                    have HB := n3_
                    clear n0_ n1_ n2_ n3_
                    (try clear hb)
                    (try clear hb2)
                    (try clear hk)
                    (try clear hi)
                    (try clear ho0)
                    refine hK.out _ _ ⟨(blk_cell BK341.out 0).trans rfl, (blk_cell BK341.out 1).trans rfl, (blk_cell BK341.out 2).trans rfl, ((HB.out.cell (World.block_lt_of_cell? w _ hw342_0)).trans hw342_0)⟩ (fun hHeld => ?_)
                    clear hK K
                    refine norm_ (a' := ?_) ?_ ?_
                    rotate_left
                    · show Act.put _ (some 33) _ = _
                      simp only [Act.put, List.setIfInBounds_toArray, List.set_cons_zero, List.set_cons_succ, i64_w, i32_w]
                      rfl
                    refine pure_ (i := 7) (N := some 26) (v := ?_) (a' := ?_) #[true, true, true, true, true, true, true, true, false, false, false, false, false] rfl rfl (any_of HT_.out (by kernel_rfl)) (fun _ _ _ h => h) (Or.inl ⟨by rfl, ?_⟩) ?_ ?_
                    rotate_left
                    · intro w'
                      go_simp
                      with_reducible rfl
                    rotate_left
                    · simp only [Act.put, List.setIfInBounds_toArray, List.set_cons_zero, List.set_cons_succ, i64_w, i32_w]
                      rfl
                    refine pure_ (i := 8) (N := some 34) (v := ?_) (a' := ?_) #[true, true, true, true, true, true, true, true, true, false, false, false, false] rfl rfl (any_of HT_.out (by kernel_rfl)) (fun _ _ _ h => h) (Or.inl ⟨by rfl, ?_⟩) ?_ ?_
                    rotate_left
                    · intro w'
                      go_simp
                      with_reducible rfl
                    rotate_left
                    · simp only [Act.put, List.setIfInBounds_toArray, List.set_cons_zero, List.set_cons_succ, i64_w, i32_w]
                      rfl
                    refine pure_ (i := 9) (N := some 35) (v := ?_) (a' := ?_) #[true, true, true, true, true, true, true, true, true, true, false, false, false] rfl rfl (any_of HT_.out (by kernel_rfl)) (fun _ _ _ h => h) (Or.inl ⟨by rfl, ?_⟩) ?_ ?_
                    rotate_left
                    · intro w'
                      go_simp
                      with_reducible rfl
                    rotate_left
                    · simp only [Act.put, List.setIfInBounds_toArray, List.set_cons_zero, List.set_cons_succ, i64_w, i32_w]
                      rfl
                    refine one_ (i := 10) (N := some 6) #[true, true, true, true, true, true, true, true, true, true, true, false, false] rfl rfl (one_of HT_.out (by kernel_rfl)) (by decide) (fun K hK => ?_)
                    refine box_step ?hg (N := 6) ?hd (cs := #[.int .i64 0, .int .i64 0, .slice none 0 0]) (t := 41) ?hr ?_; (case hd => rfl); (case hg => rfl); (case hr => first | (go_simp; done) | (go_simp; rfl))
                    intro gb349 hg w18 hbox hb
                    have n0_ := Aside0.mk (Kd.V_below (Kd.V_elderB (by (with_reducible repeat (first | apply Kd.V_alloc | apply Kd.V_drewN | apply Kd.V_drew)); exact HO_342002.out) gb349 (Nat.le_of_eq hg.symm)) hb)
                    have n1_ := Aside0.mk (Kd.R_below (by (with_reducible repeat (first | apply Kd.R_alloc | apply Kd.R_drewN | apply Kd.R_drew)); exact HO347.out) hb)
                    have n2_ := Aside0.mk (blk_below (g := gb341) (o := .cells #[.int .i64 x342000_2, .int .i64 x342001_2, .slice Ao15 x342002_2.length co15] 41 (0, 0)) (by (with_reducible repeat (first | refine blk_drewN ?_ _ | refine blk_drew ?_ | refine blk_alloc ?_ _)); exact BK341.out) hb)
                    have n3_ := Aside0.mk (below_step (by repeat (first | (with_reducible first | exact HB.out | apply below_alloc | apply pw_below_drewN | apply below_drew1 | refine below_set ?_ GE341.out) | exact HB.out)) hb)
                    have n4_ := Aside0.mk (hbox)
                    have n5_ := Aside0.mk ((by rw [hg]; exact (below_size (by repeat (first | (with_reducible first | exact HB.out | apply below_alloc | apply pw_below_drewN | apply below_drew1 | refine below_set ?_ GE341.out) | exact HB.out))) : w.heap.size ≤ gb349))
                    have n6_ := Aside0.mk ((by rw [hg]; exact (below_size (by repeat (first | (with_reducible first | exact HB.out | apply below_alloc | apply pw_below_drewN | apply below_drew1 | refine below_set ?_ GE341.out) | exact HB.out))) : w.heap.size ≤ gb349))
                    have n7_ := Aside0.mk ((by rw [hg]; exact Nat.ne_of_lt (blk_lt (g := gb341) (o := .cells #[.int .i64 x342000_2, .int .i64 x342001_2, .slice Ao15 x342002_2.length co15] 41 (0, 0)) (by (with_reducible repeat (first | refine blk_drewN ?_ _ | refine blk_drew ?_ | refine blk_alloc ?_ _)); exact BK341.out)) : gb341 ≠ gb349))
                    have n8_ := Aside0.mk ((by rw [hg]; exact Nat.ne_of_gt (blk_lt (g := gb341) (o := .cells #[.int .i64 x342000_2, .int .i64 x342001_2, .slice Ao15 x342002_2.length co15] 41 (0, 0)) (by (with_reducible repeat (first | refine blk_drewN ?_ _ | refine blk_drew ?_ | refine blk_alloc ?_ _)); exact BK341.out)) : gb349 ≠ gb341))
                    clear HO_342002
                    clear HO347
                    clear BK341
                    clear HB
                    have HO_342002 := n0_
                    have HO347 := n1_
                    have BK341 := n2_
                    have HB := n3_
                    have BK349 := n4_
                    have GW349 := n5_
                    have GE349 := n6_
                    have NB341_349 := n7_
                    have NB349_341 := n8_
                    clear n0_ n1_ n2_ n3_ n4_ n5_ n6_ n7_ n8_
                    clear hb hbox hg
                    refine hK.out _ _ ⟨(blk_cell BK341.out 0).trans rfl, (blk_cell BK341.out 1).trans rfl, (blk_cell BK341.out 2).trans rfl, ((HB.out.cell (World.block_lt_of_cell? w _ hw342_0)).trans hw342_0)⟩ (fun hHeld => ?_)
                    clear hK K
                    refine norm_ (a' := ?_) ?_ ?_
                    rotate_left
                    · show Act.put _ (some 6) _ = _
                      simp only [Act.put, List.setIfInBounds_toArray, List.set_cons_zero, List.set_cons_succ, i64_w, i32_w]
                      rfl
                    exact norm_ (by simp only [putAll, Act.put, List.setIfInBounds_toArray, List.set_cons_zero, List.set_cons_succ]) (hCont (v346, gb349) _ ⟨hHeld, (by (with_reducible repeat (first | apply Kd.R_alloc | apply Kd.R_drewN | apply Kd.R_drew)); exact HO347.out), (by (with_reducible repeat (first | apply Kd.V_alloc | apply Kd.V_drewN | apply Kd.V_drew)); exact Kd.V_mono HO_342002.out (fun _ hk => ⟨hk.1.2, ⟨hk.1.1, hk.2⟩⟩)), (by (with_reducible repeat (first | refine blk_drewN ?_ _ | refine blk_drew ?_ | refine blk_alloc ?_ _)); exact BK341.out), (by (with_reducible repeat (first | refine blk_drewN ?_ _ | refine blk_drew ?_ | refine blk_alloc ?_ _)); exact BK349.out), GW349.out, GE349.out, NB341_349.out, NB349_341.out, (by repeat (first | (with_reducible first | exact HB.out | apply below_alloc | apply pw_below_drewN | apply below_drew1 | refine below_set ?_ GE341.out | refine below_set ?_ GE349.out) | exact HB.out))⟩)
                  · skip
                    refine box_step ?hg (N := 6) ?hd (cs := #[.int .i64 0, .int .i64 0, .slice none 0 0]) (t := 41) ?hr ?_; (case hd => rfl); (case hg => rfl); (case hr => first | (go_simp; done) | (go_simp; rfl))
                    intro gb349 hg w17 hbox hb
                    have n0_ := Aside0.mk (Kd.V_below (Kd.V_elderB (by (with_reducible repeat (first | apply Kd.V_alloc | apply Kd.V_drewN | apply Kd.V_drew)); exact HO_342002.out) gb349 (Nat.le_of_eq hg.symm)) hb)
                    have n1_ := Aside0.mk (blk_below (g := gb341) (o := .cells #[.int .i64 x342000_2, .int .i64 x342001_2, .slice Ao15 x342002_2.length co15] 41 (0, 0)) (by (with_reducible repeat (first | refine blk_drewN ?_ _ | refine blk_drew ?_ | refine blk_alloc ?_ _)); exact BK341.out) hb)
                    have n2_ := Aside0.mk (below_step (by repeat (first | (with_reducible first | exact HB.out | apply below_alloc | apply pw_below_drewN | apply below_drew1 | refine below_set ?_ GE341.out) | exact HB.out)) hb)
                    have n3_ := Aside0.mk (hbox)
                    have n4_ := Aside0.mk ((by rw [hg]; exact (below_size (by repeat (first | (with_reducible first | exact HB.out | apply below_alloc | apply pw_below_drewN | apply below_drew1 | refine below_set ?_ GE341.out) | exact HB.out))) : w.heap.size ≤ gb349))
                    have n5_ := Aside0.mk ((by rw [hg]; exact (below_size (by repeat (first | (with_reducible first | exact HB.out | apply below_alloc | apply pw_below_drewN | apply below_drew1 | refine below_set ?_ GE341.out) | exact HB.out))) : w.heap.size ≤ gb349))
                    have n6_ := Aside0.mk ((by rw [hg]; exact Nat.ne_of_lt (blk_lt (g := gb341) (o := .cells #[.int .i64 x342000_2, .int .i64 x342001_2, .slice Ao15 x342002_2.length co15] 41 (0, 0)) (by (with_reducible repeat (first | refine blk_drewN ?_ _ | refine blk_drew ?_ | refine blk_alloc ?_ _)); exact BK341.out)) : gb341 ≠ gb349))
                    have n7_ := Aside0.mk ((by rw [hg]; exact Nat.ne_of_gt (blk_lt (g := gb341) (o := .cells #[.int .i64 x342000_2, .int .i64 x342001_2, .slice Ao15 x342002_2.length co15] 41 (0, 0)) (by (with_reducible repeat (first | refine blk_drewN ?_ _ | refine blk_drew ?_ | refine blk_alloc ?_ _)); exact BK341.out)) : gb349 ≠ gb341))
                    clear HO_342002
                    clear BK341
                    clear HB
                    have HO_342002 := n0_
                    have BK341 := n1_
                    have HB := n2_
                    have BK349 := n3_
                    have GW349 := n4_
                    have GE349 := n5_
                    have NB341_349 := n6_
                    have NB349_341 := n7_
                    clear n0_ n1_ n2_ n3_ n4_ n5_ n6_ n7_
                    clear hb hbox hg
                    refine hK.out _ _ ⟨(blk_cell BK341.out 0).trans rfl, (blk_cell BK341.out 1).trans rfl, (blk_cell BK341.out 2).trans rfl, ((HB.out.cell (World.block_lt_of_cell? w _ hw342_0)).trans hw342_0)⟩ (fun hHeld => ?_)
                    clear hK K
                    refine norm_ (a' := ?_) ?_ ?_
                    rotate_left
                    · show Act.put _ (some 6) _ = _
                      simp only [Act.put, List.setIfInBounds_toArray, List.set_cons_zero, List.set_cons_succ, i64_w, i32_w]
                      rfl
                    refine one_ (i := 6) (N := some 33) #[true, true, true, true, true, true, true, false, false, false, true, false, false] rfl rfl (one_of HT_.out (by kernel_rfl)) (by decide) (fun K hK => ?_)
                    refine goes_ Try.func17 (by kernel_rfl) rfl #[.agg #[.int .i64 x342000_2, .int .i64 x342001_2, .slice Ao15 x342002_2.length co15], .agg #[.int .i64 0, .int .i64 0, .int .i64 0, .int .i64 (rd l0 x5_2), .int .i64 0, .int .i64 0, .int .i64 0, .int .i64 0, .int .i64 0, .int .i64 0]] (by rfl) rfl rfl (by (try simp only [List.map_toArray, List.map_cons, List.map_nil]); first | done | rfl | (simp only [List.length_drop, List.length_take]; rfl)) ?_
                    with_reducible refine (sess_Push.calls x342000_2 x342001_2 _ _ x342002_2 0 0 0 (rd l0 x5_2) 0 0 0 0 0 0 t343 t344 t345 t348 _ ?side1 ?side2 A14.out).mono ?_
                    (case side1 => repeat (first | exact (Kd.V_reads' HO_342002.out).2.2 | (with_reducible refine Kd.C_alloc ?_ _) | (with_reducible refine Kd.C_drewN ?_ _) | (with_reducible refine Kd.C_drew ?_)))
                    (case side2 => exact (Kd.V_reads' HO_342002.out).2.1)
                    rintro e w18 ⟨v346, rfl, ho0, hb⟩
                    refine ⟨_, rfl, ?_⟩
                    have n0_ := Aside0.mk (Kd.V_elder' (by (with_reducible repeat (first | apply Kd.V_alloc | apply Kd.V_drewN | apply Kd.V_drew)); exact HO_342002.out) (Kd.R_base ho0) hb)
                    have n1_ := Aside0.mk (Kd.R_lower ho0 (below_size (by repeat (first | (with_reducible first | exact HB.out | apply below_alloc | apply pw_below_drewN | apply below_drew1 | refine below_set ?_ GE341.out | refine below_set ?_ GE349.out) | exact HB.out))))
                    have n2_ := Aside0.mk (blk_below (g := gb341) (o := .cells #[.int .i64 x342000_2, .int .i64 x342001_2, .slice Ao15 x342002_2.length co15] 41 (0, 0)) (by (with_reducible repeat (first | refine blk_drewN ?_ _ | refine blk_drew ?_ | refine blk_alloc ?_ _)); exact BK341.out) hb)
                    have n3_ := Aside0.mk (blk_below (g := gb349) (o := .cells #[.int .i64 0, .int .i64 0, .slice none 0 0] 41 (0, 0)) (by (with_reducible repeat (first | refine blk_drewN ?_ _ | refine blk_drew ?_ | refine blk_alloc ?_ _)); exact BK349.out) hb)
                    have n4_ := Aside0.mk (below_step (by repeat (first | (with_reducible first | exact HB.out | apply below_alloc | apply pw_below_drewN | apply below_drew1 | refine below_set ?_ GE341.out | refine below_set ?_ GE349.out) | exact HB.out)) hb)
                    clear HO_342002
                    clear BK341
                    clear BK349
                    clear HB
                    have HO_342002 := n0_
                    have HO347 := n1_
                    have BK341 := n2_
                    have BK349 := n3_
                    have HB := n4_
                    clear n0_ n1_ n2_ n3_ n4_
                    (try clear hb)
                    (try clear hb2)
                    (try clear hk)
                    (try clear hi)
                    (try clear ho0)
                    refine hK.out _ _ ⟨(blk_cell BK341.out 0).trans rfl, (blk_cell BK341.out 1).trans rfl, (blk_cell BK341.out 2).trans rfl, ((HB.out.cell (World.block_lt_of_cell? w _ hw342_0)).trans hw342_0)⟩ (fun hHeld => ?_)
                    clear hK K
                    refine norm_ (a' := ?_) ?_ ?_
                    rotate_left
                    · show Act.put _ (some 33) _ = _
                      simp only [Act.put, List.setIfInBounds_toArray, List.set_cons_zero, List.set_cons_succ, i64_w, i32_w]
                      rfl
                    refine pure_ (i := 7) (N := some 26) (v := ?_) (a' := ?_) #[true, true, true, true, true, true, true, true, false, false, true, false, false] rfl rfl (any_of HT_.out (by kernel_rfl)) (fun _ _ _ h => h) (Or.inl ⟨by rfl, ?_⟩) ?_ ?_
                    rotate_left
                    · intro w'
                      go_simp
                      with_reducible rfl
                    rotate_left
                    · simp only [Act.put, List.setIfInBounds_toArray, List.set_cons_zero, List.set_cons_succ, i64_w, i32_w]
                      rfl
                    refine pure_ (i := 8) (N := some 34) (v := ?_) (a' := ?_) #[true, true, true, true, true, true, true, true, true, false, true, false, false] rfl rfl (any_of HT_.out (by kernel_rfl)) (fun _ _ _ h => h) (Or.inl ⟨by rfl, ?_⟩) ?_ ?_
                    rotate_left
                    · intro w'
                      go_simp
                      with_reducible rfl
                    rotate_left
                    · simp only [Act.put, List.setIfInBounds_toArray, List.set_cons_zero, List.set_cons_succ, i64_w, i32_w]
                      rfl
                    refine pure_ (i := 9) (N := some 35) (v := ?_) (a' := ?_) #[true, true, true, true, true, true, true, true, true, true, true, false, false] rfl rfl (any_of HT_.out (by kernel_rfl)) (fun _ _ _ h => h) (Or.inl ⟨by rfl, ?_⟩) ?_ ?_
                    rotate_left
                    · intro w'
                      go_simp
                      with_reducible rfl
                    rotate_left
                    · simp only [Act.put, List.setIfInBounds_toArray, List.set_cons_zero, List.set_cons_succ, i64_w, i32_w]
                      rfl
                    exact norm_ (by simp only [putAll, Act.put, List.setIfInBounds_toArray, List.set_cons_zero, List.set_cons_succ]) (hCont (v346, gb349) _ ⟨hHeld, (by (with_reducible repeat (first | apply Kd.R_alloc | apply Kd.R_drewN | apply Kd.R_drew)); exact HO347.out), (by (with_reducible repeat (first | apply Kd.V_alloc | apply Kd.V_drewN | apply Kd.V_drew)); exact Kd.V_mono HO_342002.out (fun _ hk => ⟨hk.2, ⟨hk.1.1, hk.1.2⟩⟩)), (by (with_reducible repeat (first | refine blk_drewN ?_ _ | refine blk_drew ?_ | refine blk_alloc ?_ _)); exact BK341.out), (by (with_reducible repeat (first | refine blk_drewN ?_ _ | refine blk_drew ?_ | refine blk_alloc ?_ _)); exact BK349.out), GW349.out, GE349.out, NB341_349.out, NB349_341.out, (by repeat (first | (with_reducible first | exact HB.out | apply below_alloc | apply pw_below_drewN | apply below_drew1 | refine below_set ?_ GE341.out | refine below_set ?_ GE349.out) | exact HB.out))⟩)
                rintro ⟨v346, gb349⟩ w19 ⟨hS_, h0_, h1_, h2_, h3_, h4_, h5_, h6_, h7_, h8_⟩
                have n0_ : Aside0 (Kd.R k34 34 w19 w.heap.size (fun _ => True) v346 t345) := ⟨h0_⟩
                have n1_ : Aside0 (Kd.V k34 34 w19 w.heap.size (fun k_ => some k_ ≠ (v346 : Value).ownBlock ∧ k_ ≠ gb341 ∧ k_ ≠ gb349) (.slice Ao15 x342002_2.length co15) x342002_2) := ⟨h1_⟩
                have n2_ : Aside0 (w19.heap[gb341]? = some (.cells #[.int .i64 x342000_2, .int .i64 x342001_2, .slice Ao15 x342002_2.length co15] 41 (0, 0))) := ⟨h2_⟩
                have n3_ : Aside0 (w19.heap[gb349]? = some (.cells #[.int .i64 0, .int .i64 0, .slice none 0 0] 41 (0, 0))) := ⟨h3_⟩
                have n4_ : Aside0 (w.heap.size ≤ gb349) := ⟨h4_⟩
                have n5_ : Aside0 (w.heap.size ≤ gb349) := ⟨h5_⟩
                have n6_ : Aside0 (gb341 ≠ gb349) := ⟨h6_⟩
                have n7_ : Aside0 (gb349 ≠ gb341) := ⟨h7_⟩
                have n8_ : Aside0 (Below w.heap.size w w19) := ⟨h8_⟩
                clear HO_342002
                clear BK341
                clear HB
                clear h0_ h1_ h2_ h3_ h4_ h5_ h6_ h7_ h8_
                have HO347 := n0_
                have HO_342002 := n1_
                have BK341 := n2_
                have BK349 := n3_
                have GW349 := n4_
                have GE349 := n5_
                have NB341_349 := n6_
                have NB349_341 := n7_
                have HB := n8_
                clear n0_ n1_ n2_ n3_ n4_ n5_ n6_ n7_ n8_
                have hHeld : w19.cell? ⟨gb341, 0, none⟩ = some (.int .i64 x342000_2) ∧ w19.cell? ⟨gb341, 1, none⟩ = some (.int .i64 x342001_2) ∧ w19.cell? ⟨gb341, 2, none⟩ = some (.slice Ao15 x342002_2.length co15) ∧ w19.cell? (ad342.add (x5_2).toNat) = some (.int .i64 (rd l0 x5_2)) := hS_
                obtain ⟨Ao22, co22, eo22⟩ := Kd.R_slice HO347.out
                (first | subst eo22 | (injection eo22 with f1_ f2_ f3_; have f4_ := f1_.symm; have f5_ := f3_.symm; clear f1_ f2_ f3_; subst f4_; subst f5_))
                refine norm_ (a' := ?_) ?_ ?_
                rotate_left
                · simp only [putAll, Act.put, List.setIfInBounds_toArray, List.set_cons_zero, List.set_cons_succ]
                  rfl
                refine one_ (i := 11) (N := none) #[true, true, true, true, true, true, true, true, true, true, true, true, false] rfl rfl (one_of HT_.out (by kernel_rfl)) (by decide) (fun K hK => ?_)
                have hs20 : w19.cell? ⟨gb349, 0, none⟩ = some (.int .i64 0) := (blk_cell BK349.out 0).trans rfl
                have hfs20 := blk_frozen BK349.out 0
                have hns20_0 := NB341_349.out
                have hms20_0 := NB349_341.out
                have hs21 : w19.cell? ⟨gb349, 1, none⟩ = some (.int .i64 0) := (blk_cell BK349.out 1).trans rfl
                have hfs21 := blk_frozen BK349.out 1
                have hns21_0 := NB341_349.out
                have hms21_0 := NB349_341.out
                have hs23 : w19.cell? ⟨gb349, 2, none⟩ = some (.slice none 0 0) := (blk_cell BK349.out 2).trans rfl
                have hfs23 := blk_frozen BK349.out 2
                have hns23_0 := NB341_349.out
                have hms23_0 := NB349_341.out
                refine skip_ (w1 := ?_) (by rfl) rfl ?_ ?_
                rotate_left
                · go_simp
                  rfl
                refine hK.out _ _ ⟨((cell_far (p := ⟨gb349, _, none⟩) NB341_349.out _).trans (((cell_far (p := ⟨gb349, _, none⟩) NB341_349.out _).trans (((cell_far (p := ⟨gb349, _, none⟩) NB341_349.out _).trans (hHeld.1)))))), ((cell_far (p := ⟨gb349, _, none⟩) NB341_349.out _).trans (((cell_far (p := ⟨gb349, _, none⟩) NB341_349.out _).trans (((cell_far (p := ⟨gb349, _, none⟩) NB341_349.out _).trans (hHeld.2.1)))))), ((cell_far (p := ⟨gb349, _, none⟩) NB341_349.out _).trans (((cell_far (p := ⟨gb349, _, none⟩) NB341_349.out _).trans (((cell_far (p := ⟨gb349, _, none⟩) NB341_349.out _).trans (hHeld.2.2.1)))))), ((cell_far (p := ⟨gb349, _, none⟩) (by first | exact Nat.ne_of_lt (Nat.lt_of_lt_of_le (by have := World.block_lt_of_cell? _ _ hw342_0; first | rwa [add_block] at this | exact this) GW349.out) | (rw [add_block]; exact Nat.ne_of_lt (Nat.lt_of_lt_of_le (by have := World.block_lt_of_cell? _ _ hw342_0; first | rwa [add_block] at this | exact this) GW349.out)) | (show (Addr.add _ _).block ≠ _; rw [add_block]; exact Nat.ne_of_lt (Nat.lt_of_lt_of_le (by have := World.block_lt_of_cell? _ _ hw342_0; first | rwa [add_block] at this | exact this) GW349.out)) | (dsimp only; exact Nat.ne_of_lt (Nat.lt_of_lt_of_le (by have := World.block_lt_of_cell? _ _ hw342_0; first | rwa [add_block] at this | exact this) GW349.out))) _).trans (((cell_far (p := ⟨gb349, _, none⟩) (by first | exact Nat.ne_of_lt (Nat.lt_of_lt_of_le (by have := World.block_lt_of_cell? _ _ hw342_0; first | rwa [add_block] at this | exact this) GW349.out) | (rw [add_block]; exact Nat.ne_of_lt (Nat.lt_of_lt_of_le (by have := World.block_lt_of_cell? _ _ hw342_0; first | rwa [add_block] at this | exact this) GW349.out)) | (show (Addr.add _ _).block ≠ _; rw [add_block]; exact Nat.ne_of_lt (Nat.lt_of_lt_of_le (by have := World.block_lt_of_cell? _ _ hw342_0; first | rwa [add_block] at this | exact this) GW349.out)) | (dsimp only; exact Nat.ne_of_lt (Nat.lt_of_lt_of_le (by have := World.block_lt_of_cell? _ _ hw342_0; first | rwa [add_block] at this | exact this) GW349.out))) _).trans (((cell_far (p := ⟨gb349, _, none⟩) (by first | exact Nat.ne_of_lt (Nat.lt_of_lt_of_le (by have := World.block_lt_of_cell? _ _ hw342_0; first | rwa [add_block] at this | exact this) GW349.out) | (rw [add_block]; exact Nat.ne_of_lt (Nat.lt_of_lt_of_le (by have := World.block_lt_of_cell? _ _ hw342_0; first | rwa [add_block] at this | exact this) GW349.out)) | (show (Addr.add _ _).block ≠ _; rw [add_block]; exact Nat.ne_of_lt (Nat.lt_of_lt_of_le (by have := World.block_lt_of_cell? _ _ hw342_0; first | rwa [add_block] at this | exact this) GW349.out)) | (dsimp only; exact Nat.ne_of_lt (Nat.lt_of_lt_of_le (by have := World.block_lt_of_cell? _ _ hw342_0; first | rwa [add_block] at this | exact this) GW349.out))) _).trans (hHeld.2.2.2))))))⟩ (fun hHeld => ?_)
                clear hK K
                refine pure_ (i := 12) (N := some 7) (v := ?_) (a' := ?_) #[true, true, true, true, true, true, true, true, true, true, true, true, true] rfl rfl (any_of HT_.out (by kernel_rfl)) (fun _ _ _ h => h) (Or.inl ⟨by rfl, ?_⟩) ?_ ?_
                rotate_left
                · intro w'
                  go_simp
                  with_reducible rfl
                rotate_left
                · simp only [Act.put, List.setIfInBounds_toArray, List.set_cons_zero, List.set_cons_succ, i64_w, i32_w]
                  rfl
                refine done_ (done_of HT_.out (by kernel_rfl)) ?_
                have hnb24 := NB349_341.out
                have hnc24 := NB341_349.out
                have hcz25_0 : w19.cell? ⟨gb349, 0, none⟩ = some (.int .i64 0) := (blk_cell BK349.out 0).trans rfl
                have hcz25_1 : w19.cell? ⟨gb349, 1, none⟩ = some (.int .i64 0) := (blk_cell BK349.out 1).trans rfl
                have hcz25_2 : w19.cell? ⟨gb349, 2, none⟩ = some (.slice none 0 0) := (blk_cell BK349.out 2).trans rfl
                have hfz25_0 := blk_frozen BK349.out 0
                have hfz25_1 := blk_frozen BK349.out 1
                have hfz25_2 := blk_frozen BK349.out 2
                have hcz26_0 : w19.cell? ⟨gb341, 0, none⟩ = some (.int .i64 x342000_2) := (blk_cell BK341.out 0).trans rfl
                have hcz26_1 : w19.cell? ⟨gb341, 1, none⟩ = some (.int .i64 x342001_2) := (blk_cell BK341.out 1).trans rfl
                have hcz26_2 : w19.cell? ⟨gb341, 2, none⟩ = some (.slice Ao15 x342002_2.length co15) := (blk_cell BK341.out 2).trans rfl
                have hfz26_0 := blk_frozen BK341.out 0
                have hfz26_1 := blk_frozen BK341.out 1
                have hfz26_2 := blk_frozen BK341.out 2
                try go_wp2
                go_roundg k2
                case measure => have := HJ2.out; have := HK2.out; omega
                case rel => exact ⟨(wrap64 (x5_2 + 1)), (t343), (t344), (t345), (.slice Ao22 t345.length co22), (by first | rfl | (simp; done) | (simp [*]; done)), H', ⟨by have := HJ2.out; have := HK2.out; omega⟩, ⟨Kd.R_V (by (with_reducible repeat (first | apply Kd.R_alloc | apply Kd.R_drewN | apply Kd.R_drew)); exact Kd.R_mono (Kd.R_far (p := ⟨gb341, 2, none⟩) (Kd.R_far (p := ⟨gb341, 1, none⟩) (Kd.R_far (p := ⟨gb341, 0, none⟩) (Kd.R_far (p := ⟨gb349, 2, none⟩) (Kd.R_far (p := ⟨gb349, 1, none⟩) (Kd.R_far (p := ⟨gb349, 0, none⟩) (Kd.R_types (Kd.R_types (Kd.R_types HO347.out BK341.out (by decide)) BK349.out (by decide)) BK341.out (by decide)) (fun _ hk => hk.1.2) (.int .i64 t343)) (fun _ hk => hk.1.2) (.int .i64 t344)) (fun _ hk => hk.1.2) (.slice Ao22 t345.length co22)) (fun _ hk => hk.2) (.int .i64 t343)) (fun _ hk => hk.2) (.int .i64 t344)) (fun _ hk => hk.2) (.slice Ao22 t345.length co22)) (fun _ hk => hk.1.1.2))⟩, ⟨by (with_reducible repeat (first | refine blk_drewN ?_ _ | refine blk_drew ?_ | refine blk_alloc ?_ _)); refine blk_put (cs := #[.int .i64 t343, .int .i64 t344, .slice Ao15 x342002_2.length co15]) ?_ 2 _ rfl; (with_reducible repeat (first | refine blk_drewN ?_ _ | refine blk_drew ?_ | refine blk_alloc ?_ _)); refine blk_put (cs := #[.int .i64 t343, .int .i64 x342001_2, .slice Ao15 x342002_2.length co15]) ?_ 1 _ rfl; (with_reducible repeat (first | refine blk_drewN ?_ _ | refine blk_drew ?_ | refine blk_alloc ?_ _)); refine blk_put (cs := #[.int .i64 x342000_2, .int .i64 x342001_2, .slice Ao15 x342002_2.length co15]) ?_ 0 _ rfl; (with_reducible repeat (first | refine blk_drewN ?_ _ | refine blk_drew ?_ | refine blk_alloc ?_ _)); refine blk_far ?_ NB341_349.out _; (with_reducible repeat (first | refine blk_drewN ?_ _ | refine blk_drew ?_ | refine blk_alloc ?_ _)); refine blk_far ?_ NB341_349.out _; (with_reducible repeat (first | refine blk_drewN ?_ _ | refine blk_drew ?_ | refine blk_alloc ?_ _)); refine blk_far ?_ NB341_349.out _; (with_reducible repeat (first | refine blk_drewN ?_ _ | refine blk_drew ?_ | refine blk_alloc ?_ _)); exact BK341.out⟩, ⟨by repeat (first | (with_reducible first | exact HB.out | apply below_alloc | apply pw_below_drewN | apply below_drew1 | refine below_set ?_ GE341.out | refine below_set ?_ GE349.out) | exact HB.out)⟩⟩
              · rw [if_neg c13] at H
                exact absurd H (by simp)
            · rw [if_neg c12] at H
              have c12b0 : decide (x5_2 < (l0.length : Int)) = false := decide_eq_false c12
              clear c12
              have H' := Aside0.mk H
              clear H
              go_wp2
              go_loopg [8] k2 (fun kq v8 w' => ∃ (x8_3 : Int) (x342000_3 : Int) (x342001_3 : Int) (x342002_3 : List (S34)) (u342002 : Value), v8 = .int .i64 x8_3 ∧ Aside0 (wayfinderlaw15_SessGoes.l1 kq l0 x8_3 x342000_3 x342001_3 x342002_3 = some r) ∧ Aside0 (kq ≤ k2) ∧ Aside0 (Kd.V k34 34 w' w.heap.size (fun k_ => k_ ≠ gb341) u342002 x342002_3) ∧ Aside0 (w'.heap[gb341]? = some (.cells #[.int .i64 x342000_3, .int .i64 x342001_3, u342002] 41 (0, 0))) ∧ Aside0 (Below w.heap.size w w'))
              case atStart => exact ⟨(0), (x342000_2), (x342001_2), (x342002_2), (u342002), (by first | rfl | (simp; done) | (simp [*]; done)), H', ⟨Nat.le_refl _⟩, ⟨by (with_reducible repeat (first | apply Kd.V_alloc | apply Kd.V_drewN | apply Kd.V_drew)); exact HO_342002.out⟩, ⟨by (with_reducible repeat (first | refine blk_drewN ?_ _ | refine blk_drew ?_ | refine blk_alloc ?_ _)); exact BK341.out⟩, ⟨by repeat (first | (with_reducible first | exact HB.out | apply below_alloc | apply pw_below_drewN | apply below_drew1 | refine below_set ?_ GE341.out) | exact HB.out)⟩⟩
              case round =>
                clear H'
                try clear c1
                try clear c2
                try clear p2
                try clear p3
                try clear q3
                try clear hx3
                try clear c5
                try clear c6
                try clear p6
                try clear c7
                try clear c12
                try clear c12b0
                try clear c13
                try clear c13b0
                try clear c15
                try clear c16
                try clear c17
                try clear c24
                try clear hcz10_0
                try clear hcz10_1
                try clear hcz10_2
                try clear hcz25_0
                try clear hcz25_1
                try clear hcz25_2
                try clear hcz26_0
                try clear hcz26_1
                try clear hcz26_2
                try clear hfz10_0
                try clear hfz10_1
                try clear hfz10_2
                try clear hfz25_0
                try clear hfz25_1
                try clear hfz25_2
                try clear hfz26_0
                try clear hfz26_1
                try clear hfz26_2
                try clear hx342_0
                try clear p2
                try clear p342
                try clear q342
                obtain ⟨x8_3, x342000_3, x342001_3, x342002_3, u342002, rfl, HA, HK3, HO_342002, BK341, HB⟩ := hrel
                cases gk with
                | zero => exact absurd HA.out (by simp [wayfinderlaw15_SessGoes.l1])
                | succ k3 =>
                  have H := HA.out
                  clear HA
                  simp only [wayfinderlaw15_SessGoes.l1] at H
                  by_cases c27 : x8_3 < (l0.length : Int)
                  · rw [if_pos c27] at H
                    have c27b0 : decide (x8_3 < (l0.length : Int)) = true := decide_eq_true c27
                    clear c27
                    replace H := Option.bind_eq_some_iff.mp H
                    obtain ⟨t353, A280, H⟩ := H
                    replace H : (if (t353.length : Int) = 1 then (if 0 < (t353.length : Int) then (if 0 ≤ x8_3 then (if ((rd_T34 t353 0).f3) = (rd l0 x8_3) then ((sess_Take.f 1 x8_3 ((rd_T34 t353 0).f0) ((rd_T34 t353 0).f1) ((rd_T34 t353 0).f2) ((rd_T34 t353 0).f3) ((rd_T34 t353 0).f4.f0.f0) ((rd_T34 t353 0).f4.f0.f1) ((rd_T34 t353 0).f4.f1) ((rd_T34 t353 0).f4.f2) ((rd_T34 t353 0).f4.f3.f0) ((rd_T34 t353 0).f4.f3.f1)).bind fun t359 => (if t359 = 0 then ((sess_Done.f x342000_3 x342001_3 x342002_3 1 (wrap64 (x8_3 + 1))).bind fun bt360 => (wayfinderlaw15_SessGoes.l1 k3 l0 (wrap64 (x8_3 + 1)) bt360.1 bt360.2.1 bt360.2.2)) else (none))) else (none)) else (none)) else (none)) else (none)) = some r := H
                    have A28 := Aside0.mk A280
                    clear A280
                    by_cases c29 : (t353.length : Int) = 1
                    · rw [if_pos c29] at H
                      have c29b0 : ((t353.length : Int) == 1) = true := beq_iff_eq.mpr c29
                      have c29b1 : ((t353.length : Int) != 1) = false := bne_eq_false_iff_eq.mpr c29
                      clear c29
                      by_cases c30 : 0 < (t353.length : Int)
                      · rw [if_pos c30] at H
                        have c30b0 : decide (0 < (t353.length : Int)) = true := decide_eq_true c30
                        have c30b1 : decide (0 < t353.length) = true := decide_eq_true (by omega)
                        clear c30
                        by_cases c31 : 0 ≤ x8_3
                        · rw [if_pos c31] at H
                          have c31b0 : decide (0 ≤ x8_3) = true := decide_eq_true c31
                          clear c31
                          by_cases c32 : ((rd_T34 t353 0).f3) = (rd l0 x8_3)
                          · rw [if_pos c32] at H
                            have c32b0 : (((rd_T34 t353 0).f3) == (rd l0 x8_3)) = true := beq_iff_eq.mpr c32
                            have c32b1 : (((rd_T34 t353 0).f3) != (rd l0 x8_3)) = false := bne_eq_false_iff_eq.mpr c32
                            clear c32
                            replace H := Option.bind_eq_some_iff.mp H
                            obtain ⟨t359, A330, H⟩ := H
                            replace H : (if t359 = 0 then ((sess_Done.f x342000_3 x342001_3 x342002_3 1 (wrap64 (x8_3 + 1))).bind fun bt360 => (wayfinderlaw15_SessGoes.l1 k3 l0 (wrap64 (x8_3 + 1)) bt360.1 bt360.2.1 bt360.2.2)) else (none)) = some r := H
                            have A33 := Aside0.mk A330
                            clear A330
                            by_cases c34 : t359 = 0
                            · rw [if_pos c34] at H
                              have c34b0 : (t359 == 0) = true := beq_iff_eq.mpr c34
                              have c34b1 : (t359 != 0) = false := bne_eq_false_iff_eq.mpr c34
                              clear c34
                              replace H := Option.bind_eq_some_iff.mp H
                              obtain ⟨⟨t360, t361, t362⟩, A350, H⟩ := H
                              replace H : (wayfinderlaw15_SessGoes.l1 k3 l0 (wrap64 (x8_3 + 1)) t360 t361 t362) = some r := H
                              have A35 := Aside0.mk A350
                              clear A350
                              have H' := Aside0.mk H
                              clear H
                              have hcz36_0 : wr.cell? ⟨gb341, 0, none⟩ = some (.int .i64 x342000_3) := (blk_cell BK341.out 0).trans rfl
                              have hcz36_1 : wr.cell? ⟨gb341, 1, none⟩ = some (.int .i64 x342001_3) := (blk_cell BK341.out 1).trans rfl
                              have hcz36_2 : wr.cell? ⟨gb341, 2, none⟩ = some (u342002) := (blk_cell BK341.out 2).trans rfl
                              have hfz36_0 := blk_frozen BK341.out 0
                              have hfz36_1 := blk_frozen BK341.out 1
                              have hfz36_2 := blk_frozen BK341.out 2
                              obtain ⟨Ao37, co37, eo37⟩ := Kd.V_slice HO_342002.out
                              subst eo37
                              try go_wp2_with (first | ((with_reducible refine gate_callee (f := 24) rfl ?_); refine goesL_ (some 44) rfl rfl Try.func24 (by kernel_rfl) rfl #[.agg #[.int .i64 x342000_3, .int .i64 x342001_3, .slice Ao37 x342002_3.length co37], .int .i64 1] rfl (by (try simp only [List.map_toArray, List.map_cons, List.map_nil]); first | done | rfl | (simp only [List.length_drop, List.length_take]; rfl)) ?_; (with_reducible refine (sess_First.calls x342000_3 x342001_3 _ _ x342002_3 1 t353 _ ?side1 ?side2 A28.out).mono ?_); (case side1 => repeat (first | exact (Kd.V_reads' HO_342002.out).2.2 | (with_reducible refine Kd.C_alloc ?_ _) | (with_reducible refine Kd.C_drewN ?_ _) | (with_reducible refine Kd.C_drew ?_))); (case side2 => exact (Kd.V_reads' HO_342002.out).2.1); rintro e w38 ⟨v354, rfl, ho0, hb⟩; refine ⟨_, rfl, ?_⟩; have n0_ := Aside0.mk (Kd.V_elder' (by (with_reducible repeat (first | apply Kd.V_alloc | apply Kd.V_drewN | apply Kd.V_drew)); exact HO_342002.out) (Kd.R_base ho0) hb); have n1_ := Aside0.mk (Kd.R_lower ho0 (below_size (by repeat (first | (with_reducible first | exact HB.out | apply below_alloc | apply pw_below_drewN | apply below_drew1 | refine below_set ?_ GE341.out) | exact HB.out)))); have n2_ := Aside0.mk (blk_below (g := gb341) (o := .cells #[.int .i64 x342000_3, .int .i64 x342001_3, .slice Ao37 x342002_3.length co37] 41 (0, 0)) (by (with_reducible repeat (first | refine blk_drewN ?_ _ | refine blk_drew ?_ | refine blk_alloc ?_ _)); exact BK341.out) hb); have n3_ := Aside0.mk (below_step (by repeat (first | (with_reducible first | exact HB.out | apply below_alloc | apply pw_below_drewN | apply below_drew1 | refine below_set ?_ GE341.out) | exact HB.out)) hb); clear HO_342002; clear BK341; clear HB; have HO_342002 := n0_; have HO355 := n1_; have BK341 := n2_; have HB := n3_; clear n0_ n1_ n2_ n3_; (try clear hb); (try clear hb2); (try clear hk); (try clear hi); (try clear ho0)))
                              have n0_ := Aside0.mk (Kd.V_drew HO_342002.out)
                              have n1_ := Aside0.mk (Kd.R_drew HO355.out)
                              have n2_ := Aside0.mk (blk_drew BK341.out)
                              have n3_ := Aside0.mk (below_drew1 HB.out)
                              clear HO_342002
                              clear HO355
                              clear BK341
                              clear HB
                              have HO_342002 := n0_
                              have HO355 := n1_
                              have BK341 := n2_
                              have HB := n3_
                              clear n0_ n1_ n2_ n3_
                              obtain ⟨Ao40, co40, eo40⟩ := Kd.R_slice HO355.out
                              (first | subst eo40 | (injection eo40 with f1_ f2_ f3_; have f4_ := f1_.symm; have f5_ := f3_.symm; clear f1_ f2_ f3_; subst f4_; subst f5_))
                              have p356 : 0 ≤ (0 : Int) := (by omega)
                              have q356 : 0 < (t353.length : Int) := of_decide_eq_true (by first | (with_reducible assumption) | assumption)
                              obtain ⟨ad356, e356, hx356_0, hx356_1, hx356_2, hx356_3, hx356_4, hx356_5, hx356_6, hx356_7, hx356_8, hx356_9⟩ := at_T34 (Kd.R_reads' HO355.out).2.2 0 p356 q356
                              cases e356
                              have qi356 : (0 < t353.length) = True := eq_true (by omega)
                              (try rw [show ((0 : Int)).toNat = 0 from rfl] at hx356_0)
                              (try rw [show 0 * 10 = 0 from rfl] at hx356_0)
                              (try rw [Addr.add_zero'] at hx356_0)
                              (try rw [show ((0 : Int)).toNat = 0 from rfl] at hx356_1)
                              (try rw [show 0 * 10 = 0 from rfl] at hx356_1)
                              (try rw [Addr.add_zero'] at hx356_1)
                              (try rw [show ((0 : Int)).toNat = 0 from rfl] at hx356_2)
                              (try rw [show 0 * 10 = 0 from rfl] at hx356_2)
                              (try rw [Addr.add_zero'] at hx356_2)
                              (try rw [show ((0 : Int)).toNat = 0 from rfl] at hx356_3)
                              (try rw [show 0 * 10 = 0 from rfl] at hx356_3)
                              (try rw [Addr.add_zero'] at hx356_3)
                              (try rw [show ((0 : Int)).toNat = 0 from rfl] at hx356_4)
                              (try rw [show 0 * 10 = 0 from rfl] at hx356_4)
                              (try rw [Addr.add_zero'] at hx356_4)
                              (try rw [show ((0 : Int)).toNat = 0 from rfl] at hx356_5)
                              (try rw [show 0 * 10 = 0 from rfl] at hx356_5)
                              (try rw [Addr.add_zero'] at hx356_5)
                              (try rw [show ((0 : Int)).toNat = 0 from rfl] at hx356_6)
                              (try rw [show 0 * 10 = 0 from rfl] at hx356_6)
                              (try rw [Addr.add_zero'] at hx356_6)
                              (try rw [show ((0 : Int)).toNat = 0 from rfl] at hx356_7)
                              (try rw [show 0 * 10 = 0 from rfl] at hx356_7)
                              (try rw [Addr.add_zero'] at hx356_7)
                              (try rw [show ((0 : Int)).toNat = 0 from rfl] at hx356_8)
                              (try rw [show 0 * 10 = 0 from rfl] at hx356_8)
                              (try rw [Addr.add_zero'] at hx356_8)
                              (try rw [show ((0 : Int)).toNat = 0 from rfl] at hx356_9)
                              (try rw [show 0 * 10 = 0 from rfl] at hx356_9)
                              (try rw [Addr.add_zero'] at hx356_9)
                              replace p356 := eq_true p356
                              replace q356 := eq_true q356
                              have p357 : 0 ≤ (x8_3 : Int) := of_decide_eq_true (by first | (with_reducible assumption) | assumption)
                              have q357 : x8_3 < (l0.length : Int) := of_decide_eq_true (by first | (with_reducible assumption) | assumption)
                              obtain ⟨ad357, e357, hx357_0⟩ := Kd.at_int HR0.out x8_3 p357 q357
                              have hw357_0 := hx357_0
                              cases e357
                              replace hx357_0 := (HB.out.cell (World.block_lt_of_cell? w _ hx357_0)).trans hx357_0
                              replace p357 := eq_true p357
                              replace q357 := eq_true q357
                              have p358 : 0 ≤ (0 : Int) := (by omega)
                              have q358 : 0 < (t353.length : Int) := of_decide_eq_true (by first | (with_reducible assumption) | assumption)
                              obtain ⟨ad358, e358, hx358_0, hx358_1, hx358_2, hx358_3, hx358_4, hx358_5, hx358_6, hx358_7, hx358_8, hx358_9⟩ := at_T34 (Kd.R_reads' HO355.out).2.2 0 p358 q358
                              obtain rfl : ad356 = ad358 := (by injection e358)
                              have qi358 : (0 < t353.length) = True := eq_true (by omega)
                              (try rw [show ((0 : Int)).toNat = 0 from rfl] at hx358_0)
                              (try rw [show 0 * 10 = 0 from rfl] at hx358_0)
                              (try rw [Addr.add_zero'] at hx358_0)
                              (try rw [show ((0 : Int)).toNat = 0 from rfl] at hx358_1)
                              (try rw [show 0 * 10 = 0 from rfl] at hx358_1)
                              (try rw [Addr.add_zero'] at hx358_1)
                              (try rw [show ((0 : Int)).toNat = 0 from rfl] at hx358_2)
                              (try rw [show 0 * 10 = 0 from rfl] at hx358_2)
                              (try rw [Addr.add_zero'] at hx358_2)
                              (try rw [show ((0 : Int)).toNat = 0 from rfl] at hx358_3)
                              (try rw [show 0 * 10 = 0 from rfl] at hx358_3)
                              (try rw [Addr.add_zero'] at hx358_3)
                              (try rw [show ((0 : Int)).toNat = 0 from rfl] at hx358_4)
                              (try rw [show 0 * 10 = 0 from rfl] at hx358_4)
                              (try rw [Addr.add_zero'] at hx358_4)
                              (try rw [show ((0 : Int)).toNat = 0 from rfl] at hx358_5)
                              (try rw [show 0 * 10 = 0 from rfl] at hx358_5)
                              (try rw [Addr.add_zero'] at hx358_5)
                              (try rw [show ((0 : Int)).toNat = 0 from rfl] at hx358_6)
                              (try rw [show 0 * 10 = 0 from rfl] at hx358_6)
                              (try rw [Addr.add_zero'] at hx358_6)
                              (try rw [show ((0 : Int)).toNat = 0 from rfl] at hx358_7)
                              (try rw [show 0 * 10 = 0 from rfl] at hx358_7)
                              (try rw [Addr.add_zero'] at hx358_7)
                              (try rw [show ((0 : Int)).toNat = 0 from rfl] at hx358_8)
                              (try rw [show 0 * 10 = 0 from rfl] at hx358_8)
                              (try rw [Addr.add_zero'] at hx358_8)
                              (try rw [show ((0 : Int)).toNat = 0 from rfl] at hx358_9)
                              (try rw [show 0 * 10 = 0 from rfl] at hx358_9)
                              (try rw [Addr.add_zero'] at hx358_9)
                              replace p358 := eq_true p358
                              replace q358 := eq_true q358
                              refine start_ (n := 22) (S := fun w' => w'.cell? ad356 = some (.int .i64 ((rd_T34 t353 0).f0)) ∧ w'.cell? ⟨ad356.block, ad356.off + 1, none⟩ = some (.int .i64 ((rd_T34 t353 0).f1)) ∧ w'.cell? ⟨ad356.block, ad356.off + 2, none⟩ = some (.int .i64 ((rd_T34 t353 0).f2)) ∧ w'.cell? ⟨ad356.block, ad356.off + 3, none⟩ = some (.int .i64 ((rd_T34 t353 0).f3)) ∧ w'.cell? ⟨ad356.block, ad356.off + 4, none⟩ = some (.int .i64 ((rd_T34 t353 0).f4.f0.f0)) ∧ w'.cell? ⟨ad356.block, ad356.off + 5, none⟩ = some (.int .i64 ((rd_T34 t353 0).f4.f0.f1)) ∧ w'.cell? ⟨ad356.block, ad356.off + 6, none⟩ = some (.int .i64 ((rd_T34 t353 0).f4.f1)) ∧ w'.cell? ⟨ad356.block, ad356.off + 7, none⟩ = some (.int .i64 ((rd_T34 t353 0).f4.f2)) ∧ w'.cell? ⟨ad356.block, ad356.off + 8, none⟩ = some (.int .i64 ((rd_T34 t353 0).f4.f3.f0)) ∧ w'.cell? ⟨ad356.block, ad356.off + 9, none⟩ = some (.int .i64 ((rd_T34 t353 0).f4.f3.f1)) ∧ w'.cell? (ad357.add (x8_3).toNat) = some (.int .i64 (rd l0 x8_3)) ∧ w'.cell? ad356 = some (.int .i64 ((rd_T34 t353 0).f0)) ∧ w'.cell? ⟨ad356.block, ad356.off + 1, none⟩ = some (.int .i64 ((rd_T34 t353 0).f1)) ∧ w'.cell? ⟨ad356.block, ad356.off + 2, none⟩ = some (.int .i64 ((rd_T34 t353 0).f2)) ∧ w'.cell? ⟨ad356.block, ad356.off + 3, none⟩ = some (.int .i64 ((rd_T34 t353 0).f3)) ∧ w'.cell? ⟨ad356.block, ad356.off + 4, none⟩ = some (.int .i64 ((rd_T34 t353 0).f4.f0.f0)) ∧ w'.cell? ⟨ad356.block, ad356.off + 5, none⟩ = some (.int .i64 ((rd_T34 t353 0).f4.f0.f1)) ∧ w'.cell? ⟨ad356.block, ad356.off + 6, none⟩ = some (.int .i64 ((rd_T34 t353 0).f4.f1)) ∧ w'.cell? ⟨ad356.block, ad356.off + 7, none⟩ = some (.int .i64 ((rd_T34 t353 0).f4.f2)) ∧ w'.cell? ⟨ad356.block, ad356.off + 8, none⟩ = some (.int .i64 ((rd_T34 t353 0).f4.f3.f0)) ∧ w'.cell? ⟨ad356.block, ad356.off + 9, none⟩ = some (.int .i64 ((rd_T34 t353 0).f4.f3.f1))) (ds := []) #[false, false, false, false, false, false, false, false, false, false, false, false, false, false, false, false, false, false, false, false, false, false] (by kernel_rfl) rfl rfl ⟨hx356_0, hx356_1, hx356_2, hx356_3, hx356_4, hx356_5, hx356_6, hx356_7, hx356_8, hx356_9, ((HB.out.cell (World.block_lt_of_cell? w _ hw357_0)).trans hw357_0), hx358_0, hx358_1, hx358_2, hx358_3, hx358_4, hx358_5, hx358_6, hx358_7, hx358_8, hx358_9⟩ (fun hHeld => ?_); refine with_tabW wayfinderlaw15_SessGoes.tab14 wayfinderlaw15_SessGoes.bits14 (fun HT_ HW_ => ?_)
                              generalize w38.drew = w39 at HO_342002 HO355 BK341 HB hx356_0 hx356_1 hx356_2 hx356_3 hx356_4 hx356_5 hx356_6 hx356_7 hx356_8 hx356_9 hx357_0 hx358_0 hx358_1 hx358_2 hx358_3 hx358_4 hx358_5 hx358_6 hx358_7 hx358_8 hx358_9 hHeld ⊢
                              refine pure_ (i := 0) (N := some 45) (v := ?_) (a' := ?_) #[true, false, false, false, false, false, false, false, false, false, false, false, false, false, false, false, false, false, false, false, false, false] rfl rfl (any_of HT_.out (by kernel_rfl)) (fun _ _ _ h => h) (Or.inl ⟨by rfl, ?_⟩) ?_ ?_
                              rotate_left
                              · intro w'
                                go_simp
                                with_reducible rfl
                              rotate_left
                              · simp only [Act.put, List.setIfInBounds_toArray, List.set_cons_zero, List.set_cons_succ, i64_w, i32_w]
                                rfl
                              refine pure_ (i := 1) (N := some 46) (v := ?_) (a' := ?_) #[true, true, false, false, false, false, false, false, false, false, false, false, false, false, false, false, false, false, false, false, false, false] rfl rfl (any_of HT_.out (by kernel_rfl)) (fun _ _ _ h => h) (Or.inl ⟨by rfl, ?_⟩) ?_ ?_
                              rotate_left
                              · intro w'
                                go_simp
                                with_reducible rfl
                              rotate_left
                              · simp only [Act.put, List.setIfInBounds_toArray, List.set_cons_zero, List.set_cons_succ, i64_w, i32_w]
                                rfl
                              refine pure_ (i := 2) (N := some 47) (v := ?_) (a' := ?_) #[true, true, true, false, false, false, false, false, false, false, false, false, false, false, false, false, false, false, false, false, false, false] rfl rfl (any_of HT_.out (by kernel_rfl)) (fun _ _ _ h => h) (Or.inl ⟨by rfl, ?_⟩) ?_ ?_
                              rotate_left
                              · intro w'
                                go_simp
                                with_reducible rfl
                              rotate_left
                              · simp only [Act.put, List.setIfInBounds_toArray, List.set_cons_zero, List.set_cons_succ, i64_w, i32_w]
                                rfl
                              refine pure_ (i := 3) (N := some 48) (v := ?_) (a' := ?_) #[true, true, true, true, false, false, false, false, false, false, false, false, false, false, false, false, false, false, false, false, false, false] rfl rfl (any_of HT_.out (by kernel_rfl)) (fun _ _ _ h => h) (Or.inl ⟨by rfl, ?_⟩) ?_ ?_
                              rotate_left
                              · intro w'
                                go_simp
                                with_reducible rfl
                              rotate_left
                              · simp only [Act.put, List.setIfInBounds_toArray, List.set_cons_zero, List.set_cons_succ, i64_w, i32_w]
                                rfl
                              refine pure_ (i := 4) (N := some 49) (v := ?_) (a' := ?_) #[true, true, true, true, true, false, false, false, false, false, false, false, false, false, false, false, false, false, false, false, false, false] rfl rfl (any_of HT_.out (by kernel_rfl)) (fun _ _ _ h => h) (Or.inl ⟨by rfl, ?_⟩) ?_ ?_
                              rotate_left
                              · intro w'
                                go_simp
                                with_reducible rfl
                              rotate_left
                              · simp only [Act.put, List.setIfInBounds_toArray, List.set_cons_zero, List.set_cons_succ, i64_w, i32_w]
                                rfl
                              refine pure_ (i := 5) (N := some 50) (v := ?_) (a' := ?_) #[true, true, true, true, true, true, false, false, false, false, false, false, false, false, false, false, false, false, false, false, false, false] rfl rfl (any_of HT_.out (by kernel_rfl)) (fun _ _ _ h => h) (Or.inl ⟨by rfl, ?_⟩) ?_ ?_
                              rotate_left
                              · intro w'
                                go_simp
                                with_reducible rfl
                              rotate_left
                              · simp only [Act.put, List.setIfInBounds_toArray, List.set_cons_zero, List.set_cons_succ, i64_w, i32_w]
                                rfl
                              refine pure_ (i := 6) (N := some 51) (v := ?_) (a' := ?_) #[true, true, true, true, true, true, true, false, false, false, false, false, false, false, false, false, false, false, false, false, false, false] rfl rfl (any_of HT_.out (by kernel_rfl)) (fun _ _ _ h => h) (Or.inl ⟨by rfl, ?_⟩) ?_ ?_
                              rotate_left
                              · intro w'
                                go_simp
                                with_reducible rfl
                              rotate_left
                              · simp only [Act.put, List.setIfInBounds_toArray, List.set_cons_zero, List.set_cons_succ, i64_w, i32_w]
                                rfl
                              refine pure_ (i := 8) (N := some 53) (v := ?_) (a' := ?_) #[true, true, true, true, true, true, true, false, true, false, false, false, false, false, false, false, false, false, false, false, false, false] rfl rfl (any_of HT_.out (by kernel_rfl)) (fun _ _ _ h => h) (Or.inl ⟨by rfl, ?_⟩) ?_ ?_
                              rotate_left
                              · intro w'
                                go_simp
                                with_reducible rfl
                              rotate_left
                              · simp only [Act.put, List.setIfInBounds_toArray, List.set_cons_zero, List.set_cons_succ, i64_w, i32_w]
                                rfl
                              refine pure_ (i := 9) (N := some 54) (v := ?_) (a' := ?_) #[true, true, true, true, true, true, true, false, true, true, false, false, false, false, false, false, false, false, false, false, false, false] rfl rfl (any_of HT_.out (by kernel_rfl)) (fun _ _ _ h => h) (Or.inl ⟨by rfl, ?_⟩) ?_ ?_
                              rotate_left
                              · intro w'
                                go_simp
                                with_reducible rfl
                              rotate_left
                              · simp only [Act.put, List.setIfInBounds_toArray, List.set_cons_zero, List.set_cons_succ, i64_w, i32_w]
                                rfl
                              refine pure_ (i := 10) (N := some 55) (v := ?_) (a' := ?_) #[true, true, true, true, true, true, true, false, true, true, true, false, false, false, false, false, false, false, false, false, false, false] rfl rfl (any_of HT_.out (by kernel_rfl)) (fun _ _ _ h => h) (Or.inl ⟨by rfl, ?_⟩) ?_ ?_
                              rotate_left
                              · intro w'
                                go_simp
                                with_reducible rfl
                              rotate_left
                              · simp only [Act.put, List.setIfInBounds_toArray, List.set_cons_zero, List.set_cons_succ, i64_w, i32_w]
                                rfl
                              refine take_ (i := 7) (N := some 52) (v := ?_) (a' := ?_) #[true, true, true, true, true, true, true, true, true, true, true, false, false, false, false, false, false, false, false, false, false, false] rfl rfl (take_ofW HT_.out HW_.out (by kernel_rfl)) (fun _ _ _ h => h) (Or.inl ⟨by rfl, ?_⟩) hHeld ?_ ?_
                              rotate_left
                              · rintro w' ⟨s0, s1, s2, s3, s4, s5, s6, s7, s8, s9, s10, s11, s12, s13, s14, s15, s16, s17, s18, s19, s20⟩
                                go_simp
                                with_reducible rfl
                              rotate_left
                              · simp only [Act.put, List.setIfInBounds_toArray, List.set_cons_zero, List.set_cons_succ, i64_w, i32_w]
                                rfl
                              refine take_ (i := 11) (N := some 56) (v := ?_) (a' := ?_) #[true, true, true, true, true, true, true, true, true, true, true, true, false, false, false, false, false, false, false, false, false, false] rfl rfl (take_ofW HT_.out HW_.out (by kernel_rfl)) (fun _ _ _ h => h) (Or.inl ⟨by rfl, ?_⟩) hHeld ?_ ?_
                              rotate_left
                              · rintro w' ⟨s0, s1, s2, s3, s4, s5, s6, s7, s8, s9, s10, s11, s12, s13, s14, s15, s16, s17, s18, s19, s20⟩
                                go_simp
                                with_reducible rfl
                              rotate_left
                              · simp only [Act.put, List.setIfInBounds_toArray, List.set_cons_zero, List.set_cons_succ, i64_w, i32_w]
                                rfl
                              refine pure_ (i := 12) (N := some 57) (v := ?_) (a' := ?_) #[true, true, true, true, true, true, true, true, true, true, true, true, true, false, false, false, false, false, false, false, false, false] rfl rfl (any_of HT_.out (by kernel_rfl)) (fun _ _ _ h => h) (Or.inl ⟨by rfl, ?_⟩) ?_ ?_
                              rotate_left
                              · intro w'
                                go_simp
                                with_reducible rfl
                              rotate_left
                              · simp only [Act.put, List.setIfInBounds_toArray, List.set_cons_zero, List.set_cons_succ, i64_w, i32_w]
                                rfl
                              refine pure_ (i := 13) (N := some 58) (v := ?_) (a' := ?_) #[true, true, true, true, true, true, true, true, true, true, true, true, true, true, false, false, false, false, false, false, false, false] rfl rfl (any_of HT_.out (by kernel_rfl)) (fun _ _ _ h => h) (Or.inl ⟨by rfl, ?_⟩) ?_ ?_
                              rotate_left
                              · intro w'
                                go_simp
                                with_reducible rfl
                              rotate_left
                              · simp only [Act.put, List.setIfInBounds_toArray, List.set_cons_zero, List.set_cons_succ, i64_w, i32_w]
                                rfl
                              refine pure_ (i := 14) (N := some 59) (v := ?_) (a' := ?_) #[true, true, true, true, true, true, true, true, true, true, true, true, true, true, true, false, false, false, false, false, false, false] rfl rfl (any_of HT_.out (by kernel_rfl)) (fun _ _ _ h => h) (Or.inl ⟨by rfl, ?_⟩) ?_ ?_
                              rotate_left
                              · intro w'
                                go_simp
                                with_reducible rfl
                              rotate_left
                              · simp only [Act.put, List.setIfInBounds_toArray, List.set_cons_zero, List.set_cons_succ, i64_w, i32_w]
                                rfl
                              refine pure_ (i := 15) (N := some 60) (v := ?_) (a' := ?_) #[true, true, true, true, true, true, true, true, true, true, true, true, true, true, true, true, false, false, false, false, false, false] rfl rfl (any_of HT_.out (by kernel_rfl)) (fun _ _ _ h => h) (Or.inl ⟨by rfl, ?_⟩) ?_ ?_
                              rotate_left
                              · intro w'
                                go_simp
                                with_reducible rfl
                              rotate_left
                              · simp only [Act.put, List.setIfInBounds_toArray, List.set_cons_zero, List.set_cons_succ, i64_w, i32_w]
                                rfl
                              refine pure_ (i := 16) (N := some 61) (v := ?_) (a' := ?_) #[true, true, true, true, true, true, true, true, true, true, true, true, true, true, true, true, true, false, false, false, false, false] rfl rfl (any_of HT_.out (by kernel_rfl)) (fun _ _ _ h => h) (Or.inl ⟨by rfl, ?_⟩) ?_ ?_
                              rotate_left
                              · intro w'
                                go_simp
                                with_reducible rfl
                              rotate_left
                              · simp only [Act.put, List.setIfInBounds_toArray, List.set_cons_zero, List.set_cons_succ, i64_w, i32_w]
                                rfl
                              refine pure_ (i := 17) (N := some 62) (v := ?_) (a' := ?_) #[true, true, true, true, true, true, true, true, true, true, true, true, true, true, true, true, true, true, false, false, false, false] rfl rfl (any_of HT_.out (by kernel_rfl)) (fun _ _ _ h => h) (Or.inl ⟨by rfl, ?_⟩) ?_ ?_
                              rotate_left
                              · intro w'
                                go_simp
                                with_reducible rfl
                              rotate_left
                              · simp only [Act.put, List.setIfInBounds_toArray, List.set_cons_zero, List.set_cons_succ, i64_w, i32_w]
                                rfl
                              refine take_ (i := 18) (N := some 63) (v := ?_) (a' := ?_) #[true, true, true, true, true, true, true, true, true, true, true, true, true, true, true, true, true, true, true, false, false, false] rfl rfl (take_ofW HT_.out HW_.out (by kernel_rfl)) (fun _ _ _ h => h) (Or.inl ⟨by rfl, ?_⟩) hHeld ?_ ?_
                              rotate_left
                              · rintro w' ⟨s0, s1, s2, s3, s4, s5, s6, s7, s8, s9, s10, s11, s12, s13, s14, s15, s16, s17, s18, s19, s20⟩
                                go_simp
                                with_reducible rfl
                              rotate_left
                              · simp only [Act.put, List.setIfInBounds_toArray, List.set_cons_zero, List.set_cons_succ, i64_w, i32_w]
                                rfl
                              refine one_ (i := 19) (N := some 64) #[true, true, true, true, true, true, true, true, true, true, true, true, true, true, true, true, true, true, true, true, false, false] rfl rfl (one_of HT_.out (by kernel_rfl)) (by decide) (fun K hK => ?_)
                              refine goes_ Try.func19 (by kernel_rfl) rfl #[.int .i64 1, .int .i64 x8_3, .agg #[.int .i64 ((rd_T34 t353 0).f0), .int .i64 ((rd_T34 t353 0).f1), .int .i64 ((rd_T34 t353 0).f2), .int .i64 ((rd_T34 t353 0).f3), .int .i64 ((rd_T34 t353 0).f4.f0.f0), .int .i64 ((rd_T34 t353 0).f4.f0.f1), .int .i64 ((rd_T34 t353 0).f4.f1), .int .i64 ((rd_T34 t353 0).f4.f2), .int .i64 ((rd_T34 t353 0).f4.f3.f0), .int .i64 ((rd_T34 t353 0).f4.f3.f1)]] (by rfl) rfl rfl (by (try simp only [List.map_toArray, List.map_cons, List.map_nil]); first | done | rfl | (simp only [List.length_drop, List.length_take]; rfl)) ?_
                              with_reducible refine (sess_Take.calls 1 x8_3 ((rd_T34 t353 0).f0) ((rd_T34 t353 0).f1) ((rd_T34 t353 0).f2) ((rd_T34 t353 0).f3) ((rd_T34 t353 0).f4.f0.f0) ((rd_T34 t353 0).f4.f0.f1) ((rd_T34 t353 0).f4.f1) ((rd_T34 t353 0).f4.f2) ((rd_T34 t353 0).f4.f3.f0) ((rd_T34 t353 0).f4.f3.f1) t359 _ A33.out).mono ?_
                              rintro e w41 ⟨rfl, hb⟩
                              have HS0_ := (hb.cell (World.block_lt_of_cell? _ _ (hHeld.1))).trans (hHeld.1)
                              have HS1_ := (hb.cell (World.block_lt_of_cell? _ _ (hHeld.2.1))).trans (hHeld.2.1)
                              have HS2_ := (hb.cell (World.block_lt_of_cell? _ _ (hHeld.2.2.1))).trans (hHeld.2.2.1)
                              have HS3_ := (hb.cell (World.block_lt_of_cell? _ _ (hHeld.2.2.2.1))).trans (hHeld.2.2.2.1)
                              have HS4_ := (hb.cell (World.block_lt_of_cell? _ _ (hHeld.2.2.2.2.1))).trans (hHeld.2.2.2.2.1)
                              have HS5_ := (hb.cell (World.block_lt_of_cell? _ _ (hHeld.2.2.2.2.2.1))).trans (hHeld.2.2.2.2.2.1)
                              have HS6_ := (hb.cell (World.block_lt_of_cell? _ _ (hHeld.2.2.2.2.2.2.1))).trans (hHeld.2.2.2.2.2.2.1)
                              have HS7_ := (hb.cell (World.block_lt_of_cell? _ _ (hHeld.2.2.2.2.2.2.2.1))).trans (hHeld.2.2.2.2.2.2.2.1)
                              have HS8_ := (hb.cell (World.block_lt_of_cell? _ _ (hHeld.2.2.2.2.2.2.2.2.1))).trans (hHeld.2.2.2.2.2.2.2.2.1)
                              have HS9_ := (hb.cell (World.block_lt_of_cell? _ _ (hHeld.2.2.2.2.2.2.2.2.2.1))).trans (hHeld.2.2.2.2.2.2.2.2.2.1)
                              have HS11_ := (hb.cell (World.block_lt_of_cell? _ _ (hHeld.2.2.2.2.2.2.2.2.2.2.2.1))).trans (hHeld.2.2.2.2.2.2.2.2.2.2.2.1)
                              have HS12_ := (hb.cell (World.block_lt_of_cell? _ _ (hHeld.2.2.2.2.2.2.2.2.2.2.2.2.1))).trans (hHeld.2.2.2.2.2.2.2.2.2.2.2.2.1)
                              have HS13_ := (hb.cell (World.block_lt_of_cell? _ _ (hHeld.2.2.2.2.2.2.2.2.2.2.2.2.2.1))).trans (hHeld.2.2.2.2.2.2.2.2.2.2.2.2.2.1)
                              have HS14_ := (hb.cell (World.block_lt_of_cell? _ _ (hHeld.2.2.2.2.2.2.2.2.2.2.2.2.2.2.1))).trans (hHeld.2.2.2.2.2.2.2.2.2.2.2.2.2.2.1)
                              have HS15_ := (hb.cell (World.block_lt_of_cell? _ _ (hHeld.2.2.2.2.2.2.2.2.2.2.2.2.2.2.2.1))).trans (hHeld.2.2.2.2.2.2.2.2.2.2.2.2.2.2.2.1)
                              have HS16_ := (hb.cell (World.block_lt_of_cell? _ _ (hHeld.2.2.2.2.2.2.2.2.2.2.2.2.2.2.2.2.1))).trans (hHeld.2.2.2.2.2.2.2.2.2.2.2.2.2.2.2.2.1)
                              have HS17_ := (hb.cell (World.block_lt_of_cell? _ _ (hHeld.2.2.2.2.2.2.2.2.2.2.2.2.2.2.2.2.2.1))).trans (hHeld.2.2.2.2.2.2.2.2.2.2.2.2.2.2.2.2.2.1)
                              have HS18_ := (hb.cell (World.block_lt_of_cell? _ _ (hHeld.2.2.2.2.2.2.2.2.2.2.2.2.2.2.2.2.2.2.1))).trans (hHeld.2.2.2.2.2.2.2.2.2.2.2.2.2.2.2.2.2.2.1)
                              have HS19_ := (hb.cell (World.block_lt_of_cell? _ _ (hHeld.2.2.2.2.2.2.2.2.2.2.2.2.2.2.2.2.2.2.2.1))).trans (hHeld.2.2.2.2.2.2.2.2.2.2.2.2.2.2.2.2.2.2.2.1)
                              have HS20_ := (hb.cell (World.block_lt_of_cell? _ _ (hHeld.2.2.2.2.2.2.2.2.2.2.2.2.2.2.2.2.2.2.2.2))).trans (hHeld.2.2.2.2.2.2.2.2.2.2.2.2.2.2.2.2.2.2.2.2)
                              refine ⟨_, rfl, ?_⟩
                              have n0_ := Aside0.mk (Kd.V_below (by (with_reducible repeat (first | apply Kd.V_alloc | apply Kd.V_drewN | apply Kd.V_drew)); exact HO_342002.out) hb)
                              have n1_ := Aside0.mk (Kd.R_below (by (with_reducible repeat (first | apply Kd.R_alloc | apply Kd.R_drewN | apply Kd.R_drew)); exact HO355.out) hb)
                              have n2_ := Aside0.mk (blk_below (g := gb341) (o := .cells #[.int .i64 x342000_3, .int .i64 x342001_3, .slice Ao37 x342002_3.length co37] 41 (0, 0)) (by (with_reducible repeat (first | refine blk_drewN ?_ _ | refine blk_drew ?_ | refine blk_alloc ?_ _)); exact BK341.out) hb)
                              have n3_ := Aside0.mk (below_step (by repeat (first | (with_reducible first | exact HB.out | apply below_alloc | apply pw_below_drewN | apply below_drew1 | refine below_set ?_ GE341.out) | exact HB.out)) hb)
                              clear HO_342002
                              clear HO355
                              clear BK341
                              clear HB
                              have HO_342002 := n0_
                              have HO355 := n1_
                              have BK341 := n2_
                              have HB := n3_
                              clear n0_ n1_ n2_ n3_
                              (try clear hb)
                              (try clear hb2)
                              (try clear hk)
                              (try clear hi)
                              refine hK.out _ _ ⟨HS0_, HS1_, HS2_, HS3_, HS4_, HS5_, HS6_, HS7_, HS8_, HS9_, ((HB.out.cell (World.block_lt_of_cell? w _ hw357_0)).trans hw357_0), HS11_, HS12_, HS13_, HS14_, HS15_, HS16_, HS17_, HS18_, HS19_, HS20_⟩ (fun hHeld => ?_)
                              clear hK K
                              refine norm_ (a' := ?_) ?_ ?_
                              rotate_left
                              · show Act.put _ (some 64) _ = _
                                simp only [Act.put, List.setIfInBounds_toArray, List.set_cons_zero, List.set_cons_succ, i64_w, i32_w]
                                rfl
                              refine pure_ (i := 20) (N := some 65) (v := ?_) (a' := ?_) #[true, true, true, true, true, true, true, true, true, true, true, true, true, true, true, true, true, true, true, true, true, false] rfl rfl (any_of HT_.out (by kernel_rfl)) (fun _ _ _ h => h) (Or.inl ⟨by rfl, ?_⟩) ?_ ?_
                              rotate_left
                              · intro w'
                                go_simp
                                with_reducible rfl
                              rotate_left
                              · simp only [Act.put, List.setIfInBounds_toArray, List.set_cons_zero, List.set_cons_succ, i64_w, i32_w]
                                rfl
                              refine pure_ (i := 21) (N := some 66) (v := ?_) (a' := ?_) #[true, true, true, true, true, true, true, true, true, true, true, true, true, true, true, true, true, true, true, true, true, true] rfl rfl (any_of HT_.out (by kernel_rfl)) (fun _ _ _ h => h) (Or.inl ⟨by rfl, ?_⟩) ?_ ?_
                              rotate_left
                              · intro w'
                                go_simp
                                with_reducible rfl
                              rotate_left
                              · simp only [Act.put, List.setIfInBounds_toArray, List.set_cons_zero, List.set_cons_succ, i64_w, i32_w]
                                rfl
                              refine done_ (done_of HT_.out (by kernel_rfl)) ?_
                              have hcz42_0 : w41.cell? ⟨gb341, 0, none⟩ = some (.int .i64 x342000_3) := (blk_cell BK341.out 0).trans rfl
                              have hcz42_1 : w41.cell? ⟨gb341, 1, none⟩ = some (.int .i64 x342001_3) := (blk_cell BK341.out 1).trans rfl
                              have hcz42_2 : w41.cell? ⟨gb341, 2, none⟩ = some (.slice Ao37 x342002_3.length co37) := (blk_cell BK341.out 2).trans rfl
                              have hfz42_0 := blk_frozen BK341.out 0
                              have hfz42_1 := blk_frozen BK341.out 1
                              have hfz42_2 := blk_frozen BK341.out 2
                              try go_wp2_with (first | ((with_reducible refine gate_callee (f := 18) rfl ?_); refine goesL_ (some 70) rfl rfl Try.func18 (by kernel_rfl) rfl #[.agg #[.int .i64 x342000_3, .int .i64 x342001_3, .slice Ao37 x342002_3.length co37], .int .i64 1, .int .i64 (wrap64 (x8_3 + 1))] rfl (by (try simp only [List.map_toArray, List.map_cons, List.map_nil]); first | done | rfl | (simp only [List.length_drop, List.length_take]; rfl)) ?_; (with_reducible refine (sess_Done.calls x342000_3 x342001_3 _ _ x342002_3 1 (wrap64 (x8_3 + 1)) t360 t361 t362 _ ?side1 ?side2 A35.out).mono ?_); (case side1 => repeat (first | exact (Kd.V_reads' HO_342002.out).2.2 | (with_reducible refine Kd.C_alloc ?_ _) | (with_reducible refine Kd.C_drewN ?_ _) | (with_reducible refine Kd.C_drew ?_))); (case side2 => exact (Kd.V_reads' HO_342002.out).2.1); rintro e w43 ⟨v363, rfl, ho0, hb⟩; refine ⟨_, rfl, ?_⟩; have n0_ := Aside0.mk (Kd.V_below (by (with_reducible repeat (first | apply Kd.V_alloc | apply Kd.V_drewN | apply Kd.V_drew)); exact HO_342002.out) hb); have n1_ := Aside0.mk (Kd.R_below (by (with_reducible repeat (first | apply Kd.R_alloc | apply Kd.R_drewN | apply Kd.R_drew)); exact HO355.out) hb); have n2_ := Aside0.mk (Kd.V_lower (Kd.V_mono (ok' := fun k_ => some k_ ≠ (.slice (some ad356) t353.length co40 : Value).ownBlock ∧ k_ ≠ gb341) ho0 (fun k_ hk_ => ⟨(Kd.fresh' (Kd.R_lt (by (with_reducible repeat (first | apply Kd.R_alloc | apply Kd.R_drewN | apply Kd.R_drew)); exact HO355.out)) k_ hk_), (Kd.freshB (g := gb341) (o := .cells #[.int .i64 x342000_3, .int .i64 x342001_3, .slice Ao37 x342002_3.length co37] 41 (0, 0)) (by (with_reducible repeat (first | refine blk_drewN ?_ _ | refine blk_drew ?_ | refine blk_alloc ?_ _)); exact BK341.out) k_ hk_)⟩)) (below_size (by repeat (first | (with_reducible first | exact HB.out | apply below_alloc | apply pw_below_drewN | apply below_drew1 | refine below_set ?_ GE341.out) | exact HB.out)))); have n3_ := Aside0.mk (blk_below (g := gb341) (o := .cells #[.int .i64 x342000_3, .int .i64 x342001_3, .slice Ao37 x342002_3.length co37] 41 (0, 0)) (by (with_reducible repeat (first | refine blk_drewN ?_ _ | refine blk_drew ?_ | refine blk_alloc ?_ _)); exact BK341.out) hb); have n4_ := Aside0.mk (below_step (by repeat (first | (with_reducible first | exact HB.out | apply below_alloc | apply pw_below_drewN | apply below_drew1 | refine below_set ?_ GE341.out) | exact HB.out)) hb); clear HO_342002; clear HO355; clear BK341; clear HB; have HO_342002 := n0_; have HO355 := n1_; have HO364 := n2_; have BK341 := n3_; have HB := n4_; clear n0_ n1_ n2_ n3_ n4_; (try clear hb); (try clear hb2); (try clear hk); (try clear hi); (try clear ho0); have hcz44_0 : w43.cell? ⟨gb341, 0, none⟩ = some (.int .i64 x342000_3) := (blk_cell BK341.out 0).trans rfl; have hcz44_1 : w43.cell? ⟨gb341, 1, none⟩ = some (.int .i64 x342001_3) := (blk_cell BK341.out 1).trans rfl; have hcz44_2 : w43.cell? ⟨gb341, 2, none⟩ = some (.slice Ao37 x342002_3.length co37) := (blk_cell BK341.out 2).trans rfl; have hfz44_0 := blk_frozen BK341.out 0; have hfz44_1 := blk_frozen BK341.out 1; have hfz44_2 := blk_frozen BK341.out 2; obtain ⟨Ao45, co45, eo45⟩ := Kd.V_slice HO364.out; subst eo45))
                              go_roundg k3
                              case measure => have := HJ2.out; have := HK2.out; have := HK3.out; omega
                              case rel => exact ⟨(wrap64 (x8_3 + 1)), (t360), (t361), (t362), (.slice Ao45 t362.length co45), (by first | rfl | (simp; done) | (simp [*]; done)), H', ⟨by have := HJ2.out; have := HK2.out; have := HK3.out; omega⟩, ⟨by (with_reducible repeat (first | apply Kd.V_alloc | apply Kd.V_drewN | apply Kd.V_drew)); exact Kd.V_mono (Kd.V_far (p := ⟨gb341, 2, none⟩) (Kd.V_far (p := ⟨gb341, 1, none⟩) (Kd.V_far (p := ⟨gb341, 0, none⟩) (Kd.V_mono HO364.out (fun k_ hk => (⟨hk, hk.2⟩ : _ ∧ k_ ≠ gb341))) (fun _ hk => hk.2) (.int .i64 t360)) (fun _ hk => hk.2) (.int .i64 t361)) (fun _ hk => hk.2) (.slice Ao45 t362.length co45)) (fun _ hk => hk.1.2)⟩, ⟨by (with_reducible repeat (first | refine blk_drewN ?_ _ | refine blk_drew ?_ | refine blk_alloc ?_ _)); refine blk_put (cs := #[.int .i64 t360, .int .i64 t361, .slice Ao37 x342002_3.length co37]) ?_ 2 _ rfl; (with_reducible repeat (first | refine blk_drewN ?_ _ | refine blk_drew ?_ | refine blk_alloc ?_ _)); refine blk_put (cs := #[.int .i64 t360, .int .i64 x342001_3, .slice Ao37 x342002_3.length co37]) ?_ 1 _ rfl; (with_reducible repeat (first | refine blk_drewN ?_ _ | refine blk_drew ?_ | refine blk_alloc ?_ _)); refine blk_put (cs := #[.int .i64 x342000_3, .int .i64 x342001_3, .slice Ao37 x342002_3.length co37]) ?_ 0 _ rfl; (with_reducible repeat (first | refine blk_drewN ?_ _ | refine blk_drew ?_ | refine blk_alloc ?_ _)); exact BK341.out⟩, ⟨by repeat (first | (with_reducible first | exact HB.out | apply below_alloc | apply pw_below_drewN | apply below_drew1 | refine below_set ?_ GE341.out) | exact HB.out)⟩⟩
                            · rw [if_neg c34] at H
                              exact absurd H (by simp)
                          · rw [if_neg c32] at H
                            have c32b0 : (((rd_T34 t353 0).f3) == (rd l0 x8_3)) = false := beq_eq_false_iff_ne.mpr c32
                            have c32b1 : (((rd_T34 t353 0).f3) != (rd l0 x8_3)) = true := bne_iff_ne.mpr c32
                            exact absurd H (by simp)
                        · rw [if_neg c31] at H
                          exact absurd H (by simp)
                      · rw [if_neg c30] at H
                        exact absurd H (by simp)
                    · rw [if_neg c29] at H
                      have c29b0 : ((t353.length : Int) == 1) = false := beq_eq_false_iff_ne.mpr c29
                      have c29b1 : ((t353.length : Int) != 1) = true := bne_iff_ne.mpr c29
                      exact absurd H (by simp)
                  · rw [if_neg c27] at H
                    have c27b0 : decide (x8_3 < (l0.length : Int)) = false := decide_eq_false c27
                    clear c27
                    by_cases c46 : (x342002_3.length : Int) = 0
                    · rw [if_pos c46] at H
                      have c46b0 : ((x342002_3.length : Int) == 0) = true := beq_iff_eq.mpr c46
                      have c46b1 : ((x342002_3.length : Int) != 0) = false := bne_eq_false_iff_eq.mpr c46
                      clear c46
                      replace H := Option.bind_eq_some_iff.mp H
                      obtain ⟨t350, A470, H⟩ := H
                      replace H : (some ((t350.length : Int) == 0)) = some r := H
                      have A47 := Aside0.mk A470
                      clear A470
                      obtain rfl := Option.some.inj H
                      have hcz48_0 : wr.cell? ⟨gb341, 0, none⟩ = some (.int .i64 x342000_3) := (blk_cell BK341.out 0).trans rfl
                      have hcz48_1 : wr.cell? ⟨gb341, 1, none⟩ = some (.int .i64 x342001_3) := (blk_cell BK341.out 1).trans rfl
                      have hcz48_2 : wr.cell? ⟨gb341, 2, none⟩ = some (u342002) := (blk_cell BK341.out 2).trans rfl
                      have hfz48_0 := blk_frozen BK341.out 0
                      have hfz48_1 := blk_frozen BK341.out 1
                      have hfz48_2 := blk_frozen BK341.out 2
                      obtain ⟨Ao49, co49, eo49⟩ := Kd.V_slice HO_342002.out
                      subst eo49
                      go_wp2_with (first | (go_at_call 24; (with_reducible refine (sess_First.calls x342000_3 x342001_3 _ _ x342002_3 3 t350 _ ?side1 ?side2 A47.out).mono ?_); (case side1 => repeat (first | exact (Kd.V_reads' HO_342002.out).2.2 | (with_reducible refine Kd.C_alloc ?_ _) | (with_reducible refine Kd.C_drewN ?_ _) | (with_reducible refine Kd.C_drew ?_))); (case side2 => exact (Kd.V_reads' HO_342002.out).2.1); rintro e w50 ⟨v351, rfl, ho0, hb⟩; have n0_ := Aside0.mk (Kd.V_elder' (by (with_reducible repeat (first | apply Kd.V_alloc | apply Kd.V_drewN | apply Kd.V_drew)); exact HO_342002.out) (Kd.R_base ho0) hb); have n1_ := Aside0.mk (Kd.R_lower ho0 (below_size (by repeat (first | (with_reducible first | exact HB.out | apply below_alloc | apply pw_below_drewN | apply below_drew1 | refine below_set ?_ GE341.out) | exact HB.out)))); have n2_ := Aside0.mk (blk_below (g := gb341) (o := .cells #[.int .i64 x342000_3, .int .i64 x342001_3, .slice Ao49 x342002_3.length co49] 41 (0, 0)) (by (with_reducible repeat (first | refine blk_drewN ?_ _ | refine blk_drew ?_ | refine blk_alloc ?_ _)); exact BK341.out) hb); have n3_ := Aside0.mk (below_step (by repeat (first | (with_reducible first | exact HB.out | apply below_alloc | apply pw_below_drewN | apply below_drew1 | refine below_set ?_ GE341.out) | exact HB.out)) hb); clear HO_342002; clear BK341; clear HB; have HO_342002 := n0_; have HO352 := n1_; have BK341 := n2_; have HB := n3_; clear n0_ n1_ n2_ n3_; (try clear hb); (try clear hb2); (try clear hk); (try clear hi); (try clear ho0); obtain ⟨Ao51, co51, eo51⟩ := Kd.R_slice HO352.out; subst eo51))
                      go_ret
                      exact ⟨by first | rfl | (simp [errW_none, errW_some] <;> rfl) | (simp [*, errW_none, errW_some] <;> rfl), by repeat (first | (with_reducible first | exact HB.out | apply below_alloc | apply pw_below_drewN | apply below_drew1 | refine below_set ?_ GE341.out) | exact HB.out)⟩
                    · rw [if_neg c46] at H
                      exact absurd H (by simp)

def wayfinderlaw15_SessGoes.Pure : Prop := ∀ (l0 : List Int), l0.length ≤ maxLen → (∀ x ∈ l0, (Lit.int .i64 x).wf = true) → ∃ k, wayfinderlaw15_SessGoes.f k l0 = some true
theorem wayfinderlaw15_SessGoes.walk (P : wayfinderlaw15_SessGoes.Pure) (A0 : Option Addr) (c0 : Nat) (l0 : List Int) (w : World) (hr0 : Kd.C (Kd.int .i64) w A0 l0.length l0) (hc0 : l0.length ≤ c0) (w0 : l0.length ≤ maxLen) (w1 : (∀ x ∈ l0, (Lit.int .i64 x).wf = true)) :
    Calls Try.prog 7 #[.slice A0 l0.length c0] w fun e w' => e = .returned (.bool true) ∧ Below w.heap.size w w' := by
  obtain ⟨k, h⟩ := P l0 w0 w1
  refine (wayfinderlaw15_SessGoes.calls k A0 c0 l0 true w hr0 hc0 h).mono ?_
  rintro e w' ⟨rfl, hd⟩
  exact ⟨rfl, hd⟩

end Go.Proofs.Ytibkmiffibacbaa.Print
