/- A text that a program of this session printed out of the translation: checked by Lean alone. -/
import Derived.Test.YtibkmiffibacbaaPrint0
namespace Go.Proofs.Ytibkmiffibacbaa.Print
open Go.RowKit Go.Proofs.YtibkmiffibacbaaW.PrintWords Go.Proofs.YtibkmiffibacbaaW.PrintLast Go.Proofs.YtibkmiffibacbaaW.PrintMore
attribute [local go_sem] max2_int min2_int max_two min_two max_three min_three max_four min_four   -- for this text's walks alone
set_option linter.unusedVariables false
set_option linter.unusedSimpArgs false

/-! ### wayfinderref20_Adds: function 32 -/
def wayfinderref20_Adds.l0 : Nat → Int → List (S32) → List (S34) → Int → Option ((List (S34)))
  | 0, _, _, _, _ => none
  | k + 1, x0, x1, x5, x6 => if x6 < (x1.length : Int) then (if 0 ≤ x6 then (if x5.length < 1759218604441 then (wayfinderref20_Adds.l0 k x0 x1 (x5 ++ [(⟨2, 0, 0, x0, (⟨(⟨(rd_T32 x1 x6).f0.f0, (rd_T32 x1 x6).f0.f1⟩ : S28), (rd_T32 x1 x6).f1, (rd_T32 x1 x6).f2, (⟨(rd_T32 x1 x6).f3.f0, (rd_T32 x1 x6).f3.f1⟩ : S30)⟩ : S32)⟩ : S34)]) (wrap64 (x6 + 1))) else (none)) else (none)) else (some x5)
def wayfinderref20_Adds.f (k : Nat) (a0 : Int) (l1 : List (S32)) : Option ((List (S34))) := wayfinderref20_Adds.l0 k a0 l1 ([] : List (S34)) 0
theorem wayfinderref20_Adds.mono_l : ∀ k, (∀ y0 y1 y2 y3, LeO (wayfinderref20_Adds.l0 k y0 y1 y2 y3) (wayfinderref20_Adds.l0 (k + 1) y0 y1 y2 y3))
  | 0 => fun _ _ _ _ r h => by simp [wayfinderref20_Adds.l0] at h
  | k + 1 => by
    have ih0 := wayfinderref20_Adds.mono_l k
    · intro y0 y1 y2 y3
      unfold wayfinderref20_Adds.l0
      repeat' first
      | (with_reducible exact ih0 _ _ _ _)
      | (with_reducible exact LeO.refl _)
      | (with_reducible exact LeO.none _)
      | (with_reducible refine LeO.ite ?_ ?_)
      | (with_reducible refine LeO.bind ?_ (fun _ => ?_))
      | exact ih0 _ _ _ _
      | exact LeO.none _
      | refine LeO.ite ?_ ?_
      | refine LeO.bind ?_ (fun _ => ?_)
theorem wayfinderref20_Adds.mono : ∀ a0 a1 k, LeO (wayfinderref20_Adds.f k a0 a1) (wayfinderref20_Adds.f (k + 1) a0 a1) := by
  intro a0 a1 k
  have ih0 := wayfinderref20_Adds.mono_l k
  unfold wayfinderref20_Adds.f
  repeat' first
      | (with_reducible exact ih0 _ _ _ _)
      | (with_reducible exact LeO.refl _)
      | (with_reducible exact LeO.none _)
      | (with_reducible refine LeO.ite ?_ ?_)
      | (with_reducible refine LeO.bind ?_ (fun _ => ?_))
      | exact ih0 _ _ _ _
      | exact LeO.none _
      | refine LeO.ite ?_ ?_
      | refine LeO.bind ?_ (fun _ => ?_)
set_option maxHeartbeats 8000000 in
set_option maxRecDepth 100000 in
theorem wayfinderref20_Adds.calls (k : Nat) (a0 : Int) (A1 : Option Addr) (c1 : Nat) (l1 : List (S32)) (r : List (S34)) (w : World) (hr1 : Kd.C k32 w A1 l1.length l1) (hc1 : l1.length ≤ c1) (h : wayfinderref20_Adds.f k a0 l1 = some r) :
    Calls Try.prog 32 #[.int .i64 a0, .slice A1 l1.length c1] w fun e w' => ∃ v0_ : Value, e = .returned (v0_) ∧ Kd.R k34 34 w' w.heap.size (fun _ => True) v0_ r ∧ Below w.heap.size w w' := by
  have hu32 := Try.underlying32
  have hu34 := Try.underlying34
  have HR1 := Aside0.mk hr1
  have HC1 := Aside0.mk hc1
  clear hr1 hc1
  have HB := Aside0.mk (Below.refl w.heap.size w)
  have H : (wayfinderref20_Adds.l0 k a0 l1 ([] : List (S34)) 0) = some r := h
  clear h
  have H' := Aside0.mk H
  clear H
  go_enter Try.func32, Try.ntmps32
  go_wp2
  go_loopg [5, 6] k (fun kq v5 v6 w' => ∃ (x5_1 : List (S34)) (x6_1 : Int), v6 = .int .i64 x6_1 ∧ Aside0 (wayfinderref20_Adds.l0 kq a0 l1 x5_1 x6_1 = some r) ∧ Aside0 (kq ≤ k) ∧ Aside0 (Kd.R k34 34 w' w.heap.size (fun _ => True) v5 x5_1) ∧ Aside0 (Below w.heap.size w w'))
  case atStart => exact ⟨(([] : List (S34))), (0), (by first | rfl | (simp; done) | (simp [*]; done)), H', ⟨Nat.le_refl _⟩, ⟨by first | exact Kd.R_nil _ _ _ _ _ | exact Kd.N_nil _ _ _ _ _ | exact Kd.V_nil _ _ _ _ _ | exact Kd.Q_nil _ _ _ _ _ | exact Kd.S_nil _ _ _ _ _⟩, ⟨by repeat (first | (with_reducible first | exact HB.out | apply below_alloc | apply pw_below_drewN | apply below_drew1) | exact HB.out)⟩⟩
  case round =>
    clear H'
    try clear c1
    try clear p2
    obtain ⟨x5_1, x6_1, rfl, HA, HK1, HO_5, HB⟩ := hrel
    cases gk with
    | zero => exact absurd HA.out (by simp [wayfinderref20_Adds.l0])
    | succ k1 =>
      have H := HA.out
      clear HA
      simp only [wayfinderref20_Adds.l0] at H
      by_cases c3 : x6_1 < (l1.length : Int)
      · rw [if_pos c3] at H
        have c3b0 : decide (x6_1 < (l1.length : Int)) = true := decide_eq_true c3
        clear c3
        by_cases c4 : 0 ≤ x6_1
        · rw [if_pos c4] at H
          have c4b0 : decide (0 ≤ x6_1) = true := decide_eq_true c4
          clear c4
          by_cases c5 : x5_1.length < 1759218604441
          · rw [if_pos c5] at H
            have LMc5 := Aside0.mk c5
            clear c5
            obtain ⟨y388, hy388⟩ : ∃ y_ : List (S34), y_ = (x5_1 ++ [(⟨2, 0, 0, a0, (⟨(⟨(rd_T32 l1 x6_1).f0.f0, (rd_T32 l1 x6_1).f0.f1⟩ : S28), (rd_T32 l1 x6_1).f1, (rd_T32 l1 x6_1).f2, (⟨(rd_T32 l1 x6_1).f3.f0, (rd_T32 l1 x6_1).f3.f1⟩ : S30)⟩ : S32)⟩ : S34)]) := ⟨_, rfl⟩
            replace H : (wayfinderref20_Adds.l0 k1 a0 l1 y388 (wrap64 (x6_1 + 1))) = some r := by first | (rw [hy388]; with_reducible exact H) | (have H2_ := (Option.bind_some _ _).symm.trans H; rw [hy388]; with_reducible exact H2_) | (have H2_ := (Option.bind_some _ _).symm.trans H; with_reducible exact H2_) | with_reducible exact H | (rw [hy388]; exact H) | exact H
            have Ny388 := Aside0.mk hy388
            clear hy388
            have H' := Aside0.mk H
            clear H
            have p387 : 0 ≤ (x6_1 : Int) := of_decide_eq_true (by first | (with_reducible assumption) | assumption)
            have q387 : x6_1 < (l1.length : Int) := of_decide_eq_true (by first | (with_reducible assumption) | assumption)
            obtain ⟨ad387, e387, hx387_0, hx387_1, hx387_2, hx387_3, hx387_4, hx387_5⟩ := at_T32 HR1.out x6_1 p387 q387
            cases e387
            replace hx387_0 := (HB.out.cell (World.block_lt_of_cell? w _ hx387_0)).trans hx387_0
            replace hx387_1 := (HB.out.cell (World.block_lt_of_cell? w _ hx387_1)).trans hx387_1
            replace hx387_2 := (HB.out.cell (World.block_lt_of_cell? w _ hx387_2)).trans hx387_2
            replace hx387_3 := (HB.out.cell (World.block_lt_of_cell? w _ hx387_3)).trans hx387_3
            replace hx387_4 := (HB.out.cell (World.block_lt_of_cell? w _ hx387_4)).trans hx387_4
            replace hx387_5 := (HB.out.cell (World.block_lt_of_cell? w _ hx387_5)).trans hx387_5
            replace p387 := eq_true p387
            replace q387 := eq_true q387
            go_wp2_with (first | ((with_reducible refine gate_builtin (b := .append) (xs := #[.tmp 13, .tmp 20]) rfl ?_); at_builtin; refine Kd.R_append k34 (w0 := w) w.heap.size rfl (.tmp 13) (.tmp 20) 25 34 (.agg #[(.int .i64 0), (.int .i64 0), (.int .i64 0), (.int .i64 0), (.int .i64 0), (.int .i64 0), (.int .i64 0), (.int .i64 0), (.int .i64 0), (.int .i64 0)]) 80 rfl Try.underlying25 info34 rfl (by decide) (by omega) u5 x5_1 (⟨2, 0, 0, a0, (⟨(⟨(rd_T32 l1 x6_1).f0.f0, (rd_T32 l1 x6_1).f0.f1⟩ : S28), (rd_T32 l1 x6_1).f1, (rd_T32 l1 x6_1).f2, (⟨(rd_T32 l1 x6_1).f3.f0, (rd_T32 l1 x6_1).f3.f1⟩ : S30)⟩ : S32)⟩ : S34) [.int .i64 2, .int .i64 0, .int .i64 0, .int .i64 a0, .int .i64 ((rd_T32 l1 x6_1).f0.f0), .int .i64 ((rd_T32 l1 x6_1).f0.f1), .int .i64 ((rd_T32 l1 x6_1).f1), .int .i64 ((rd_T32 l1 x6_1).f2), .int .i64 ((rd_T32 l1 x6_1).f3.f0), .int .i64 ((rd_T32 l1 x6_1).f3.f1)] (fun _ => True) (fun _ => False) rfl rfl ?aP (fun _ hk => hk.elim) ?aF ?aO ?aB ?aS ?aL ?_; (case aP => exact k34_mkM _ _ _ (⟨2, 0, 0, a0, (⟨(⟨(rd_T32 l1 x6_1).f0.f0, (rd_T32 l1 x6_1).f0.f1⟩ : S28), (rd_T32 l1 x6_1).f1, (rd_T32 l1 x6_1).f2, (⟨(rd_T32 l1 x6_1).f3.f0, (rd_T32 l1 x6_1).f3.f1⟩ : S30)⟩ : S32)⟩ : S34)); (case aB => exact (by repeat (first | (with_reducible first | exact HB.out | apply below_alloc | apply pw_below_drewN | apply below_drew1) | exact HB.out))); (case aF => exact (fun _ _ => trivial)); (case aO => exact (by (with_reducible repeat (first | apply Kd.R_alloc | apply Kd.R_drewN | apply Kd.R_drew)); exact HO_5.out)); (case aS => exact (below_size (by repeat (first | (with_reducible first | exact HB.out | apply below_alloc | apply pw_below_drewN | apply below_drew1) | exact HB.out)))); (case aL => have := LMc5.out; omega); intro v389 w6 ho hb hg hat; rw [← Ny388.out] at ho; have n0_ := Aside0.mk (hb); have n1_ := Aside0.mk (ho); clear HB; clear HO_5; have HB := n0_; have HO390 := n1_; clear n0_ n1_; clear ho hb hg hat))
            go_roundg k1
            case measure => have := HK1.out; omega
            case rel => exact ⟨(y388), (wrap64 (x6_1 + 1)), (by first | rfl | (simp; done) | (simp [*]; done)), H', ⟨by have := HK1.out; omega⟩, ⟨by (with_reducible repeat (first | apply Kd.R_alloc | apply Kd.R_drewN | apply Kd.R_drew)); exact HO390.out⟩, ⟨by repeat (first | (with_reducible first | exact HB.out | apply below_alloc | apply pw_below_drewN | apply below_drew1) | exact HB.out)⟩⟩
          · rw [if_neg c5] at H
            exact absurd H (by simp)
        · rw [if_neg c4] at H
          exact absurd H (by simp)
      · rw [if_neg c3] at H
        have c3b0 : decide (x6_1 < (l1.length : Int)) = false := decide_eq_false c3
        clear c3
        obtain rfl := Option.some.inj H
        go_wp2
        go_ret
        exact ⟨_, by first | rfl | (simp [errW_none, errW_some] <;> rfl) | (simp [*, errW_none, errW_some] <;> rfl), by (with_reducible repeat (first | apply Kd.R_alloc | apply Kd.R_drewN | apply Kd.R_drew)); exact HO_5.out, by repeat (first | (with_reducible first | exact HB.out | apply below_alloc | apply pw_below_drewN | apply below_drew1) | exact HB.out)⟩

end Go.Proofs.Ytibkmiffibacbaa.Print
