/- Functions of the program, as Lean functions, and that the code answers so. Printed by vgen.py. -/
import Derived.Test.YtkobhleoebgbhaaVF0
namespace Go.Proofs.Ytkobhleoebgbhaa.V
open Go Go.RowKit
set_option linter.unusedVariables false
set_option linter.unusedSimpArgs false
set_option maxRecDepth 100000
/-! ### f_plan_Push: function 20, wayfinder/plan.Push -/
abbrev f_plan_Push.ps : Sg := [(true, Tb104), (false, (.slice T4414))]
abbrev f_plan_Push.rs : Sg := [(true, Tb104)]
noncomputable def f_plan_Push.c0 : Code := (Go.Proofs.Try.f20.body).getD .skip
noncomputable def f_plan_Push.G : List (Nat × Spec) := [(14, f_sess_Push.S), (15, f_sess_Done.S)]
noncomputable def f_plan_Push.V : Env := { tt := tt, Γ := slk f_plan_Push.G }
noncomputable abbrev f_plan_Push.Q (r : Tup f_plan_Push.rs) : Exit → St → Prop := Qr tt Go.Proofs.Try.f20.results ⟨f_plan_Push.ps, f_plan_Push.rs, .any, none, fun _ _ => True⟩ r
abbrev f_plan_Push.R := Tup f_plan_Push.rs
noncomputable def f_plan_Push.s1 (p1 : List T4414.T) (p2 : Int) (p3 : Int) (p4 : Tb104.T) (p5 : Int) (p6 : Int) : St := ⟨31, [(2, .cv (.one (.ptr 0 0))), (4, .cv (.one (.ptr 1 0))), (14, .cv (.one (.sl T4414 p1 .any))), (15, .cv (.one (.int .i64 p2))), (16, .cv (.one (.int .i64 p3)))], [(.box 3, [.int .i64 p4.1, .int .i64 p4.2.1, .sl T4414 p4.2.2 .any]), (.box 3, [.int .i64 p5, .int .i64 p6, .nils])]⟩
noncomputable def f_plan_Push.s2 (p1 : Tb104.T) (p2 : Int) (p3 : Int) : St := ⟨31, [(2, .cv (.one (.ptr 0 0))), (4, .cv (.one (.ptr 1 0)))], [(.box 3, [.int .i64 p1.1, .int .i64 p1.2.1, .sl T4414 p1.2.2 .any]), (.box 3, [.int .i64 p2, .int .i64 p3, .nils])]⟩
noncomputable def f_plan_Push.j2 (k : Nat) (p1 : Tb104.T) (p2 : Int) (p3 : Int) : Option f_plan_Push.R :=
  some (p1, ())
theorem f_plan_Push.j2_ok (hV : EnvOk P f_plan_Push.V) {r : f_plan_Push.R} (k : Nat) (p1 : Tb104.T) (p2 : Int) (p3 : Int) (H : f_plan_Push.j2 k p1 p2 p3 = some r) : W P 0 (Code.r (Code.r (Code.r f_plan_Push.c0))) (f_plan_Push.s2 p1 p2 p3) (f_plan_Push.Q r) := by
  unfold f_plan_Push.j2 at H
  refine D_seq (by kernel_rfl) ?_
  refine D_reg (cs := []) (τ := ⟨31, [(4, .cv (.one (.ptr 0 0)))], [(.box 3, [.int .i64 p1.1, .int .i64 p1.2.1, .sl T4414 p1.2.2 .any])]⟩) hV 0 [] {live := [4], src := [some 1]} (by kernel_rfl) (by kernel_rfl) trivial ?_
  refine th_n ?_
  refine D_ret (by kernel_rfl) ?_
  exact lf_r (Eq.trans (by kernel_rfl) H)
noncomputable def f_plan_Push.b1 (L1 : List T4414.T → Int → Int → Tb104.T → Int → Int → Option f_plan_Push.R) (k : Nat) (p1 : List T4414.T) (p2 : Int) (p3 : Int) (p4 : Tb104.T) (p5 : Int) (p6 : Int) : Option f_plan_Push.R :=
  if (decide (p3 < p2)) = true then
  if 0 ≤ p3 then
    if p3 < (p1.length : Int) then
      (f_sess_Push.f k p4 (att T4414 p1 p3)).bind fun y6 =>
        if (y6.2.1 != (0 : Int)) = true then
          f_plan_Push.j2 k p4 p5 p6
        else
          L1 p1 p2 (IntKind.i64.wrap (p3 + 1)) y6.1 p5 p6
    else none
  else none
else
  f_plan_Push.j2 k p4 p5 p6
theorem f_plan_Push.b1_ok (hV : EnvOk P f_plan_Push.V) {r : f_plan_Push.R} (L1 : List T4414.T → Int → Int → Tb104.T → Int → Int → Option f_plan_Push.R) (m1 : Nat) (hL1 : ∀ (p1 : List T4414.T) (p2 : Int) (p3 : Int) (p4 : Tb104.T) (p5 : Int) (p6 : Int), L1 p1 p2 p3 p4 p5 p6 = some r → WL P 0 (Code.l (Code.l (Code.r (Code.l (Code.r (Code.r f_plan_Push.c0)))))) (blockW 0 (thenW P 0 (Code.r (Code.r (Code.r f_plan_Push.c0))) (f_plan_Push.Q r))) m1 (f_plan_Push.s1 p1 p2 p3 p4 p5 p6)) (k : Nat) (p1 : List T4414.T) (p2 : Int) (p3 : Int) (p4 : Tb104.T) (p5 : Int) (p6 : Int) (H : f_plan_Push.b1 L1 k p1 p2 p3 p4 p5 p6 = some r) : W P 0 (Code.l (Code.l (Code.r (Code.l (Code.r (Code.r f_plan_Push.c0)))))) (f_plan_Push.s1 p1 p2 p3 p4 p5 p6) (roundW P 0 (Code.l (Code.l (Code.r (Code.l (Code.r (Code.r f_plan_Push.c0)))))) (blockW 0 (thenW P 0 (Code.r (Code.r (Code.r f_plan_Push.c0))) (f_plan_Push.Q r))) m1) := by
  unfold f_plan_Push.b1 at H
  refine D_seq (by kernel_rfl) ?_
  refine D_reg (cs := []) (τ := ⟨31, [(2, .cv (.one (.ptr 0 0))), (4, .cv (.one (.ptr 1 0))), (14, .cv (.one (.sl T4414 p1 .any))), (15, .cv (.one (.int .i64 p2))), (16, .cv (.one (.int .i64 p3))), (17, .cv (.one (.bool (decide (p3 < p2)))))], [(.box 3, [.int .i64 p4.1, .int .i64 p4.2.1, .sl T4414 p4.2.2 .any]), (.box 3, [.int .i64 p5, .int .i64 p6, .nils])]⟩) hV 0 [] {live := [2, 4, 14, 15, 16, 17], src := [some 0, some 1]} (by kernel_rfl) (by kernel_rfl) trivial ?_
  refine th_n ?_
  refine D_seq (by kernel_rfl) ?_
  refine D_condB (t := 17) (b := (decide (p3 < p2))) (by kernel_rfl) (by kernel_rfl) (fun hb3 => ?_) (fun hb3 => ?_)
  · rw [if_pos hb3] at H
    refine D_skip (by kernel_rfl) ?_
    refine th_n ?_
    refine D_seq (by kernel_rfl) ?_
    refine D_block (id := 1) (by kernel_rfl) ?_
    refine D_seq (by kernel_rfl) ?_
    obtain ⟨n4, H⟩ := of_if H
    obtain ⟨n5, H⟩ := of_if H
    refine D_reg (cs := [0 ≤ p3, p3 < (p1.length : Int)]) (τ := ⟨31, [(2, .cv (.one (.ptr 0 0))), (4, .cv (.one (.ptr 1 0))), (6, .cv (.one (.ptr 2 0))), (14, .cv (.one (.sl T4414 p1 .any))), (15, .cv (.one (.int .i64 p2))), (16, .cv (.one (.int .i64 p3)))], [(.box 3, [.int .i64 p4.1, .int .i64 p4.2.1, .sl T4414 p4.2.2 .any]), (.box 3, [.int .i64 p5, .int .i64 p6, .nils]), (.box 10, [.int .i64 ((att T4414 p1 p3).1), .int .i64 (((att T4414 p1 p3).2).1), .int .i64 ((((att T4414 p1 p3).2).2).1), .int .i64 (((((att T4414 p1 p3).2).2).2).1), .int .i64 (((((((att T4414 p1 p3).2).2).2).2).1).1), .int .i64 (((((((att T4414 p1 p3).2).2).2).2).1).2), .int .i64 (((((((att T4414 p1 p3).2).2).2).2).2).1), .int .i64 ((((((((att T4414 p1 p3).2).2).2).2).2).2).1), .int .i64 (((((((((att T4414 p1 p3).2).2).2).2).2).2).2).1), .int .i64 (((((((((att T4414 p1 p3).2).2).2).2).2).2).2).2)])]⟩) hV 1 [(2, {sb := 2})] {live := [2, 4, 6, 14, 15, 16], src := [some 0, some 1, some 2]} (by kernel_rfl) (by kernel_rfl) ⟨n4, n5, trivial⟩ ?_
    refine th_n ?_
    refine D_seq (by kernel_rfl) ?_
    obtain ⟨y6, e7, H⟩ := of_bind H
    refine D_reg (cs := [f_sess_Push.S.rel (p4, (att T4414 p1 p3), ()) y6]) (τ := ⟨31, [(2, .cv (.one (.ptr 0 0))), (4, .cv (.one (.ptr 1 0))), (7, .cv (.one (.ptr 2 0))), (8, .cv (.one (.int .i64 y6.2.1))), (14, .cv (.one (.sl T4414 p1 .any))), (15, .cv (.one (.int .i64 p2))), (16, .cv (.one (.int .i64 p3)))], [(.box 3, [.int .i64 p4.1, .int .i64 p4.2.1, .sl T4414 p4.2.2 .any]), (.box 3, [.int .i64 p5, .int .i64 p6, .nils]), (.box 3, [.int .i64 y6.1.1, .int .i64 y6.1.2.1, .sl T4414 y6.1.2.2 .any])]⟩) hV 1 [(2, {res := some ⟨f_sess_Push.S.rs, y6⟩}), (6, {sb := 3})] {live := [2, 4, 7, 8, 14, 15, 16], src := [some 0, some 1, some 3]} (by kernel_rfl) (by kernel_rfl) ⟨⟨k, e7⟩, trivial⟩ ?_
    refine th_n ?_
    refine D_seq (by kernel_rfl) ?_
    refine D_seq (by kernel_rfl) ?_
    refine D_reg (cs := []) (τ := ⟨31, [(2, .cv (.one (.ptr 0 0))), (4, .cv (.one (.ptr 1 0))), (7, .cv (.one (.ptr 2 0))), (14, .cv (.one (.sl T4414 p1 .any))), (15, .cv (.one (.int .i64 p2))), (16, .cv (.one (.int .i64 p3))), (27, .cv (.one (.bool (y6.2.1 != (0 : Int)))))], [(.box 3, [.int .i64 p4.1, .int .i64 p4.2.1, .sl T4414 p4.2.2 .any]), (.box 3, [.int .i64 p5, .int .i64 p6, .nils]), (.box 3, [.int .i64 y6.1.1, .int .i64 y6.1.2.1, .sl T4414 y6.1.2.2 .any])]⟩) hV 0 [] {live := [2, 4, 7, 14, 15, 16, 27], src := [some 0, some 1, some 2]} (by kernel_rfl) (by kernel_rfl) trivial ?_
    refine th_n ?_
    refine D_condB (t := 27) (b := (y6.2.1 != (0 : Int))) (by kernel_rfl) (by kernel_rfl) (fun hb8 => ?_) (fun hb8 => ?_)
    · rw [if_pos hb8] at H
      refine D_exit (id := 0) (by kernel_rfl) ?_
      refine th_x ?_
      refine bl_x rfl ?_
      refine th_x ?_
      refine ro_x ?_
      refine bl_h ?_
      refine th_n ?_
      refine W_tell (τ := f_plan_Push.s2 p4 p5 p6) {fz := [], gr := 0, ad := [], live := [2, 4], src := [some 0, some 1]} (by kernel_rfl) (by kernel_rfl) ?_
      exact f_plan_Push.j2_ok hV k p4 p5 p6 H
    · rw [if_neg (by rw [hb8]; decide)] at H
      refine D_skip (by kernel_rfl) ?_
      refine th_n ?_
      refine D_reg (cs := []) (τ := ⟨31, [(2, .cv (.one (.ptr 0 0))), (4, .cv (.one (.ptr 1 0))), (14, .cv (.one (.sl T4414 p1 .any))), (15, .cv (.one (.int .i64 p2))), (16, .cv (.one (.int .i64 p3)))], [(.box 3, [.int .i64 y6.1.1, .int .i64 y6.1.2.1, .sl T4414 y6.1.2.2 .any]), (.box 3, [.int .i64 p5, .int .i64 p6, .nils])]⟩) hV 0 [] {live := [2, 4, 14, 15, 16], src := [some 0, some 1]} (by kernel_rfl) (by kernel_rfl) trivial ?_
      refine bl_n ?_
      refine th_n ?_
      refine D_reg (cs := []) (τ := ⟨31, [(2, .cv (.one (.ptr 0 0))), (4, .cv (.one (.ptr 1 0))), (14, .cv (.one (.sl T4414 p1 .any))), (15, .cv (.one (.int .i64 p2))), (16, .cv (.one (.int .i64 (IntKind.i64.wrap (p3 + 1)))))], [(.box 3, [.int .i64 y6.1.1, .int .i64 y6.1.2.1, .sl T4414 y6.1.2.2 .any]), (.box 3, [.int .i64 p5, .int .i64 p6, .nils])]⟩) hV 0 [] {live := [2, 4, 14, 15, 16], src := [some 0, some 1]} (by kernel_rfl) (by kernel_rfl) trivial ?_
      refine ro_n (WL_tell (τ := f_plan_Push.s1 p1 p2 (IntKind.i64.wrap (p3 + 1)) y6.1 p5 p6) {fz := [], gr := 0, ad := [], live := [2, 4, 14, 15, 16], src := [some 0, some 1]} (by kernel_rfl) (by kernel_rfl) ?_)
      exact hL1 p1 p2 (IntKind.i64.wrap (p3 + 1)) y6.1 p5 p6 H
  · rw [if_neg (by rw [hb3]; decide)] at H
    refine D_exit (id := 0) (by kernel_rfl) ?_
    refine th_x ?_
    refine ro_x ?_
    refine bl_h ?_
    refine th_n ?_
    refine W_tell (τ := f_plan_Push.s2 p4 p5 p6) {fz := [], gr := 0, ad := [], live := [2, 4], src := [some 0, some 1]} (by kernel_rfl) (by kernel_rfl) ?_
    exact f_plan_Push.j2_ok hV k p4 p5 p6 H
noncomputable def f_plan_Push.l1 (k : Nat) : Nat → List T4414.T → Int → Int → Tb104.T → Int → Int → Option f_plan_Push.R
  | 0, _, _, _, _, _, _ => none
  | m + 1, p1, p2, p3, p4, p5, p6 => f_plan_Push.b1 (f_plan_Push.l1 k m) k p1 p2 p3 p4 p5 p6
theorem f_plan_Push.l1_ok (hV : EnvOk P f_plan_Push.V) {r : f_plan_Push.R} (k : Nat) : ∀ (m1 : Nat) (p1 : List T4414.T) (p2 : Int) (p3 : Int) (p4 : Tb104.T) (p5 : Int) (p6 : Int), f_plan_Push.l1 k m1 p1 p2 p3 p4 p5 p6 = some r → WL P 0 (Code.l (Code.l (Code.r (Code.l (Code.r (Code.r f_plan_Push.c0)))))) (blockW 0 (thenW P 0 (Code.r (Code.r (Code.r f_plan_Push.c0))) (f_plan_Push.Q r))) m1 (f_plan_Push.s1 p1 p2 p3 p4 p5 p6)
  | 0, _, _, _, _, _, _, H => by cases H
  | m1 + 1, p1, p2, p3, p4, p5, p6, H => WL_succ (f_plan_Push.b1_ok hV (f_plan_Push.l1 k m1) m1 (fun p1 p2 p3 p4 p5 p6 H => f_plan_Push.l1_ok hV k m1 p1 p2 p3 p4 p5 p6 H) k p1 p2 p3 p4 p5 p6 H)
noncomputable def f_plan_Push.f (k : Nat) (a1 : Tb104.T) (a2 : List T4414.T) : Option f_plan_Push.R :=
  (f_sess_Done.f k a1 (IntKind.i64.wrap (a1.1 - 1)) (0 : Int)).bind fun y1 =>
    f_plan_Push.l1 k k a2 (a2.length : Int) 0 y1.1 0 0
noncomputable def f_plan_Push.S : Spec := ⟨f_plan_Push.ps, f_plan_Push.rs, .any, none, fun x r => ∃ k, f_plan_Push.f k x.1 x.2.1 = some r⟩
theorem f_plan_Push.f_ok (hV : EnvOk P f_plan_Push.V) {r : f_plan_Push.R} (k : Nat) (a1 : Tb104.T) (a2 : List T4414.T) (H : f_plan_Push.f k a1 a2 = some r) : W P 0 f_plan_Push.c0 (⟨31, [(0, .cv (.agg [.int .i64 a1.1, .int .i64 a1.2.1, .sl T4414 a1.2.2 .any])), (1, .cv (.one (.sl T4414 a2 .any)))], []⟩) (f_plan_Push.Q r) := by
  unfold f_plan_Push.f at H
  refine D_seq (by kernel_rfl) ?_
  refine D_reg (cs := []) (τ := ⟨31, [(1, .cv (.one (.sl T4414 a2 .any))), (2, .cv (.one (.ptr 0 0))), (4, .cv (.one (.ptr 1 0)))], [(.box 3, [.int .i64 a1.1, .int .i64 a1.2.1, .sl T4414 a1.2.2 .any]), (.box 3, [.int .i64 0, .int .i64 0, .nils])]⟩) hV 2 [(0, {sb := 0}), (1, {sb := 1})] {live := [1, 2, 4], src := [some 0, some 1]} (by kernel_rfl) (by kernel_rfl) trivial ?_
  refine th_n ?_
  refine D_seq (by kernel_rfl) ?_
  obtain ⟨y1, e2, H⟩ := of_bind H
  refine D_reg (cs := [f_sess_Done.S.rel (a1, (IntKind.i64.wrap (a1.1 - 1)), 0, ()) y1]) (τ := ⟨31, [(1, .cv (.one (.sl T4414 a2 .any))), (2, .cv (.one (.ptr 0 0))), (4, .cv (.one (.ptr 1 0)))], [(.box 3, [.int .i64 y1.1.1, .int .i64 y1.1.2.1, .sl T4414 y1.1.2.2 .any]), (.box 3, [.int .i64 0, .int .i64 0, .nils])]⟩) hV 0 [(4, {res := some ⟨f_sess_Done.S.rs, y1⟩})] {live := [1, 2, 4], src := [some 0, some 1]} (by kernel_rfl) (by kernel_rfl) ⟨⟨k, e2⟩, trivial⟩ ?_
  refine th_n ?_
  refine D_seq (by kernel_rfl) ?_
  refine D_seq (by kernel_rfl) ?_
  refine D_reg (cs := []) (τ := ⟨31, [(2, .cv (.one (.ptr 0 0))), (4, .cv (.one (.ptr 1 0))), (14, .cv (.one (.sl T4414 a2 .any))), (15, .cv (.one (.int .i64 (a2.length : Int)))), (16, .cv (.one (.int .i64 0)))], [(.box 3, [.int .i64 y1.1.1, .int .i64 y1.1.2.1, .sl T4414 y1.1.2.2 .any]), (.box 3, [.int .i64 0, .int .i64 0, .nils])]⟩) hV 0 [] {live := [2, 4, 14, 15, 16], src := [some 0, some 1]} (by kernel_rfl) (by kernel_rfl) trivial ?_
  refine th_n ?_
  refine D_block (id := 0) (by kernel_rfl) ?_
  refine W_tell (τ := f_plan_Push.s1 a2 (a2.length : Int) 0 y1.1 0 0) {fz := [], gr := 0, ad := [], live := [2, 4, 14, 15, 16], src := [some 0, some 1]} (by kernel_rfl) (by kernel_rfl) ?_
  exact D_loop (by kernel_rfl) k (f_plan_Push.l1_ok hV k k a2 (a2.length : Int) 0 y1.1 0 0 H)
theorem f_plan_Push.V_ok : EnvOk P f_plan_Push.V := { ck := tt_ck, fits := slk_cons f_sess_Push.fits (slk_cons f_sess_Done.fits (slk_nil)), mixed := mixed }
theorem f_plan_Push.fits : Fits P 20 f_plan_Push.S := fits_of f_plan_Push.V_ok Go.Proofs.Try.func20 (by kernel_rfl) (by decide) (by decide) rfl (fun x r ⟨k, H⟩ => f_plan_Push.f_ok f_plan_Push.V_ok k x.1 x.2.1 H)
/-! ### f_law20_PlanCounts: function 4, wayfinder/wayfinderlaw20.PlanCounts -/
abbrev f_law20_PlanCounts.ps : Sg := [(false, (.slice T814c)), (false, (.int .i64)), (true, Tb104)]
abbrev f_law20_PlanCounts.rs : Sg := [(false, .bool)]
noncomputable def f_law20_PlanCounts.c0 : Code := (Go.Proofs.Try.f4.body).getD .skip
noncomputable def f_law20_PlanCounts.G : List (Nat × Spec) := [(17, f_law20_awake.S), (18, f_law09_Few.S), (19, f_plan_Sync.S), (20, f_plan_Push.S)]
noncomputable def f_law20_PlanCounts.V : Env := { tt := tt, Γ := slk f_law20_PlanCounts.G }
noncomputable abbrev f_law20_PlanCounts.Q (r : Tup f_law20_PlanCounts.rs) : Exit → St → Prop := Qr tt Go.Proofs.Try.f4.results ⟨f_law20_PlanCounts.ps, f_law20_PlanCounts.rs, .any, none, fun _ _ => True⟩ r
abbrev f_law20_PlanCounts.R := Tup f_law20_PlanCounts.rs
noncomputable def f_law20_PlanCounts.s1 (p1 : List T814c.T) (p2 : Int) (p3 : Bool) (p4 : Bool) (p5 : Tb104.T) : St := ⟨133, [(0, .cv (.one (.sl T814c p1 .any))), (1, .cv (.one (.int .i64 p2))), (5, .cv (.one (.ptr 0 0))), (7, .cv (.one (.bool p3))), (39, .cv (.one (.bool p4)))], [(.box 3, [.int .i64 p5.1, .int .i64 p5.2.1, .sl T4414 p5.2.2 .any])]⟩
noncomputable def f_law20_PlanCounts.s2 (p1 : List T814c.T) (p2 : Int) (p3 : Int) (p4 : Int) (p5 : Tb104.T) : St := ⟨133, [(0, .cv (.one (.sl T814c p1 .any))), (1, .cv (.one (.int .i64 p2))), (5, .cv (.one (.ptr 0 0))), (9, .cv (.one (.int .i64 p3))), (10, .cv (.one (.int .i64 p4)))], [(.box 3, [.int .i64 p5.1, .int .i64 p5.2.1, .sl T4414 p5.2.2 .any])]⟩
noncomputable def f_law20_PlanCounts.s3 (p1 : Int) (p2 : List T4414.T) (p3 : Bool) (p4 : Tb104.T) (p5 : Tb104.T) : St := ⟨133, [(5, .cv (.one (.ptr 0 0))), (9, .cv (.one (.int .i64 p1))), (11, .cv (.one (.sl T4414 p2 .any))), (12, .cv (.one (.ptr 1 0))), (84, .cv (.one (.bool p3)))], [(.box 3, [.int .i64 p4.1, .int .i64 p4.2.1, .sl T4414 p4.2.2 .any]), (.box 3, [.int .i64 p5.1, .int .i64 p5.2.1, .sl T4414 p5.2.2 .any])]⟩
noncomputable def f_law20_PlanCounts.s4 (p1 : Int) (p2 : List T4414.T) (p3 : Int) (p4 : Tb104.T) (p5 : Tb104.T) : St := ⟨133, [(5, .cv (.one (.ptr 0 0))), (9, .cv (.one (.int .i64 p1))), (11, .cv (.one (.sl T4414 p2 .any))), (12, .cv (.one (.ptr 1 0))), (13, .cv (.one (.int .i64 p3)))], [(.box 3, [.int .i64 p4.1, .int .i64 p4.2.1, .sl T4414 p4.2.2 .any]), (.box 3, [.int .i64 p5.1, .int .i64 p5.2.1, .sl T4414 p5.2.2 .any])]⟩
noncomputable def f_law20_PlanCounts.s5 (p1 : Int) (p2 : List T4414.T) (p3 : Int) (p4 : Bool) (p5 : Tb104.T) (p6 : Tb104.T) : St := ⟨133, [(5, .cv (.one (.ptr 0 0))), (9, .cv (.one (.int .i64 p1))), (11, .cv (.one (.sl T4414 p2 .any))), (12, .cv (.one (.ptr 1 0))), (13, .cv (.one (.int .i64 p3))), (132, .cv (.one (.bool p4)))], [(.box 3, [.int .i64 p5.1, .int .i64 p5.2.1, .sl T4414 p5.2.2 .any]), (.box 3, [.int .i64 p6.1, .int .i64 p6.2.1, .sl T4414 p6.2.2 .any])]⟩
noncomputable def f_law20_PlanCounts.j5 (L4 : Int → List T4414.T → Int → Tb104.T → Tb104.T → Option f_law20_PlanCounts.R) (k : Nat) (p1 : Int) (p2 : List T4414.T) (p3 : Int) (p4 : Bool) (p5 : Tb104.T) (p6 : Tb104.T) : Option f_law20_PlanCounts.R :=
  if p4 = true then
  some (false, ())
else
  L4 p1 p2 (IntKind.i64.wrap (p3 + 1)) p5 p6
theorem f_law20_PlanCounts.j5_ok (hV : EnvOk P f_law20_PlanCounts.V) {r : f_law20_PlanCounts.R} (L4 : Int → List T4414.T → Int → Tb104.T → Tb104.T → Option f_law20_PlanCounts.R) (m4 : Nat) (hL4 : ∀ (p1 : Int) (p2 : List T4414.T) (p3 : Int) (p4 : Tb104.T) (p5 : Tb104.T), L4 p1 p2 p3 p4 p5 = some r → WL P 0 (Code.l (Code.l (Code.r (Code.l (Code.r (Code.r (Code.r (Code.r (Code.r (Code.r (Code.r (Code.r (Code.r f_law20_PlanCounts.c0))))))))))))) (blockW 2 (thenW P 0 (Code.r (Code.r (Code.r (Code.r (Code.r (Code.r (Code.r (Code.r (Code.r (Code.r f_law20_PlanCounts.c0)))))))))) (f_law20_PlanCounts.Q r))) m4 (f_law20_PlanCounts.s4 p1 p2 p3 p4 p5)) (k : Nat) (p1 : Int) (p2 : List T4414.T) (p3 : Int) (p4 : Bool) (p5 : Tb104.T) (p6 : Tb104.T) (H : f_law20_PlanCounts.j5 L4 k p1 p2 p3 p4 p5 p6 = some r) : W P 0 (Code.r (Code.r (Code.l (Code.l (Code.r (Code.l (Code.l (Code.r (Code.l (Code.r (Code.r (Code.r (Code.r (Code.r (Code.r (Code.r (Code.r (Code.r f_law20_PlanCounts.c0)))))))))))))))))) (f_law20_PlanCounts.s5 p1 p2 p3 p4 p5 p6) (blockW 3 (thenW P 0 (Code.r (Code.r (Code.l (Code.l (Code.r (Code.l (Code.r (Code.r (Code.r (Code.r (Code.r (Code.r (Code.r (Code.r (Code.r f_law20_PlanCounts.c0))))))))))))))) (roundW P 0 (Code.l (Code.l (Code.r (Code.l (Code.r (Code.r (Code.r (Code.r (Code.r (Code.r (Code.r (Code.r (Code.r f_law20_PlanCounts.c0))))))))))))) (blockW 2 (thenW P 0 (Code.r (Code.r (Code.r (Code.r (Code.r (Code.r (Code.r (Code.r (Code.r (Code.r f_law20_PlanCounts.c0)))))))))) (f_law20_PlanCounts.Q r))) m4))) := by
  unfold f_law20_PlanCounts.j5 at H
  refine D_condB (t := 132) (b := p4) (by kernel_rfl) (by kernel_rfl) (fun hb20 => ?_) (fun hb20 => ?_)
  · rw [if_pos hb20] at H
    refine D_seq (by kernel_rfl) ?_
    refine D_reg (cs := []) (τ := ⟨133, [(6, .cv (.one (.bool false)))], []⟩) hV 0 [] {live := [6], src := []} (by kernel_rfl) (by kernel_rfl) trivial ?_
    refine th_n ?_
    refine D_ret (by kernel_rfl) ?_
    refine bl_r ?_
    refine th_r ?_
    refine ro_r ?_
    refine bl_r ?_
    refine th_r ?_
    exact lf_r (Eq.trans (by kernel_rfl) H)
  · rw [if_neg (by rw [hb20]; decide)] at H
    refine D_skip (by kernel_rfl) ?_
    refine bl_n ?_
    refine th_n ?_
    refine D_reg (cs := []) (τ := ⟨133, [(5, .cv (.one (.ptr 0 0))), (9, .cv (.one (.int .i64 p1))), (11, .cv (.one (.sl T4414 p2 .any))), (12, .cv (.one (.ptr 1 0))), (13, .cv (.one (.int .i64 (IntKind.i64.wrap (p3 + 1)))))], [(.box 3, [.int .i64 p5.1, .int .i64 p5.2.1, .sl T4414 p5.2.2 .any]), (.box 3, [.int .i64 p6.1, .int .i64 p6.2.1, .sl T4414 p6.2.2 .any])]⟩) hV 0 [] {live := [5, 9, 11, 12, 13], src := [some 0, some 1]} (by kernel_rfl) (by kernel_rfl) trivial ?_
    refine ro_n (WL_tell (τ := f_law20_PlanCounts.s4 p1 p2 (IntKind.i64.wrap (p3 + 1)) p5 p6) {fz := [], gr := 0, ad := [], live := [5, 9, 11, 12, 13], src := [some 0, some 1]} (by kernel_rfl) (by kernel_rfl) ?_)
    exact hL4 p1 p2 (IntKind.i64.wrap (p3 + 1)) p5 p6 H
noncomputable def f_law20_PlanCounts.b4 (L4 : Int → List T4414.T → Int → Tb104.T → Tb104.T → Option f_law20_PlanCounts.R) (k : Nat) (p1 : Int) (p2 : List T4414.T) (p3 : Int) (p4 : Tb104.T) (p5 : Tb104.T) : Option f_law20_PlanCounts.R :=
  if (decide (p3 < p1)) = true then
  if 0 ≤ (IntKind.i64.wrap ((p4.2.2.length : Int) + p3)) then
    if (IntKind.i64.wrap ((p4.2.2.length : Int) + p3)) < (p5.2.2.length : Int) then
      if (((((att T4414 p5.2.2 (IntKind.i64.wrap ((p4.2.2.length : Int) + p3))).2).2).1) != (IntKind.i64.wrap (p4.2.1 + p3))) = true then
        f_law20_PlanCounts.j5 L4 k p1 p2 p3 true p4 p5
      else
        if ((((att T4414 p5.2.2 (IntKind.i64.wrap ((p4.2.2.length : Int) + p3))).2).1) != p4.1) = true then
          f_law20_PlanCounts.j5 L4 k p1 p2 p3 true p4 p5
        else
          if 0 ≤ p3 then
            if p3 < (p2.length : Int) then
              if (((att T4414 p5.2.2 (IntKind.i64.wrap ((p4.2.2.length : Int) + p3))).1) != ((att T4414 p2 p3).1)) = true then
                f_law20_PlanCounts.j5 L4 k p1 p2 p3 true p4 p5
              else
                f_law20_PlanCounts.j5 L4 k p1 p2 p3 ((((((att T4414 p5.2.2 (IntKind.i64.wrap ((p4.2.2.length : Int) + p3))).2).2).2).1) != (((((att T4414 p2 p3).2).2).2).1)) p4 p5
            else none
          else none
    else none
  else none
else
  some (true, ())
theorem f_law20_PlanCounts.b4_ok (hV : EnvOk P f_law20_PlanCounts.V) {r : f_law20_PlanCounts.R} (L4 : Int → List T4414.T → Int → Tb104.T → Tb104.T → Option f_law20_PlanCounts.R) (m4 : Nat) (hL4 : ∀ (p1 : Int) (p2 : List T4414.T) (p3 : Int) (p4 : Tb104.T) (p5 : Tb104.T), L4 p1 p2 p3 p4 p5 = some r → WL P 0 (Code.l (Code.l (Code.r (Code.l (Code.r (Code.r (Code.r (Code.r (Code.r (Code.r (Code.r (Code.r (Code.r f_law20_PlanCounts.c0))))))))))))) (blockW 2 (thenW P 0 (Code.r (Code.r (Code.r (Code.r (Code.r (Code.r (Code.r (Code.r (Code.r (Code.r f_law20_PlanCounts.c0)))))))))) (f_law20_PlanCounts.Q r))) m4 (f_law20_PlanCounts.s4 p1 p2 p3 p4 p5)) (k : Nat) (p1 : Int) (p2 : List T4414.T) (p3 : Int) (p4 : Tb104.T) (p5 : Tb104.T) (H : f_law20_PlanCounts.b4 L4 k p1 p2 p3 p4 p5 = some r) : W P 0 (Code.l (Code.l (Code.r (Code.l (Code.r (Code.r (Code.r (Code.r (Code.r (Code.r (Code.r (Code.r (Code.r f_law20_PlanCounts.c0))))))))))))) (f_law20_PlanCounts.s4 p1 p2 p3 p4 p5) (roundW P 0 (Code.l (Code.l (Code.r (Code.l (Code.r (Code.r (Code.r (Code.r (Code.r (Code.r (Code.r (Code.r (Code.r f_law20_PlanCounts.c0))))))))))))) (blockW 2 (thenW P 0 (Code.r (Code.r (Code.r (Code.r (Code.r (Code.r (Code.r (Code.r (Code.r (Code.r f_law20_PlanCounts.c0)))))))))) (f_law20_PlanCounts.Q r))) m4) := by
  unfold f_law20_PlanCounts.b4 at H
  refine D_seq (by kernel_rfl) ?_
  refine D_seq (by kernel_rfl) ?_
  refine D_reg (cs := []) (τ := ⟨133, [(5, .cv (.one (.ptr 0 0))), (9, .cv (.one (.int .i64 p1))), (11, .cv (.one (.sl T4414 p2 .any))), (12, .cv (.one (.ptr 1 0))), (13, .cv (.one (.int .i64 p3))), (87, .cv (.one (.bool (decide (p3 < p1)))))], [(.box 3, [.int .i64 p4.1, .int .i64 p4.2.1, .sl T4414 p4.2.2 .any]), (.box 3, [.int .i64 p5.1, .int .i64 p5.2.1, .sl T4414 p5.2.2 .any])]⟩) hV 0 [] {live := [5, 9, 11, 12, 13, 87], src := [some 0, some 1]} (by kernel_rfl) (by kernel_rfl) trivial ?_
  refine th_n ?_
  refine D_condB (t := 87) (b := (decide (p3 < p1))) (by kernel_rfl) (by kernel_rfl) (fun hb16 => ?_) (fun hb16 => ?_)
  · rw [if_pos hb16] at H
    refine D_skip (by kernel_rfl) ?_
    refine th_n ?_
    refine D_seq (by kernel_rfl) ?_
    refine D_block (id := 3) (by kernel_rfl) ?_
    refine D_seq (by kernel_rfl) ?_
    obtain ⟨n17, H⟩ := of_if H
    obtain ⟨n18, H⟩ := of_if H
    refine D_reg (cs := [0 ≤ (IntKind.i64.wrap ((p4.2.2.length : Int) + p3)), (IntKind.i64.wrap ((p4.2.2.length : Int) + p3)) < (p5.2.2.length : Int)]) (τ := ⟨133, [(5, .cv (.one (.ptr 0 0))), (9, .cv (.one (.int .i64 p1))), (11, .cv (.one (.sl T4414 p2 .any))), (12, .cv (.one (.ptr 1 0))), (13, .cv (.one (.int .i64 p3))), (14, .cv (.one (.ptr 2 0)))], [(.box 3, [.int .i64 p4.1, .int .i64 p4.2.1, .sl T4414 p4.2.2 .any]), (.box 3, [.int .i64 p5.1, .int .i64 p5.2.1, .sl T4414 p5.2.2 .any]), (.box 10, [.int .i64 ((att T4414 p5.2.2 (IntKind.i64.wrap ((p4.2.2.length : Int) + p3))).1), .int .i64 (((att T4414 p5.2.2 (IntKind.i64.wrap ((p4.2.2.length : Int) + p3))).2).1), .int .i64 ((((att T4414 p5.2.2 (IntKind.i64.wrap ((p4.2.2.length : Int) + p3))).2).2).1), .int .i64 (((((att T4414 p5.2.2 (IntKind.i64.wrap ((p4.2.2.length : Int) + p3))).2).2).2).1), .int .i64 (((((((att T4414 p5.2.2 (IntKind.i64.wrap ((p4.2.2.length : Int) + p3))).2).2).2).2).1).1), .int .i64 (((((((att T4414 p5.2.2 (IntKind.i64.wrap ((p4.2.2.length : Int) + p3))).2).2).2).2).1).2), .int .i64 (((((((att T4414 p5.2.2 (IntKind.i64.wrap ((p4.2.2.length : Int) + p3))).2).2).2).2).2).1), .int .i64 ((((((((att T4414 p5.2.2 (IntKind.i64.wrap ((p4.2.2.length : Int) + p3))).2).2).2).2).2).2).1), .int .i64 (((((((((att T4414 p5.2.2 (IntKind.i64.wrap ((p4.2.2.length : Int) + p3))).2).2).2).2).2).2).2).1), .int .i64 (((((((((att T4414 p5.2.2 (IntKind.i64.wrap ((p4.2.2.length : Int) + p3))).2).2).2).2).2).2).2).2)])]⟩) hV 1 [(9, {sb := 2})] {live := [5, 9, 11, 12, 13, 14], src := [some 0, some 1, some 2]} (by kernel_rfl) (by kernel_rfl) ⟨n17, n18, trivial⟩ ?_
    refine th_n ?_
    refine D_seq (by kernel_rfl) ?_
    rcases of_ite H with ⟨hb19, H⟩ | ⟨hb19, H⟩
    · refine D_reg (cs := [((((((att T4414 p5.2.2 (IntKind.i64.wrap ((p4.2.2.length : Int) + p3))).2).2).1) != (IntKind.i64.wrap (p4.2.1 + p3)))) = true]) (τ := ⟨133, [(5, .cv (.one (.ptr 0 0))), (9, .cv (.one (.int .i64 p1))), (11, .cv (.one (.sl T4414 p2 .any))), (12, .cv (.one (.ptr 1 0))), (13, .cv (.one (.int .i64 p3))), (132, .cv (.one (.bool true)))], [(.box 3, [.int .i64 p4.1, .int .i64 p4.2.1, .sl T4414 p4.2.2 .any]), (.box 3, [.int .i64 p5.1, .int .i64 p5.2.1, .sl T4414 p5.2.2 .any])]⟩) hV 0 [(6, {bv := some true})] {live := [5, 9, 11, 12, 13, 132], src := [some 0, some 1]} (by kernel_rfl) (by kernel_rfl) ⟨hb19, trivial⟩ ?_
      refine th_n ?_
      refine W_tell (τ := f_law20_PlanCounts.s5 p1 p2 p3 true p4 p5) {fz := [], gr := 0, ad := [], live := [5, 9, 11, 12, 13, 132], src := [some 0, some 1]} (by kernel_rfl) (by kernel_rfl) ?_
      exact f_law20_PlanCounts.j5_ok hV L4 m4 hL4 k p1 p2 p3 true p4 p5 H
    · rcases of_ite H with ⟨hb21, H⟩ | ⟨hb21, H⟩
      · refine D_reg (cs := [((((((att T4414 p5.2.2 (IntKind.i64.wrap ((p4.2.2.length : Int) + p3))).2).2).1) != (IntKind.i64.wrap (p4.2.1 + p3)))) = false, (((((att T4414 p5.2.2 (IntKind.i64.wrap ((p4.2.2.length : Int) + p3))).2).1) != p4.1)) = true]) (τ := ⟨133, [(5, .cv (.one (.ptr 0 0))), (9, .cv (.one (.int .i64 p1))), (11, .cv (.one (.sl T4414 p2 .any))), (12, .cv (.one (.ptr 1 0))), (13, .cv (.one (.int .i64 p3))), (132, .cv (.one (.bool true)))], [(.box 3, [.int .i64 p4.1, .int .i64 p4.2.1, .sl T4414 p4.2.2 .any]), (.box 3, [.int .i64 p5.1, .int .i64 p5.2.1, .sl T4414 p5.2.2 .any])]⟩) hV 0 [(6, {bv := some false}), (13, {bv := some true})] {live := [5, 9, 11, 12, 13, 132], src := [some 0, some 1]} (by kernel_rfl) (by kernel_rfl) ⟨hb19, hb21, trivial⟩ ?_
        refine th_n ?_
        refine W_tell (τ := f_law20_PlanCounts.s5 p1 p2 p3 true p4 p5) {fz := [], gr := 0, ad := [], live := [5, 9, 11, 12, 13, 132], src := [some 0, some 1]} (by kernel_rfl) (by kernel_rfl) ?_
        exact f_law20_PlanCounts.j5_ok hV L4 m4 hL4 k p1 p2 p3 true p4 p5 H
      · obtain ⟨n22, H⟩ := of_if H
        obtain ⟨n23, H⟩ := of_if H
        rcases of_ite H with ⟨hb24, H⟩ | ⟨hb24, H⟩
        · refine D_reg (cs := [((((((att T4414 p5.2.2 (IntKind.i64.wrap ((p4.2.2.length : Int) + p3))).2).2).1) != (IntKind.i64.wrap (p4.2.1 + p3)))) = false, (((((att T4414 p5.2.2 (IntKind.i64.wrap ((p4.2.2.length : Int) + p3))).2).1) != p4.1)) = false, 0 ≤ p3, p3 < (p2.length : Int), ((((att T4414 p5.2.2 (IntKind.i64.wrap ((p4.2.2.length : Int) + p3))).1) != ((att T4414 p2 p3).1))) = true]) (τ := ⟨133, [(5, .cv (.one (.ptr 0 0))), (9, .cv (.one (.int .i64 p1))), (11, .cv (.one (.sl T4414 p2 .any))), (12, .cv (.one (.ptr 1 0))), (13, .cv (.one (.int .i64 p3))), (132, .cv (.one (.bool true)))], [(.box 3, [.int .i64 p4.1, .int .i64 p4.2.1, .sl T4414 p4.2.2 .any]), (.box 3, [.int .i64 p5.1, .int .i64 p5.2.1, .sl T4414 p5.2.2 .any])]⟩) hV 0 [(6, {bv := some false}), (13, {bv := some false}), (23, {bv := some true})] {live := [5, 9, 11, 12, 13, 132], src := [some 0, some 1]} (by kernel_rfl) (by kernel_rfl) ⟨hb19, hb21, n22, n23, hb24, trivial⟩ ?_
          refine th_n ?_
          refine W_tell (τ := f_law20_PlanCounts.s5 p1 p2 p3 true p4 p5) {fz := [], gr := 0, ad := [], live := [5, 9, 11, 12, 13, 132], src := [some 0, some 1]} (by kernel_rfl) (by kernel_rfl) ?_
          exact f_law20_PlanCounts.j5_ok hV L4 m4 hL4 k p1 p2 p3 true p4 p5 H
        · refine D_reg (cs := [((((((att T4414 p5.2.2 (IntKind.i64.wrap ((p4.2.2.length : Int) + p3))).2).2).1) != (IntKind.i64.wrap (p4.2.1 + p3)))) = false, (((((att T4414 p5.2.2 (IntKind.i64.wrap ((p4.2.2.length : Int) + p3))).2).1) != p4.1)) = false, 0 ≤ p3, p3 < (p2.length : Int), ((((att T4414 p5.2.2 (IntKind.i64.wrap ((p4.2.2.length : Int) + p3))).1) != ((att T4414 p2 p3).1))) = false, 0 ≤ p3, p3 < (p2.length : Int)]) (τ := ⟨133, [(5, .cv (.one (.ptr 0 0))), (9, .cv (.one (.int .i64 p1))), (11, .cv (.one (.sl T4414 p2 .any))), (12, .cv (.one (.ptr 1 0))), (13, .cv (.one (.int .i64 p3))), (132, .cv (.one (.bool ((((((att T4414 p5.2.2 (IntKind.i64.wrap ((p4.2.2.length : Int) + p3))).2).2).2).1) != (((((att T4414 p2 p3).2).2).2).1)))))], [(.box 3, [.int .i64 p4.1, .int .i64 p4.2.1, .sl T4414 p4.2.2 .any]), (.box 3, [.int .i64 p5.1, .int .i64 p5.2.1, .sl T4414 p5.2.2 .any])]⟩) hV 0 [(6, {bv := some false}), (13, {bv := some false}), (23, {bv := some false})] {live := [5, 9, 11, 12, 13, 132], src := [some 0, some 1]} (by kernel_rfl) (by kernel_rfl) ⟨hb19, hb21, n22, n23, hb24, n22, n23, trivial⟩ ?_
          refine th_n ?_
          refine W_tell (τ := f_law20_PlanCounts.s5 p1 p2 p3 ((((((att T4414 p5.2.2 (IntKind.i64.wrap ((p4.2.2.length : Int) + p3))).2).2).2).1) != (((((att T4414 p2 p3).2).2).2).1)) p4 p5) {fz := [], gr := 0, ad := [], live := [5, 9, 11, 12, 13, 132], src := [some 0, some 1]} (by kernel_rfl) (by kernel_rfl) ?_
          exact f_law20_PlanCounts.j5_ok hV L4 m4 hL4 k p1 p2 p3 ((((((att T4414 p5.2.2 (IntKind.i64.wrap ((p4.2.2.length : Int) + p3))).2).2).2).1) != (((((att T4414 p2 p3).2).2).2).1)) p4 p5 H
  · rw [if_neg (by rw [hb16]; decide)] at H
    refine D_exit (id := 2) (by kernel_rfl) ?_
    refine th_x ?_
    refine ro_x ?_
    refine bl_h ?_
    refine th_n ?_
    refine D_seq (by kernel_rfl) ?_
    refine D_reg (cs := []) (τ := ⟨133, [(6, .cv (.one (.bool true)))], []⟩) hV 0 [] {live := [6], src := []} (by kernel_rfl) (by kernel_rfl) trivial ?_
    refine th_n ?_
    refine D_ret (by kernel_rfl) ?_
    exact lf_r (Eq.trans (by kernel_rfl) H)
noncomputable def f_law20_PlanCounts.l4 (k : Nat) : Nat → Int → List T4414.T → Int → Tb104.T → Tb104.T → Option f_law20_PlanCounts.R
  | 0, _, _, _, _, _ => none
  | m + 1, p1, p2, p3, p4, p5 => f_law20_PlanCounts.b4 (f_law20_PlanCounts.l4 k m) k p1 p2 p3 p4 p5
theorem f_law20_PlanCounts.l4_ok (hV : EnvOk P f_law20_PlanCounts.V) {r : f_law20_PlanCounts.R} (k : Nat) : ∀ (m4 : Nat) (p1 : Int) (p2 : List T4414.T) (p3 : Int) (p4 : Tb104.T) (p5 : Tb104.T), f_law20_PlanCounts.l4 k m4 p1 p2 p3 p4 p5 = some r → WL P 0 (Code.l (Code.l (Code.r (Code.l (Code.r (Code.r (Code.r (Code.r (Code.r (Code.r (Code.r (Code.r (Code.r f_law20_PlanCounts.c0))))))))))))) (blockW 2 (thenW P 0 (Code.r (Code.r (Code.r (Code.r (Code.r (Code.r (Code.r (Code.r (Code.r (Code.r f_law20_PlanCounts.c0)))))))))) (f_law20_PlanCounts.Q r))) m4 (f_law20_PlanCounts.s4 p1 p2 p3 p4 p5)
  | 0, _, _, _, _, _, H => by cases H
  | m4 + 1, p1, p2, p3, p4, p5, H => WL_succ (f_law20_PlanCounts.b4_ok hV (f_law20_PlanCounts.l4 k m4) m4 (fun p1 p2 p3 p4 p5 H => f_law20_PlanCounts.l4_ok hV k m4 p1 p2 p3 p4 p5 H) k p1 p2 p3 p4 p5 H)
noncomputable def f_law20_PlanCounts.j3 (k : Nat) (p1 : Int) (p2 : List T4414.T) (p3 : Bool) (p4 : Tb104.T) (p5 : Tb104.T) : Option f_law20_PlanCounts.R :=
  if p3 = true then
  some (false, ())
else
  f_law20_PlanCounts.l4 k k p1 p2 0 p4 p5
theorem f_law20_PlanCounts.j3_ok (hV : EnvOk P f_law20_PlanCounts.V) {r : f_law20_PlanCounts.R} (k : Nat) (p1 : Int) (p2 : List T4414.T) (p3 : Bool) (p4 : Tb104.T) (p5 : Tb104.T) (H : f_law20_PlanCounts.j3 k p1 p2 p3 p4 p5 = some r) : W P 0 (Code.r (Code.l (Code.r (Code.r (Code.r (Code.r (Code.r (Code.r (Code.r (Code.r f_law20_PlanCounts.c0)))))))))) (f_law20_PlanCounts.s3 p1 p2 p3 p4 p5) (thenW P 0 (Code.r (Code.r (Code.r (Code.r (Code.r (Code.r (Code.r (Code.r (Code.r f_law20_PlanCounts.c0))))))))) (f_law20_PlanCounts.Q r)) := by
  unfold f_law20_PlanCounts.j3 at H
  refine D_condB (t := 84) (b := p3) (by kernel_rfl) (by kernel_rfl) (fun hb15 => ?_) (fun hb15 => ?_)
  · rw [if_pos hb15] at H
    refine D_seq (by kernel_rfl) ?_
    refine D_reg (cs := []) (τ := ⟨133, [(6, .cv (.one (.bool false)))], []⟩) hV 0 [] {live := [6], src := []} (by kernel_rfl) (by kernel_rfl) trivial ?_
    refine th_n ?_
    refine D_ret (by kernel_rfl) ?_
    refine th_r ?_
    exact lf_r (Eq.trans (by kernel_rfl) H)
  · rw [if_neg (by rw [hb15]; decide)] at H
    refine D_skip (by kernel_rfl) ?_
    refine th_n ?_
    refine D_seq (by kernel_rfl) ?_
    refine D_seq (by kernel_rfl) ?_
    refine D_reg (cs := []) (τ := ⟨133, [(5, .cv (.one (.ptr 0 0))), (9, .cv (.one (.int .i64 p1))), (11, .cv (.one (.sl T4414 p2 .any))), (12, .cv (.one (.ptr 1 0))), (13, .cv (.one (.int .i64 0)))], [(.box 3, [.int .i64 p4.1, .int .i64 p4.2.1, .sl T4414 p4.2.2 .any]), (.box 3, [.int .i64 p5.1, .int .i64 p5.2.1, .sl T4414 p5.2.2 .any])]⟩) hV 0 [] {live := [5, 9, 11, 12, 13], src := [some 0, some 1]} (by kernel_rfl) (by kernel_rfl) trivial ?_
    refine th_n ?_
    refine D_block (id := 2) (by kernel_rfl) ?_
    refine W_tell (τ := f_law20_PlanCounts.s4 p1 p2 0 p4 p5) {fz := [], gr := 0, ad := [], live := [5, 9, 11, 12, 13], src := [some 0, some 1]} (by kernel_rfl) (by kernel_rfl) ?_
    exact D_loop (by kernel_rfl) k (f_law20_PlanCounts.l4_ok hV k k p1 p2 0 p4 p5 H)
noncomputable def f_law20_PlanCounts.b2 (L2 : List T814c.T → Int → Int → Int → Tb104.T → Option f_law20_PlanCounts.R) (k : Nat) (p1 : List T814c.T) (p2 : Int) (p3 : Int) (p4 : Int) (p5 : Tb104.T) : Option f_law20_PlanCounts.R :=
  if (decide (p4 < (p1.length : Int))) = true then
  if 0 ≤ p4 then
    if p4 < (p1.length : Int) then
      L2 p1 p2 (IntKind.i64.wrap (p3 + (((att T814c p1 p4).2).length : Int))) (IntKind.i64.wrap (p4 + 1)) p5
    else none
  else none
else
  (f_plan_Sync.f k p1 p2).bind fun y10 =>
    (f_plan_Push.f k p5 y10.1).bind fun y12 =>
      if ((y10.1.length : Int) != p3) = true then
        f_law20_PlanCounts.j3 k p3 y10.1 true p5 y12.1
      else
        if ((y12.1.2.2.length : Int) != (IntKind.i64.wrap ((p5.2.2.length : Int) + p3))) = true then
          f_law20_PlanCounts.j3 k p3 y10.1 true p5 y12.1
        else
          f_law20_PlanCounts.j3 k p3 y10.1 (y12.1.2.1 != (IntKind.i64.wrap (p5.2.1 + p3))) p5 y12.1
theorem f_law20_PlanCounts.b2_ok (hV : EnvOk P f_law20_PlanCounts.V) {r : f_law20_PlanCounts.R} (L2 : List T814c.T → Int → Int → Int → Tb104.T → Option f_law20_PlanCounts.R) (m2 : Nat) (hL2 : ∀ (p1 : List T814c.T) (p2 : Int) (p3 : Int) (p4 : Int) (p5 : Tb104.T), L2 p1 p2 p3 p4 p5 = some r → WL P 0 (Code.l (Code.l (Code.r (Code.l (Code.r (Code.r (Code.r (Code.r (Code.r f_law20_PlanCounts.c0))))))))) (blockW 0 (thenW P 0 (Code.r (Code.r (Code.r (Code.r (Code.r (Code.r f_law20_PlanCounts.c0)))))) (f_law20_PlanCounts.Q r))) m2 (f_law20_PlanCounts.s2 p1 p2 p3 p4 p5)) (k : Nat) (p1 : List T814c.T) (p2 : Int) (p3 : Int) (p4 : Int) (p5 : Tb104.T) (H : f_law20_PlanCounts.b2 L2 k p1 p2 p3 p4 p5 = some r) : W P 0 (Code.l (Code.l (Code.r (Code.l (Code.r (Code.r (Code.r (Code.r (Code.r f_law20_PlanCounts.c0))))))))) (f_law20_PlanCounts.s2 p1 p2 p3 p4 p5) (roundW P 0 (Code.l (Code.l (Code.r (Code.l (Code.r (Code.r (Code.r (Code.r (Code.r f_law20_PlanCounts.c0))))))))) (blockW 0 (thenW P 0 (Code.r (Code.r (Code.r (Code.r (Code.r (Code.r f_law20_PlanCounts.c0)))))) (f_law20_PlanCounts.Q r))) m2) := by
  unfold f_law20_PlanCounts.b2 at H
  refine D_seq (by kernel_rfl) ?_
  refine D_seq (by kernel_rfl) ?_
  refine D_reg (cs := []) (τ := ⟨133, [(0, .cv (.one (.sl T814c p1 .any))), (1, .cv (.one (.int .i64 p2))), (5, .cv (.one (.ptr 0 0))), (9, .cv (.one (.int .i64 p3))), (10, .cv (.one (.int .i64 p4))), (44, .cv (.one (.bool (decide (p4 < (p1.length : Int))))))], [(.box 3, [.int .i64 p5.1, .int .i64 p5.2.1, .sl T4414 p5.2.2 .any])]⟩) hV 0 [] {live := [0, 1, 5, 9, 10, 44], src := [some 0]} (by kernel_rfl) (by kernel_rfl) trivial ?_
  refine th_n ?_
  refine D_condB (t := 44) (b := (decide (p4 < (p1.length : Int)))) (by kernel_rfl) (by kernel_rfl) (fun hb7 => ?_) (fun hb7 => ?_)
  · rw [if_pos hb7] at H
    refine D_skip (by kernel_rfl) ?_
    refine th_n ?_
    refine D_seq (by kernel_rfl) ?_
    refine D_block (id := 1) (by kernel_rfl) ?_
    obtain ⟨n8, H⟩ := of_if H
    obtain ⟨n9, H⟩ := of_if H
    refine D_reg (cs := [0 ≤ p4, p4 < (p1.length : Int)]) (τ := ⟨133, [(0, .cv (.one (.sl T814c p1 .any))), (1, .cv (.one (.int .i64 p2))), (5, .cv (.one (.ptr 0 0))), (9, .cv (.one (.int .i64 (IntKind.i64.wrap (p3 + (((att T814c p1 p4).2).length : Int)))))), (10, .cv (.one (.int .i64 p4)))], [(.box 3, [.int .i64 p5.1, .int .i64 p5.2.1, .sl T4414 p5.2.2 .any])]⟩) hV 0 [] {live := [0, 1, 5, 9, 10], src := [some 0]} (by kernel_rfl) (by kernel_rfl) ⟨n8, n9, trivial⟩ ?_
    refine bl_n ?_
    refine th_n ?_
    refine D_reg (cs := []) (τ := ⟨133, [(0, .cv (.one (.sl T814c p1 .any))), (1, .cv (.one (.int .i64 p2))), (5, .cv (.one (.ptr 0 0))), (9, .cv (.one (.int .i64 (IntKind.i64.wrap (p3 + (((att T814c p1 p4).2).length : Int)))))), (10, .cv (.one (.int .i64 (IntKind.i64.wrap (p4 + 1)))))], [(.box 3, [.int .i64 p5.1, .int .i64 p5.2.1, .sl T4414 p5.2.2 .any])]⟩) hV 0 [] {live := [0, 1, 5, 9, 10], src := [some 0]} (by kernel_rfl) (by kernel_rfl) trivial ?_
    refine ro_n (WL_tell (τ := f_law20_PlanCounts.s2 p1 p2 (IntKind.i64.wrap (p3 + (((att T814c p1 p4).2).length : Int))) (IntKind.i64.wrap (p4 + 1)) p5) {fz := [], gr := 0, ad := [], live := [0, 1, 5, 9, 10], src := [some 0]} (by kernel_rfl) (by kernel_rfl) ?_)
    exact hL2 p1 p2 (IntKind.i64.wrap (p3 + (((att T814c p1 p4).2).length : Int))) (IntKind.i64.wrap (p4 + 1)) p5 H
  · rw [if_neg (by rw [hb7]; decide)] at H
    refine D_exit (id := 0) (by kernel_rfl) ?_
    refine th_x ?_
    refine ro_x ?_
    refine bl_h ?_
    refine th_n ?_
    refine D_seq (by kernel_rfl) ?_
    obtain ⟨y10, e11, H⟩ := of_bind H
    refine D_reg (cs := [f_plan_Sync.S.rel (p1, p2, ()) y10]) (τ := ⟨133, [(5, .cv (.one (.ptr 0 0))), (9, .cv (.one (.int .i64 p3))), (11, .cv (.one (.sl T4414 y10.1 .any)))], [(.box 3, [.int .i64 p5.1, .int .i64 p5.2.1, .sl T4414 p5.2.2 .any])]⟩) hV 0 [(2, {res := some ⟨f_plan_Sync.S.rs, y10⟩})] {live := [5, 9, 11], src := [some 0]} (by kernel_rfl) (by kernel_rfl) ⟨⟨k, e11⟩, trivial⟩ ?_
    refine th_n ?_
    refine D_seq (by kernel_rfl) ?_
    obtain ⟨y12, e13, H⟩ := of_bind H
    refine D_reg (cs := [f_plan_Push.S.rel (p5, y10.1, ()) y12]) (τ := ⟨133, [(5, .cv (.one (.ptr 0 0))), (9, .cv (.one (.int .i64 p3))), (11, .cv (.one (.sl T4414 y10.1 .any))), (12, .cv (.one (.ptr 1 0)))], [(.box 3, [.int .i64 p5.1, .int .i64 p5.2.1, .sl T4414 p5.2.2 .any]), (.box 3, [.int .i64 y12.1.1, .int .i64 y12.1.2.1, .sl T4414 y12.1.2.2 .any])]⟩) hV 1 [(2, {res := some ⟨f_plan_Push.S.rs, y12⟩}), (3, {sb := 1})] {live := [5, 9, 11, 12], src := [some 0, some 1]} (by kernel_rfl) (by kernel_rfl) ⟨⟨k, e13⟩, trivial⟩ ?_
    refine th_n ?_
    refine D_seq (by kernel_rfl) ?_
    refine D_seq (by kernel_rfl) ?_
    rcases of_ite H with ⟨hb14, H⟩ | ⟨hb14, H⟩
    · refine D_reg (cs := [(((y10.1.length : Int) != p3)) = true]) (τ := ⟨133, [(5, .cv (.one (.ptr 0 0))), (9, .cv (.one (.int .i64 p3))), (11, .cv (.one (.sl T4414 y10.1 .any))), (12, .cv (.one (.ptr 1 0))), (84, .cv (.one (.bool true)))], [(.box 3, [.int .i64 p5.1, .int .i64 p5.2.1, .sl T4414 p5.2.2 .any]), (.box 3, [.int .i64 y12.1.1, .int .i64 y12.1.2.1, .sl T4414 y12.1.2.2 .any])]⟩) hV 0 [(3, {bv := some true})] {live := [5, 9, 11, 12, 84], src := [some 0, some 1]} (by kernel_rfl) (by kernel_rfl) ⟨hb14, trivial⟩ ?_
      refine th_n ?_
      refine W_tell (τ := f_law20_PlanCounts.s3 p3 y10.1 true p5 y12.1) {fz := [], gr := 0, ad := [], live := [5, 9, 11, 12, 84], src := [some 0, some 1]} (by kernel_rfl) (by kernel_rfl) ?_
      exact f_law20_PlanCounts.j3_ok hV k p3 y10.1 true p5 y12.1 H
    · rcases of_ite H with ⟨hb25, H⟩ | ⟨hb25, H⟩
      · refine D_reg (cs := [(((y10.1.length : Int) != p3)) = false, (((y12.1.2.2.length : Int) != (IntKind.i64.wrap ((p5.2.2.length : Int) + p3)))) = true]) (τ := ⟨133, [(5, .cv (.one (.ptr 0 0))), (9, .cv (.one (.int .i64 p3))), (11, .cv (.one (.sl T4414 y10.1 .any))), (12, .cv (.one (.ptr 1 0))), (84, .cv (.one (.bool true)))], [(.box 3, [.int .i64 p5.1, .int .i64 p5.2.1, .sl T4414 p5.2.2 .any]), (.box 3, [.int .i64 y12.1.1, .int .i64 y12.1.2.1, .sl T4414 y12.1.2.2 .any])]⟩) hV 0 [(3, {bv := some false}), (14, {bv := some true})] {live := [5, 9, 11, 12, 84], src := [some 0, some 1]} (by kernel_rfl) (by kernel_rfl) ⟨hb14, hb25, trivial⟩ ?_
        refine th_n ?_
        refine W_tell (τ := f_law20_PlanCounts.s3 p3 y10.1 true p5 y12.1) {fz := [], gr := 0, ad := [], live := [5, 9, 11, 12, 84], src := [some 0, some 1]} (by kernel_rfl) (by kernel_rfl) ?_
        exact f_law20_PlanCounts.j3_ok hV k p3 y10.1 true p5 y12.1 H
      · refine D_reg (cs := [(((y10.1.length : Int) != p3)) = false, (((y12.1.2.2.length : Int) != (IntKind.i64.wrap ((p5.2.2.length : Int) + p3)))) = false]) (τ := ⟨133, [(5, .cv (.one (.ptr 0 0))), (9, .cv (.one (.int .i64 p3))), (11, .cv (.one (.sl T4414 y10.1 .any))), (12, .cv (.one (.ptr 1 0))), (84, .cv (.one (.bool (y12.1.2.1 != (IntKind.i64.wrap (p5.2.1 + p3))))))], [(.box 3, [.int .i64 p5.1, .int .i64 p5.2.1, .sl T4414 p5.2.2 .any]), (.box 3, [.int .i64 y12.1.1, .int .i64 y12.1.2.1, .sl T4414 y12.1.2.2 .any])]⟩) hV 0 [(3, {bv := some false}), (14, {bv := some false})] {live := [5, 9, 11, 12, 84], src := [some 0, some 1]} (by kernel_rfl) (by kernel_rfl) ⟨hb14, hb25, trivial⟩ ?_
        refine th_n ?_
        refine W_tell (τ := f_law20_PlanCounts.s3 p3 y10.1 (y12.1.2.1 != (IntKind.i64.wrap (p5.2.1 + p3))) p5 y12.1) {fz := [], gr := 0, ad := [], live := [5, 9, 11, 12, 84], src := [some 0, some 1]} (by kernel_rfl) (by kernel_rfl) ?_
        exact f_law20_PlanCounts.j3_ok hV k p3 y10.1 (y12.1.2.1 != (IntKind.i64.wrap (p5.2.1 + p3))) p5 y12.1 H
noncomputable def f_law20_PlanCounts.l2 (k : Nat) : Nat → List T814c.T → Int → Int → Int → Tb104.T → Option f_law20_PlanCounts.R
  | 0, _, _, _, _, _ => none
  | m + 1, p1, p2, p3, p4, p5 => f_law20_PlanCounts.b2 (f_law20_PlanCounts.l2 k m) k p1 p2 p3 p4 p5
theorem f_law20_PlanCounts.l2_ok (hV : EnvOk P f_law20_PlanCounts.V) {r : f_law20_PlanCounts.R} (k : Nat) : ∀ (m2 : Nat) (p1 : List T814c.T) (p2 : Int) (p3 : Int) (p4 : Int) (p5 : Tb104.T), f_law20_PlanCounts.l2 k m2 p1 p2 p3 p4 p5 = some r → WL P 0 (Code.l (Code.l (Code.r (Code.l (Code.r (Code.r (Code.r (Code.r (Code.r f_law20_PlanCounts.c0))))))))) (blockW 0 (thenW P 0 (Code.r (Code.r (Code.r (Code.r (Code.r (Code.r f_law20_PlanCounts.c0)))))) (f_law20_PlanCounts.Q r))) m2 (f_law20_PlanCounts.s2 p1 p2 p3 p4 p5)
  | 0, _, _, _, _, _, H => by cases H
  | m2 + 1, p1, p2, p3, p4, p5, H => WL_succ (f_law20_PlanCounts.b2_ok hV (f_law20_PlanCounts.l2 k m2) m2 (fun p1 p2 p3 p4 p5 H => f_law20_PlanCounts.l2_ok hV k m2 p1 p2 p3 p4 p5 H) k p1 p2 p3 p4 p5 H)
noncomputable def f_law20_PlanCounts.j1 (k : Nat) (p1 : List T814c.T) (p2 : Int) (p3 : Bool) (p4 : Bool) (p5 : Tb104.T) : Option f_law20_PlanCounts.R :=
  if p4 = true then
  some (p3, ())
else
  f_law20_PlanCounts.l2 k k p1 p2 2 0 p5
theorem f_law20_PlanCounts.j1_ok (hV : EnvOk P f_law20_PlanCounts.V) {r : f_law20_PlanCounts.R} (k : Nat) (p1 : List T814c.T) (p2 : Int) (p3 : Bool) (p4 : Bool) (p5 : Tb104.T) (H : f_law20_PlanCounts.j1 k p1 p2 p3 p4 p5 = some r) : W P 0 (Code.r (Code.l (Code.r (Code.r (Code.r f_law20_PlanCounts.c0))))) (f_law20_PlanCounts.s1 p1 p2 p3 p4 p5) (thenW P 0 (Code.r (Code.r (Code.r (Code.r f_law20_PlanCounts.c0)))) (f_law20_PlanCounts.Q r)) := by
  unfold f_law20_PlanCounts.j1 at H
  refine D_condB (t := 39) (b := p4) (by kernel_rfl) (by kernel_rfl) (fun hb6 => ?_) (fun hb6 => ?_)
  · rw [if_pos hb6] at H
    refine D_seq (by kernel_rfl) ?_
    refine D_reg (cs := []) (τ := ⟨133, [(6, .cv (.one (.bool p3)))], []⟩) hV 0 [] {live := [6], src := []} (by kernel_rfl) (by kernel_rfl) trivial ?_
    refine th_n ?_
    refine D_ret (by kernel_rfl) ?_
    refine th_r ?_
    exact lf_r (Eq.trans (by kernel_rfl) H)
  · rw [if_neg (by rw [hb6]; decide)] at H
    refine D_skip (by kernel_rfl) ?_
    refine th_n ?_
    refine D_seq (by kernel_rfl) ?_
    refine D_reg (cs := []) (τ := ⟨133, [(0, .cv (.one (.sl T814c p1 .any))), (1, .cv (.one (.int .i64 p2))), (5, .cv (.one (.ptr 0 0))), (9, .cv (.one (.int .i64 2)))], [(.box 3, [.int .i64 p5.1, .int .i64 p5.2.1, .sl T4414 p5.2.2 .any])]⟩) hV 0 [] {live := [0, 1, 5, 9], src := [some 0]} (by kernel_rfl) (by kernel_rfl) trivial ?_
    refine th_n ?_
    refine D_seq (by kernel_rfl) ?_
    refine D_seq (by kernel_rfl) ?_
    refine D_reg (cs := []) (τ := ⟨133, [(0, .cv (.one (.sl T814c p1 .any))), (1, .cv (.one (.int .i64 p2))), (5, .cv (.one (.ptr 0 0))), (9, .cv (.one (.int .i64 2))), (10, .cv (.one (.int .i64 0)))], [(.box 3, [.int .i64 p5.1, .int .i64 p5.2.1, .sl T4414 p5.2.2 .any])]⟩) hV 0 [] {live := [0, 1, 5, 9, 10], src := [some 0]} (by kernel_rfl) (by kernel_rfl) trivial ?_
    refine th_n ?_
    refine D_block (id := 0) (by kernel_rfl) ?_
    refine W_tell (τ := f_law20_PlanCounts.s2 p1 p2 2 0 p5) {fz := [], gr := 0, ad := [], live := [0, 1, 5, 9, 10], src := [some 0]} (by kernel_rfl) (by kernel_rfl) ?_
    exact D_loop (by kernel_rfl) k (f_law20_PlanCounts.l2_ok hV k k p1 p2 2 0 p5 H)
noncomputable def f_law20_PlanCounts.f (k : Nat) (a1 : List T814c.T) (a2 : Int) (a3 : Tb104.T) : Option f_law20_PlanCounts.R :=
  (f_law20_awake.f k).bind fun y1 =>
    (f_law09_Few.f k a1).bind fun y3 =>
      if (!y1.1) = true then
        f_law20_PlanCounts.j1 k a1 a2 y1.1 true a3
      else
        if (!y3.1) = true then
          f_law20_PlanCounts.j1 k a1 a2 y1.1 true a3
        else
          if (decide ((a3.2.2.length : Int) > (200 : Int))) = true then
            f_law20_PlanCounts.j1 k a1 a2 y1.1 true a3
          else
            if (decide (a3.2.1 < (1 : Int))) = true then
              f_law20_PlanCounts.j1 k a1 a2 y1.1 true a3
            else
              f_law20_PlanCounts.j1 k a1 a2 y1.1 (decide (a3.2.1 > (1000 : Int))) a3
noncomputable def f_law20_PlanCounts.S : Spec := ⟨f_law20_PlanCounts.ps, f_law20_PlanCounts.rs, .any, none, fun x r => ∃ k, f_law20_PlanCounts.f k x.1 x.2.1 x.2.2.1 = some r⟩
theorem f_law20_PlanCounts.f_ok (hV : EnvOk P f_law20_PlanCounts.V) {r : f_law20_PlanCounts.R} (k : Nat) (a1 : List T814c.T) (a2 : Int) (a3 : Tb104.T) (H : f_law20_PlanCounts.f k a1 a2 a3 = some r) : W P 0 f_law20_PlanCounts.c0 (⟨133, [(0, .cv (.one (.sl T814c a1 .any))), (1, .cv (.one (.int .i64 a2))), (2, .cv (.agg [.int .i64 a3.1, .int .i64 a3.2.1, .sl T4414 a3.2.2 .any]))], []⟩) (f_law20_PlanCounts.Q r) := by
  unfold f_law20_PlanCounts.f at H
  refine D_seq (by kernel_rfl) ?_
  refine D_reg (cs := []) (τ := ⟨133, [(0, .cv (.one (.sl T814c a1 .any))), (1, .cv (.one (.int .i64 a2))), (5, .cv (.one (.ptr 0 0)))], [(.box 3, [.int .i64 a3.1, .int .i64 a3.2.1, .sl T4414 a3.2.2 .any])]⟩) hV 1 [(0, {sb := 0})] {live := [0, 1, 5], src := [some 0]} (by kernel_rfl) (by kernel_rfl) trivial ?_
  refine th_n ?_
  refine D_seq (by kernel_rfl) ?_
  obtain ⟨y1, e2, H⟩ := of_bind H
  refine D_reg (cs := [f_law20_awake.S.rel (()) y1]) (τ := ⟨133, [(0, .cv (.one (.sl T814c a1 .any))), (1, .cv (.one (.int .i64 a2))), (5, .cv (.one (.ptr 0 0))), (7, .cv (.one (.bool y1.1)))], [(.box 3, [.int .i64 a3.1, .int .i64 a3.2.1, .sl T4414 a3.2.2 .any])]⟩) hV 0 [(0, {res := some ⟨f_law20_awake.S.rs, y1⟩})] {live := [0, 1, 5, 7], src := [some 0]} (by kernel_rfl) (by kernel_rfl) ⟨⟨k, e2⟩, trivial⟩ ?_
  refine th_n ?_
  refine D_seq (by kernel_rfl) ?_
  obtain ⟨y3, e4, H⟩ := of_bind H
  refine D_reg (cs := [f_law09_Few.S.rel (a1, ()) y3]) (τ := ⟨133, [(0, .cv (.one (.sl T814c a1 .any))), (1, .cv (.one (.int .i64 a2))), (5, .cv (.one (.ptr 0 0))), (7, .cv (.one (.bool y1.1))), (8, .cv (.one (.bool y3.1)))], [(.box 3, [.int .i64 a3.1, .int .i64 a3.2.1, .sl T4414 a3.2.2 .any])]⟩) hV 0 [(1, {res := some ⟨f_law09_Few.S.rs, y3⟩})] {live := [0, 1, 5, 7, 8], src := [some 0]} (by kernel_rfl) (by kernel_rfl) ⟨⟨k, e4⟩, trivial⟩ ?_
  refine th_n ?_
  refine D_seq (by kernel_rfl) ?_
  refine D_seq (by kernel_rfl) ?_
  rcases of_ite H with ⟨hb5, H⟩ | ⟨hb5, H⟩
  · refine D_reg (cs := [((!y1.1)) = true]) (τ := ⟨133, [(0, .cv (.one (.sl T814c a1 .any))), (1, .cv (.one (.int .i64 a2))), (5, .cv (.one (.ptr 0 0))), (7, .cv (.one (.bool y1.1))), (39, .cv (.one (.bool true)))], [(.box 3, [.int .i64 a3.1, .int .i64 a3.2.1, .sl T4414 a3.2.2 .any])]⟩) hV 0 [(1, {bv := some true})] {live := [0, 1, 5, 7, 39], src := [some 0]} (by kernel_rfl) (by kernel_rfl) ⟨hb5, trivial⟩ ?_
    refine th_n ?_
    refine W_tell (τ := f_law20_PlanCounts.s1 a1 a2 y1.1 true a3) {fz := [], gr := 0, ad := [], live := [0, 1, 5, 7, 39], src := [some 0]} (by kernel_rfl) (by kernel_rfl) ?_
    exact f_law20_PlanCounts.j1_ok hV k a1 a2 y1.1 true a3 H
  · rcases of_ite H with ⟨hb26, H⟩ | ⟨hb26, H⟩
    · refine D_reg (cs := [((!y1.1)) = false, ((!y3.1)) = true]) (τ := ⟨133, [(0, .cv (.one (.sl T814c a1 .any))), (1, .cv (.one (.int .i64 a2))), (5, .cv (.one (.ptr 0 0))), (7, .cv (.one (.bool y1.1))), (39, .cv (.one (.bool true)))], [(.box 3, [.int .i64 a3.1, .int .i64 a3.2.1, .sl T4414 a3.2.2 .any])]⟩) hV 0 [(1, {bv := some false}), (5, {bv := some true})] {live := [0, 1, 5, 7, 39], src := [some 0]} (by kernel_rfl) (by kernel_rfl) ⟨hb5, hb26, trivial⟩ ?_
      refine th_n ?_
      refine W_tell (τ := f_law20_PlanCounts.s1 a1 a2 y1.1 true a3) {fz := [], gr := 0, ad := [], live := [0, 1, 5, 7, 39], src := [some 0]} (by kernel_rfl) (by kernel_rfl) ?_
      exact f_law20_PlanCounts.j1_ok hV k a1 a2 y1.1 true a3 H
    · rcases of_ite H with ⟨hb27, H⟩ | ⟨hb27, H⟩
      · refine D_reg (cs := [((!y1.1)) = false, ((!y3.1)) = false, ((decide ((a3.2.2.length : Int) > (200 : Int)))) = true]) (τ := ⟨133, [(0, .cv (.one (.sl T814c a1 .any))), (1, .cv (.one (.int .i64 a2))), (5, .cv (.one (.ptr 0 0))), (7, .cv (.one (.bool y1.1))), (39, .cv (.one (.bool true)))], [(.box 3, [.int .i64 a3.1, .int .i64 a3.2.1, .sl T4414 a3.2.2 .any])]⟩) hV 0 [(1, {bv := some false}), (5, {bv := some false}), (11, {bv := some true})] {live := [0, 1, 5, 7, 39], src := [some 0]} (by kernel_rfl) (by kernel_rfl) ⟨hb5, hb26, hb27, trivial⟩ ?_
        refine th_n ?_
        refine W_tell (τ := f_law20_PlanCounts.s1 a1 a2 y1.1 true a3) {fz := [], gr := 0, ad := [], live := [0, 1, 5, 7, 39], src := [some 0]} (by kernel_rfl) (by kernel_rfl) ?_
        exact f_law20_PlanCounts.j1_ok hV k a1 a2 y1.1 true a3 H
      · rcases of_ite H with ⟨hb28, H⟩ | ⟨hb28, H⟩
        · refine D_reg (cs := [((!y1.1)) = false, ((!y3.1)) = false, ((decide ((a3.2.2.length : Int) > (200 : Int)))) = false, ((decide (a3.2.1 < (1 : Int)))) = true]) (τ := ⟨133, [(0, .cv (.one (.sl T814c a1 .any))), (1, .cv (.one (.int .i64 a2))), (5, .cv (.one (.ptr 0 0))), (7, .cv (.one (.bool y1.1))), (39, .cv (.one (.bool true)))], [(.box 3, [.int .i64 a3.1, .int .i64 a3.2.1, .sl T4414 a3.2.2 .any])]⟩) hV 0 [(1, {bv := some false}), (5, {bv := some false}), (11, {bv := some false}), (16, {bv := some true})] {live := [0, 1, 5, 7, 39], src := [some 0]} (by kernel_rfl) (by kernel_rfl) ⟨hb5, hb26, hb27, hb28, trivial⟩ ?_
          refine th_n ?_
          refine W_tell (τ := f_law20_PlanCounts.s1 a1 a2 y1.1 true a3) {fz := [], gr := 0, ad := [], live := [0, 1, 5, 7, 39], src := [some 0]} (by kernel_rfl) (by kernel_rfl) ?_
          exact f_law20_PlanCounts.j1_ok hV k a1 a2 y1.1 true a3 H
        · refine D_reg (cs := [((!y1.1)) = false, ((!y3.1)) = false, ((decide ((a3.2.2.length : Int) > (200 : Int)))) = false, ((decide (a3.2.1 < (1 : Int)))) = false]) (τ := ⟨133, [(0, .cv (.one (.sl T814c a1 .any))), (1, .cv (.one (.int .i64 a2))), (5, .cv (.one (.ptr 0 0))), (7, .cv (.one (.bool y1.1))), (39, .cv (.one (.bool (decide (a3.2.1 > (1000 : Int))))))], [(.box 3, [.int .i64 a3.1, .int .i64 a3.2.1, .sl T4414 a3.2.2 .any])]⟩) hV 0 [(1, {bv := some false}), (5, {bv := some false}), (11, {bv := some false}), (16, {bv := some false})] {live := [0, 1, 5, 7, 39], src := [some 0]} (by kernel_rfl) (by kernel_rfl) ⟨hb5, hb26, hb27, hb28, trivial⟩ ?_
          refine th_n ?_
          refine W_tell (τ := f_law20_PlanCounts.s1 a1 a2 y1.1 (decide (a3.2.1 > (1000 : Int))) a3) {fz := [], gr := 0, ad := [], live := [0, 1, 5, 7, 39], src := [some 0]} (by kernel_rfl) (by kernel_rfl) ?_
          exact f_law20_PlanCounts.j1_ok hV k a1 a2 y1.1 (decide (a3.2.1 > (1000 : Int))) a3 H
theorem f_law20_PlanCounts.V_ok : EnvOk P f_law20_PlanCounts.V := { ck := tt_ck, fits := slk_cons f_law20_awake.fits (slk_cons f_law09_Few.fits (slk_cons f_plan_Sync.fits (slk_cons f_plan_Push.fits (slk_nil)))), mixed := mixed }
theorem f_law20_PlanCounts.fits : Fits P 4 f_law20_PlanCounts.S := fits_of f_law20_PlanCounts.V_ok Go.Proofs.Try.func4 (by kernel_rfl) (by decide) (by decide) rfl (fun x r ⟨k, H⟩ => f_law20_PlanCounts.f_ok f_law20_PlanCounts.V_ok k x.1 x.2.1 x.2.2.1 H)
end Go.Proofs.Ytkobhleoebgbhaa.V
