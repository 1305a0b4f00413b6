/- Functions of the program, as Lean functions, and that the code answers so. Printed by vgen.py. -/
import Derived.Test.YtkhjemahenkdiaaDoorVF2
namespace Go.Proofs.YtkhjemahenkdiaaDoor.V
open Go Go.RowKit
set_option linter.unusedVariables false
set_option linter.unusedSimpArgs false
set_option maxRecDepth 100000
set_option maxHeartbeats 4000000
namespace i_control_controller_tell_863
noncomputable def c0 : Code := (Go.Proofs.Tryd.f75.body).getD .skip
noncomputable def V : Env := { tt := tt, Γ := slk [(67, f_plan_Push.S)] }
theorem V_ok : EnvOk P V := { ck := tt_ck, fits := slk_cons f_plan_Push.fits (slk_nil), mixed := mixed }
abbrev R := (List T23b6.T) × Unit
noncomputable def s0 (x1 : T26b3.T) (x2 x3 x4 x5 x6 x7 x8 x9 x10 x11 x12 x13 x14 x15 : Int) (x16 : List (List (List T1383.T))) (x17 : List Int) (x18 : List T23b6.T) (x19 : List T713d.T) (x20 x21 : List Int) (x22 x23 : Int) : St := ⟨36, [(0, .cv (.one (.ptr 3 0))), (1, .cv (.one (.fn 99 [] [(10, 0), (11, 0)])))], [(.box 13, (encC .any T26b3 x1)), (.box 13, [.nils, .i x2, .i x3, .i x4, .i x5, .i x6, .i x7, .nils, .nils, .nils, .nils, .nils, .i x8]), (.box 6, [.fn 35 [] [], .fn 36 [] [], .fn 37 [] [], .fn 38 [] [], .fn 39 [] [], .fn 39 [] []]), (.box 13, [.own 4, .i x9, .i x10, .i x11, .i x12, .i x13, .i x14, .own 5, .own 6, .own 7, .own 8, .own 9, .i x15]), (.buf 64 (.slice (.slice T1383)) x16, []), (.buf 3 (.int .i64) x17, []), (.buf 50 T23b6 x18, []), (.buf 95 T713d x19, []), (.buf 3 (.int .i64) x20, []), (.buf 3 (.int .i64) x21, []), (.box 1, [.i x22]), (.box 1, [.i x23])]⟩
noncomputable def out (x1 : T26b3.T) (x2 x3 x4 x5 x6 x7 x8 x9 x10 x11 x12 x13 x14 x15 : Int) (x16 : List (List (List T1383.T))) (x17 : List Int) (x19 : List T713d.T) (x20 x21 : List Int) (x22 x23 : Int) (r : R) : St := ⟨36, [], [(.box 13, (encC .any T26b3 x1)), (.box 13, [.nils, .i x2, .i x3, .i x4, .i x5, .i x6, .i x7, .nils, .nils, .nils, .nils, .nils, .i x8]), (.box 6, [.fn 35 [] [], .fn 36 [] [], .fn 37 [] [], .fn 38 [] [], .fn 39 [] [], .fn 39 [] []]), (.box 13, [.own 4, .i x9, .i x10, .i x11, .i x12, .i x13, .i x14, .own 5, .own 6, .own 7, .own 8, .own 9, .i x15]), (.buf 64 (.slice (.slice T1383)) x16, []), (.buf 3 (.int .i64) x17, []), (.buf 50 T23b6 r.1, []), (.buf 95 T713d x19, []), (.buf 3 (.int .i64) x20, []), (.buf 3 (.int .i64) x21, []), (.box 1, [.i x22]), (.box 1, [.i x23])]⟩
abbrev Q (x1 : T26b3.T) (x2 x3 x4 x5 x6 x7 x8 x9 x10 x11 x12 x13 x14 x15 : Int) (x16 : List (List (List T1383.T))) (x17 : List Int) (x19 : List T713d.T) (x20 x21 : List Int) (x22 x23 : Int) (r : R) := CallQ 12 (out x1 x2 x3 x4 x5 x6 x7 x8 x9 x10 x11 x12 x13 x14 x15 x16 x17 x19 x20 x21 x22 x23 r)
noncomputable def s1 (x1 : T26b3.T) (x2 x3 x4 x5 x6 x7 x8 x9 x10 x11 x12 x13 x14 x15 : Int) (x16 : List (List (List T1383.T))) (x17 : List Int) (x19 : List T713d.T) (x20 x21 : List Int) (x22 x23 p1 p2 : Int) (p20 : List T23b6.T) : St := ⟨36, [(0, .cv (.one (.ptr 3 0))), (1, .cv (.one (.fn 99 [] [(10, 0), (11, 0)]))), (10, .cv (.one (.i p1))), (11, .cv (.one (.i p2)))], [(.box 13, (encC .any T26b3 x1)), (.box 13, [.nils, .i x2, .i x3, .i x4, .i x5, .i x6, .i x7, .nils, .nils, .nils, .nils, .nils, .i x8]), (.box 6, [.fn 35 [] [], .fn 36 [] [], .fn 37 [] [], .fn 38 [] [], .fn 39 [] [], .fn 39 [] []]), (.box 13, [.own 4, .i x9, .i x10, .i x11, .i x12, .i x13, .i x14, .own 5, .own 6, .own 7, .own 8, .own 9, .i x15]), (.buf 64 (.slice (.slice T1383)) x16, []), (.buf 3 (.int .i64) x17, []), (.buf 50 T23b6 p20, []), (.buf 95 T713d x19, []), (.buf 3 (.int .i64) x20, []), (.buf 3 (.int .i64) x21, []), (.box 1, [.i x22]), (.box 1, [.i x23])]⟩
noncomputable def b1 (x1 : T26b3.T) (x2 x3 x4 x5 x6 x7 x8 x9 x10 x11 x12 x13 x14 x15 : Int) (x16 : List (List (List T1383.T))) (x17 : List Int) (x19 : List T713d.T) (x20 x21 : List Int) (x22 x23 : Int) (L1 : Int → Int → List T23b6.T → Option R) (k : Nat) (p1 p2 : Int) (p20 : List T23b6.T) : Option R :=
  if (decide (p2 < p1)) = true then
  if 0 ≤ p2 then
    if p2 < (p20.length : Int) then
      (i_control_all_1_252.f k p2 x1 x2 x3 x4 x5 x6 x7 x8 x9 x10 x11 x12 x13 x14 x15 x16 x17 p20 x19 x20 x21 x22 x23).bind fun y4 =>
        (f_plan_Push.f k (((att T23b6 p20 p2).2).2) y4.1).bind fun y6 =>
            L1 p1 (IntKind.i64.wrap (p2 + 1)) (p20.set p2.toNat ((att T23b6 p20 p2).1, (((att T23b6 p20 p2).2).1, y6.1)))
    else none
  else none
else
  some (p20, ())
theorem b1_ok {r x1 x2 x3 x4 x5 x6 x7 x8 x9 x10 x11 x12 x13 x14 x15 x16 x17 x19 x20 x21 x22 x23} {L1 : Int → Int → List T23b6.T → Option R} {m1 : Nat} (hL1 : ∀ p1 p2 p20, L1 p1 p2 p20 = some r → Gw P 12 (Q x1 x2 x3 x4 x5 x6 x7 x8 x9 x10 x11 x12 x13 x14 x15 x16 x17 x19 x20 x21 x22 x23 r) (Pb c0 5 [] m1) (s1 x1 x2 x3 x4 x5 x6 x7 x8 x9 x10 x11 x12 x13 x14 x15 x16 x17 x19 x20 x21 x22 x23 p1 p2 p20)) {k p1 p2 p20} (H : b1 x1 x2 x3 x4 x5 x6 x7 x8 x9 x10 x11 x12 x13 x14 x15 x16 x17 x19 x20 x21 x22 x23 L1 k p1 p2 p20 = some r) : Gw P 12 (Q x1 x2 x3 x4 x5 x6 x7 x8 x9 x10 x11 x12 x13 x14 x15 x16 x17 x19 x20 x21 x22 x23 r) (Px c0 9 [m1]) (s1 x1 x2 x3 x4 x5 x6 x7 x8 x9 x10 x11 x12 x13 x14 x15 x16 x17 x19 x20 x21 x22 x23 p1 p2 p20) := by
  unfold b1 at H
  refine Rg V_ok 0 [] az ?_
  rcases of_ite H with ⟨hb1, H⟩ | ⟨hb1, H⟩
  · refine C1 hb1 ?_
    refine Rg V_ok 0 [] az ?_
    obtain ⟨n2, H⟩ := of_if H
    obtain ⟨n3, H⟩ := of_if H
    obtain ⟨y4, e5, H⟩ := of_bind H
    obtain ⟨y6, e7, H⟩ := of_bind H
    let x : Nx := (Px c0 409 [m1])
    let t0 : St := ⟨36, [(0, .cv (.one (.ptr 3 0))), (1, .cv (.one (.fn 99 [] [(10, 0), (11, 0)]))), (4, .cv (.one (.i p2))), (10, .cv (.one (.i p1))), (11, .cv (.one (.i p2)))], [(.box 13, (encC .any T26b3 x1)), (.box 13, [.nils, .i x2, .i x3, .i x4, .i x5, .i x6, .i x7, .nils, .nils, .nils, .nils, .nils, .i x8]), (.box 6, [.fn 35 [] [], .fn 36 [] [], .fn 37 [] [], .fn 38 [] [], .fn 39 [] [], .fn 39 [] []]), (.box 13, [.own 4, .i x9, .i x10, .i x11, .i x12, .i x13, .i x14, .own 5, .own 6, .own 7, .own 8, .own 9, .i x15]), (.buf 64 (.slice (.slice T1383)) x16, []), (.buf 3 (.int .i64) x17, []), (.buf 50 T23b6 p20, []), (.buf 95 T713d x19, []), (.buf 3 (.int .i64) x20, []), (.buf 3 (.int .i64) x21, []), (.box 1, [.i x22]), (.box 1, [.i x23])]⟩
    refine Jm (x' := x) (τ := t0) (tn [0, 1, 4, 10, 11] 12) ?_
    let Φ := phiX P 12 (Q x1 x2 x3 x4 x5 x6 x7 x8 x9 x10 x11 x12 x13 x14 x15 x16 x17 x19 x20 x21 x22 x23 r) x
    let t1 : St := stpS V x 0 [] 0 (tn [0, 1, 4, 10, 11, 14] 12) t0
    let t2 : St := stpS V x 0 [] 1 (tn [0, 1, 4, 10, 11, 15] 12) t1
    let t3 : St := stpS V x 0 [] 2 (tn [0, 1, 4, 10, 11, 16] 12) t2
    let t4 : St := stpS V x 0 [] 3 (tn [0, 1, 4, 10, 11, 17] 12) t3
    let t5 : St := stpS V x 0 [] 5 (tn [0, 1, 4, 10, 11, 17, 19] 12) t4
    let t6 : St := stpS V x 0 [] 6 (tn [0, 1, 4, 10, 11, 17, 19, 20] 12) t5
    let t7 : St := stpS V x 0 [] 7 (tn [0, 1, 4, 10, 11, 17, 19, 21] 12) t6
    let t8 : St := stpS V x 0 [] 8 (tn [0, 1, 4, 10, 11, 17, 19, 22] 12) t7
    let t9 : St := stpS V x 0 [] 9 (tn [0, 1, 4, 10, 11, 17, 19, 23] 12) t8
    let t10 : St := stpS V x 0 [] 11 (tn [0, 1, 4, 10, 11, 17, 19, 23, 25] 12) t9
    let t11 : St := stpS V x 0 [] 15 (tn [0, 1, 4, 10, 11, 17, 19, 23, 25, 29] 12) t10
    let t12 : St := stpS V x 0 [] 16 (tn [0, 1, 10, 11, 17, 19, 23, 25, 29, 30] 12) t11
    let t13 : St := stpS V x 0 [] 4 (tn [0, 1, 10, 11, 18, 19, 23, 25, 29, 30] 12) t12
    let t14 : St := stpS V x 0 [] 10 (tn [0, 1, 10, 11, 17, 19, 24, 25, 29, 30] 12) t12
    let t15 : St := clT V.tt x 17 Go.Proofs.Tryd.f99.results (tn [0, 1, 10, 11, 17, 19, 23, 25, 31] 12) t12 (i_control_all_1_252.out x1 x2 x3 x4 x5 x6 x7 x8 x9 x10 x11 x12 x13 x14 x15 x16 x17 p20 x19 x20 x21 x22 x23 y4)
    let t16 : St := stpS V x 0 [] 10 (tn [0, 1, 10, 11, 18, 19, 24, 25, 29, 30] 12) t13
    let t17 : St := clT V.tt x 17 Go.Proofs.Tryd.f99.results (tn [0, 1, 10, 11, 18, 19, 23, 25, 31] 12) t13 (i_control_all_1_252.out x1 x2 x3 x4 x5 x6 x7 x8 x9 x10 x11 x12 x13 x14 x15 x16 x17 p20 x19 x20 x21 x22 x23 y4)
    let t18 : St := stpS V x 0 [] 12 (tn [0, 1, 10, 11, 17, 19, 26, 29, 30] 12) t14
    let t19 : St := clT V.tt x 17 Go.Proofs.Tryd.f99.results (tn [0, 1, 10, 11, 17, 19, 24, 25, 31] 12) t14 (i_control_all_1_252.out x1 x2 x3 x4 x5 x6 x7 x8 x9 x10 x11 x12 x13 x14 x15 x16 x17 p20 x19 x20 x21 x22 x23 y4)
    let t20 : St := stpS V x 0 [] 12 (tn [0, 1, 10, 11, 18, 19, 26, 29, 30] 12) t16
    let t21 : St := clT V.tt x 17 Go.Proofs.Tryd.f99.results (tn [0, 1, 10, 11, 18, 19, 24, 25, 31] 12) t16 (i_control_all_1_252.out x1 x2 x3 x4 x5 x6 x7 x8 x9 x10 x11 x12 x13 x14 x15 x16 x17 p20 x19 x20 x21 x22 x23 y4)
    let t22 : St := stpS V x 0 [] 13 (tn [0, 1, 10, 11, 17, 19, 27, 29, 30] 12) t18
    let t23 : St := stpS V x 0 [] 12 (tn [0, 1, 10, 11, 17, 19, 26, 31] 12) t19
    let t24 : St := stpS V x 0 [] 13 (tn [0, 1, 10, 11, 18, 19, 27, 29, 30] 12) t20
    let t25 : St := stpS V x 0 [] 12 (tn [0, 1, 10, 11, 18, 19, 26, 31] 12) t21
    let t26 : St := stpS V x 0 [] 14 (tn [0, 1, 10, 11, 17, 19, 28, 29, 30] 12) t22
    let t27 : St := clT V.tt x 17 Go.Proofs.Tryd.f99.results (tn [0, 1, 10, 11, 17, 19, 27, 31] 12) t22 (i_control_all_1_252.out x1 x2 x3 x4 x5 x6 x7 x8 x9 x10 x11 x12 x13 x14 x15 x16 x17 p20 x19 x20 x21 x22 x23 y4)
    let t28 : St := stpS V x 0 [] 14 (tn [0, 1, 10, 11, 18, 19, 28, 29, 30] 12) t24
    let t29 : St := clT V.tt x 17 Go.Proofs.Tryd.f99.results (tn [0, 1, 10, 11, 18, 19, 27, 31] 12) t24 (i_control_all_1_252.out x1 x2 x3 x4 x5 x6 x7 x8 x9 x10 x11 x12 x13 x14 x15 x16 x17 p20 x19 x20 x21 x22 x23 y4)
    let t30 : St := clT V.tt x 17 Go.Proofs.Tryd.f99.results (tn [0, 1, 10, 11, 17, 19, 28, 31] 12) t26 (i_control_all_1_252.out x1 x2 x3 x4 x5 x6 x7 x8 x9 x10 x11 x12 x13 x14 x15 x16 x17 p20 x19 x20 x21 x22 x23 y4)
    let t31 : St := clT V.tt x 17 Go.Proofs.Tryd.f99.results (tn [0, 1, 10, 11, 18, 19, 28, 31] 12) t28 (i_control_all_1_252.out x1 x2 x3 x4 x5 x6 x7 x8 x9 x10 x11 x12 x13 x14 x15 x16 x17 p20 x19 x20 x21 x22 x23 y4)
    let t32 : St := stpS V x 0 [(18, hr f_plan_Push.S y6)] 18 (tn [0, 1, 10, 11, 17, 19, 32] 12) t30
    let t33 : St := stpS V x 0 [(18, hr f_plan_Push.S y6)] 18 (tn [0, 1, 10, 11, 18, 19, 32] 12) t31
    let t34 : St := stpS V x 0 [] 19 (tn [0, 1, 10, 11, 32, 33] 12) t33
    let t35 : St := stpS V x 0 [] 20 (tn [0, 1, 10, 11, 32, 34] 12) t34
    let t36 : St := stpS V x 0 [] 21 (tn [0, 1, 10, 11] 12) t35
    have w36 : WA P 12 (opsX x) 0 (bs 22 4194303) Φ t36 := by
      refine WA_nil (by kernel_rfl) (RAn (by kernel_rfl) ?_)
      refine Rg V_ok 0 [] az ?_
      exact Jm (tn [0, 1, 10, 11] 12) (hL1 p1 (IntKind.i64.wrap (p2 + 1)) (p20.set p2.toNat ((att T23b6 p20 p2).1, (((att T23b6 p20 p2).2).1, y6.1))) H)
    have w35 : WA P 12 (opsX x) 1 (bs 22 2097151) Φ t35 := WAs (an (WE V_ok 0 [] 21 (tn [0, 1, 10, 11] 12) az w36) aN)
    have w34 : WA P 12 (opsX x) 2 (bs 22 1048575) Φ t34 := WT V_ok [] 20 (tn [0, 1, 10, 11, 32, 34] 12) az w35
    have w33 : WA P 12 (opsX x) 3 (bs 22 524287) Φ t33 := WAs (an (WE V_ok 0 [] 19 (tn [0, 1, 10, 11, 32, 33] 12) (ac n2 (ac n3 az)) w34) aN)
    have w32 : WA P 12 (opsX x) 4 (bs 22 524271) Φ t32 := WAs (an (WE V_ok 0 [] 4 (tn [0, 1, 10, 11, 18, 19, 32] 12) az w33) aN)
    have w31 : WA P 12 (opsX x) 4 (bs 22 262143) Φ t31 := WAs (an (WE V_ok 0 [(18, hr f_plan_Push.S y6)] 18 (tn [0, 1, 10, 11, 18, 19, 32] 12) (ac (f_plan_Push.rl e7) az) w33) aN)
    have w30 : WA P 12 (opsX x) 5 (bs 22 262127) Φ t30 := WAs (an (WE V_ok 0 [] 4 (tn [0, 1, 10, 11, 18, 19, 28, 31] 12) az w31) (an (WE V_ok 0 [(18, hr f_plan_Push.S y6)] 18 (tn [0, 1, 10, 11, 17, 19, 32] 12) (ac (f_plan_Push.rl e7) az) w32) aN))
    have w29 : WA P 12 (opsX x) 5 (bs 22 245759) Φ t29 := WAs (an (WE V_ok 0 [] 14 (tn [0, 1, 10, 11, 18, 19, 28, 31] 12) az w31) aN)
    have w28 : WA P 12 (opsX x) 5 (bs 22 131071) Φ t28 := WAs (an (WC V_ok 17 (tn [0, 1, 10, 11, 18, 19, 28, 31] 12) i_control_all_1_252.at_ (i_control_all_1_252.ok e5) w31) aN)
    have w27 : WA P 12 (opsX x) 6 (bs 22 245743) Φ t27 := WAs (an (WE V_ok 0 [] 4 (tn [0, 1, 10, 11, 18, 19, 27, 31] 12) az w29) (an (WE V_ok 0 [] 14 (tn [0, 1, 10, 11, 17, 19, 28, 31] 12) az w30) aN))
    have w26 : WA P 12 (opsX x) 6 (bs 22 131055) Φ t26 := WAs (an (WE V_ok 0 [] 4 (tn [0, 1, 10, 11, 18, 19, 28, 29, 30] 12) az w28) (an (WC V_ok 17 (tn [0, 1, 10, 11, 17, 19, 28, 31] 12) i_control_all_1_252.at_ (i_control_all_1_252.ok e5) w30) aN))
    have w25 : WA P 12 (opsX x) 6 (bs 22 237567) Φ t25 := WT V_ok [] 13 (tn [0, 1, 10, 11, 18, 19, 27, 31] 12) az w29
    have w24 : WA P 12 (opsX x) 6 (bs 22 114687) Φ t24 := WAs (an (WE V_ok 0 [] 14 (tn [0, 1, 10, 11, 18, 19, 28, 29, 30] 12) az w28) (an (WC V_ok 17 (tn [0, 1, 10, 11, 18, 19, 27, 31] 12) i_control_all_1_252.at_ (i_control_all_1_252.ok e5) w29) aN))
    have w23 : WA P 12 (opsX x) 7 (bs 22 237551) Φ t23 := WT V_ok [] 13 (tn [0, 1, 10, 11, 17, 19, 27, 31] 12) az w27
    have w22 : WA P 12 (opsX x) 7 (bs 22 114671) Φ t22 := WAs (an (WE V_ok 0 [] 4 (tn [0, 1, 10, 11, 18, 19, 27, 29, 30] 12) az w24) (an (WE V_ok 0 [] 14 (tn [0, 1, 10, 11, 17, 19, 28, 29, 30] 12) az w26) (an (WC V_ok 17 (tn [0, 1, 10, 11, 17, 19, 27, 31] 12) i_control_all_1_252.at_ (i_control_all_1_252.ok e5) w27) aN)))
    have w21 : WA P 12 (opsX x) 7 (bs 22 233471) Φ t21 := WAs (an (WE V_ok 0 [] 12 (tn [0, 1, 10, 11, 18, 19, 26, 31] 12) (ac n2 (ac n3 az)) w25) aN)
    have w20 : WA P 12 (opsX x) 7 (bs 22 106495) Φ t20 := WT V_ok [] 13 (tn [0, 1, 10, 11, 18, 19, 27, 29, 30] 12) az w24
    have w19 : WA P 12 (opsX x) 8 (bs 22 233455) Φ t19 := WAs (an (WE V_ok 0 [] 4 (tn [0, 1, 10, 11, 18, 19, 24, 25, 31] 12) az w21) (an (WE V_ok 0 [] 12 (tn [0, 1, 10, 11, 17, 19, 26, 31] 12) (ac n2 (ac n3 az)) w23) aN))
    have w18 : WA P 12 (opsX x) 8 (bs 22 106479) Φ t18 := WT V_ok [] 13 (tn [0, 1, 10, 11, 17, 19, 27, 29, 30] 12) az w22
    have w17 : WA P 12 (opsX x) 8 (bs 22 232447) Φ t17 := WAs (an (WE V_ok 0 [] 10 (tn [0, 1, 10, 11, 18, 19, 24, 25, 31] 12) az w21) aN)
    have w16 : WA P 12 (opsX x) 8 (bs 22 102399) Φ t16 := WAs (an (WE V_ok 0 [] 12 (tn [0, 1, 10, 11, 18, 19, 26, 29, 30] 12) (ac n2 (ac n3 az)) w20) (an (WC V_ok 17 (tn [0, 1, 10, 11, 18, 19, 24, 25, 31] 12) i_control_all_1_252.at_ (i_control_all_1_252.ok e5) w21) aN))
    have w15 : WA P 12 (opsX x) 9 (bs 22 232431) Φ t15 := WAs (an (WE V_ok 0 [] 4 (tn [0, 1, 10, 11, 18, 19, 23, 25, 31] 12) az w17) (an (WE V_ok 0 [] 10 (tn [0, 1, 10, 11, 17, 19, 24, 25, 31] 12) az w19) aN))
    have w14 : WA P 12 (opsX x) 9 (bs 22 102383) Φ t14 := WAs (an (WE V_ok 0 [] 4 (tn [0, 1, 10, 11, 18, 19, 24, 25, 29, 30] 12) az w16) (an (WE V_ok 0 [] 12 (tn [0, 1, 10, 11, 17, 19, 26, 29, 30] 12) (ac n2 (ac n3 az)) w18) (an (WC V_ok 17 (tn [0, 1, 10, 11, 17, 19, 24, 25, 31] 12) i_control_all_1_252.at_ (i_control_all_1_252.ok e5) w19) aN)))
    have w13 : WA P 12 (opsX x) 9 (bs 22 101375) Φ t13 := WAs (an (WE V_ok 0 [] 10 (tn [0, 1, 10, 11, 18, 19, 24, 25, 29, 30] 12) az w16) (an (WC V_ok 17 (tn [0, 1, 10, 11, 18, 19, 23, 25, 31] 12) i_control_all_1_252.at_ (i_control_all_1_252.ok e5) w17) aN))
    have w12 : WA P 12 (opsX x) 10 (bs 22 101359) Φ t12 := WAs (an (WE V_ok 0 [] 4 (tn [0, 1, 10, 11, 18, 19, 23, 25, 29, 30] 12) az w13) (an (WE V_ok 0 [] 10 (tn [0, 1, 10, 11, 17, 19, 24, 25, 29, 30] 12) az w14) (an (WC V_ok 17 (tn [0, 1, 10, 11, 17, 19, 23, 25, 31] 12) i_control_all_1_252.at_ (i_control_all_1_252.ok e5) w15) aN)))
    have w11 : WA P 12 (opsX x) 11 (bs 22 35823) Φ t11 := WT V_ok [] 16 (tn [0, 1, 10, 11, 17, 19, 23, 25, 29, 30] 12) az w12
    have w10 : WA P 12 (opsX x) 12 (bs 22 3055) Φ t10 := WT V_ok [] 15 (tn [0, 1, 4, 10, 11, 17, 19, 23, 25, 29] 12) az w11
    have w9 : WA P 12 (opsX x) 13 (bs 22 1007) Φ t9 := WT V_ok [] 11 (tn [0, 1, 4, 10, 11, 17, 19, 23, 25] 12) az w10
    have w8 : WA P 12 (opsX x) 14 (bs 22 495) Φ t8 := WT V_ok [] 9 (tn [0, 1, 4, 10, 11, 17, 19, 23] 12) az w9
    have w7 : WA P 12 (opsX x) 15 (bs 22 239) Φ t7 := WT V_ok [] 8 (tn [0, 1, 4, 10, 11, 17, 19, 22] 12) az w8
    have w6 : WA P 12 (opsX x) 16 (bs 22 111) Φ t6 := WT V_ok [] 7 (tn [0, 1, 4, 10, 11, 17, 19, 21] 12) az w7
    have w5 : WA P 12 (opsX x) 17 (bs 22 47) Φ t5 := WT V_ok [] 6 (tn [0, 1, 4, 10, 11, 17, 19, 20] 12) az w6
    have w4 : WA P 12 (opsX x) 18 (bs 22 15) Φ t4 := WT V_ok [] 5 (tn [0, 1, 4, 10, 11, 17, 19] 12) az w5
    have w3 : WA P 12 (opsX x) 19 (bs 22 7) Φ t3 := WT V_ok [] 3 (tn [0, 1, 4, 10, 11, 17] 12) az w4
    have w2 : WA P 12 (opsX x) 20 (bs 22 3) Φ t2 := WT V_ok [] 2 (tn [0, 1, 4, 10, 11, 16] 12) az w3
    have w1 : WA P 12 (opsX x) 21 (bs 22 1) Φ t1 := WT V_ok [] 1 (tn [0, 1, 4, 10, 11, 15] 12) az w2
    have w0 : WA P 12 (opsX x) 22 (bs 22 0) Φ t0 := WT V_ok [] 0 (tn [0, 1, 4, 10, 11, 14] 12) az w1
    exact RA V_ok 22 (by kernel_rfl) (by kernel_rfl) (by kernel_rfl) w0
  · refine C0 hb1 ?_
    obtain rfl := Option.some.inj H
    exact Lq (tn [] 12)
noncomputable def l1 (x1 : T26b3.T) (x2 x3 x4 x5 x6 x7 x8 x9 x10 x11 x12 x13 x14 x15 : Int) (x16 : List (List (List T1383.T))) (x17 : List Int) (x19 : List T713d.T) (x20 x21 : List Int) (x22 x23 : Int) (k : Nat) : Nat → Int → Int → List T23b6.T → Option R
  | 0, _, _, _ => none
  | m + 1, p1, p2, p20 => b1 x1 x2 x3 x4 x5 x6 x7 x8 x9 x10 x11 x12 x13 x14 x15 x16 x17 x19 x20 x21 x22 x23 (l1 x1 x2 x3 x4 x5 x6 x7 x8 x9 x10 x11 x12 x13 x14 x15 x16 x17 x19 x20 x21 x22 x23 k m) k p1 p2 p20
theorem l1_ok {r x1 x2 x3 x4 x5 x6 x7 x8 x9 x10 x11 x12 x13 x14 x15 x16 x17 x19 x20 x21 x22 x23} (k : Nat) : ∀ (m1 : Nat) (p1 p2 : Int) (p20 : List T23b6.T), l1 x1 x2 x3 x4 x5 x6 x7 x8 x9 x10 x11 x12 x13 x14 x15 x16 x17 x19 x20 x21 x22 x23 k m1 p1 p2 p20 = some r → Gw P 12 (Q x1 x2 x3 x4 x5 x6 x7 x8 x9 x10 x11 x12 x13 x14 x15 x16 x17 x19 x20 x21 x22 x23 r) (Pb c0 5 [] m1) (s1 x1 x2 x3 x4 x5 x6 x7 x8 x9 x10 x11 x12 x13 x14 x15 x16 x17 x19 x20 x21 x22 x23 p1 p2 p20)
  | 0, _, _, _, H => by cases H
  | m1 + 1, p1, p2, p20, H => SU (by kernel_rfl) (b1_ok (l1_ok k m1) H)
noncomputable def f (k : Nat) (x1 : T26b3.T) (x2 x3 x4 x5 x6 x7 x8 x9 x10 x11 x12 x13 x14 x15 : Int) (x16 : List (List (List T1383.T))) (x17 : List Int) (x18 : List T23b6.T) (x19 : List T713d.T) (x20 x21 : List Int) (x22 x23 : Int) : Option R :=
  l1 x1 x2 x3 x4 x5 x6 x7 x8 x9 x10 x11 x12 x13 x14 x15 x16 x17 x19 x20 x21 x22 x23 k k (x18.length : Int) 0 x18
theorem f_ok {r k x1 x2 x3 x4 x5 x6 x7 x8 x9 x10 x11 x12 x13 x14 x15 x16 x17 x18 x19 x20 x21 x22 x23} (H : f k x1 x2 x3 x4 x5 x6 x7 x8 x9 x10 x11 x12 x13 x14 x15 x16 x17 x18 x19 x20 x21 x22 x23 = some r) : Gw P 12 (Q x1 x2 x3 x4 x5 x6 x7 x8 x9 x10 x11 x12 x13 x14 x15 x16 x17 x19 x20 x21 x22 x23 r) (Px c0 1 []) (s0 x1 x2 x3 x4 x5 x6 x7 x8 x9 x10 x11 x12 x13 x14 x15 x16 x17 x18 x19 x20 x21 x22 x23) := by
  unfold f at H
  refine Rg V_ok 0 [] az ?_
  exact LP k (Jm (tn [0, 1, 10, 11] 12) (l1_ok k k (x18.length : Int) 0 x18 H))
theorem ok {r k x1 x2 x3 x4 x5 x6 x7 x8 x9 x10 x11 x12 x13 x14 x15 x16 x17 x18 x19 x20 x21 x22 x23} (H : f k x1 x2 x3 x4 x5 x6 x7 x8 x9 x10 x11 x12 x13 x14 x15 x16 x17 x18 x19 x20 x21 x22 x23 = some r) : W P 12 c0 (s0 x1 x2 x3 x4 x5 x6 x7 x8 x9 x10 x11 x12 x13 x14 x15 x16 x17 x18 x19 x20 x21 x22 x23) (CallQ 12 (out x1 x2 x3 x4 x5 x6 x7 x8 x9 x10 x11 x12 x13 x14 x15 x16 x17 x19 x20 x21 x22 x23 r)) := of_G (f_ok H)
theorem at_ : FnAt P 75 36 c0 Go.Proofs.Tryd.f75.results := fnAt Go.Proofs.Tryd.func75 (by kernel_rfl) (by decide) (by kernel_rfl) (by kernel_rfl)
end i_control_controller_tell_863
/-! ### function 81, (*wayfinder/control.controller).end, where it is called -/

namespace i_control_controller_end_f90
noncomputable def c0 : Code := (Go.Proofs.Tryd.f81.body).getD .skip
noncomputable def V : Env := { tt := tt, Γ := slk [] }
theorem V_ok : EnvOk P V := { ck := tt_ck, fits := slk_nil, mixed := mixed }
abbrev R := (Int) × (Int) × Unit
noncomputable def s0 (x1 : Int) (x2 : T26b3.T) (x3 x4 x5 x6 x7 x8 x9 x10 x11 x12 x13 x14 x15 x16 : Int) (x17 : List (List (List T1383.T))) (x18 : List Int) (x19 : List T23b6.T) (x20 : List T713d.T) (x21 x22 : List Int) : St := ⟨17, [(0, .cv (.one (.ptr 3 0))), (1, .cv (.one (.i x1)))], [(.box 13, (encC .any T26b3 x2)), (.box 13, [.nils, .i x3, .i x4, .i x5, .i x6, .i x7, .i x8, .nils, .nils, .nils, .nils, .nils, .i x9]), (.box 6, [.fn 35 [] [], .fn 36 [] [], .fn 37 [] [], .fn 38 [] [], .fn 39 [] [], .fn 39 [] []]), (.box 13, [.own 4, .i x10, .i x11, .i x12, .i x13, .i x14, .i x15, .own 5, .own 6, .own 7, .own 10, .own 9, .i x16]), (.buf 64 (.slice (.slice T1383)) x17, []), (.buf 3 (.int .i64) x18, []), (.buf 50 T23b6 x19, []), (.buf 95 T713d x20, []), (.dead, []), (.buf 3 (.int .i64) x21, []), (.buf 3 (.int .i64) x22, [])]⟩
noncomputable def out (x1 : Int) (x2 : T26b3.T) (x3 x4 x5 x6 x7 x8 x9 x10 x12 x15 x16 : Int) (x17 : List (List (List T1383.T))) (x18 : List Int) (x19 : List T23b6.T) (x20 : List T713d.T) (x21 x22 : List Int) (r : R) : St := ⟨17, [], [(.box 13, (encC .any T26b3 x2)), (.box 13, [.nils, .i x3, .i x4, .i x5, .i x6, .i x7, .i x8, .nils, .nils, .nils, .nils, .nils, .i x9]), (.box 6, [.fn 35 [] [], .fn 36 [] [], .fn 37 [] [], .fn 38 [] [], .fn 39 [] [], .fn 39 [] []]), (.box 13, [.own 4, .i x10, .i r.1, .i x12, .i r.2.1, .i x1, .i x15, .own 5, .own 6, .own 7, .own 10, .own 9, .i x16]), (.buf 64 (.slice (.slice T1383)) x17, []), (.buf 3 (.int .i64) x18, []), (.buf 50 T23b6 x19, []), (.buf 95 T713d x20, []), (.dead, []), (.buf 3 (.int .i64) x21, []), (.buf 3 (.int .i64) x22, [])]⟩
abbrev Q (x1 : Int) (x2 : T26b3.T) (x3 x4 x5 x6 x7 x8 x9 x10 x12 x15 x16 : Int) (x17 : List (List (List T1383.T))) (x18 : List Int) (x19 : List T23b6.T) (x20 : List T713d.T) (x21 x22 : List Int) (r : R) := CallQ 11 (out x1 x2 x3 x4 x5 x6 x7 x8 x9 x10 x12 x15 x16 x17 x18 x19 x20 x21 x22 r)
noncomputable def f (k : Nat) (x1 : Int) (x2 : T26b3.T) (x3 x4 x5 x6 x7 x8 x9 x10 x11 x12 x13 x14 x15 x16 : Int) (x17 : List (List (List T1383.T))) (x18 : List Int) (x19 : List T23b6.T) (x20 : List T713d.T) (x21 x22 : List Int) : Option R :=
  some ((-1), ((0 : Int), ()))
theorem f_ok {r k x1 x2 x3 x4 x5 x6 x7 x8 x9 x10 x11 x12 x13 x14 x15 x16 x17 x18 x19 x20 x21 x22} (H : f k x1 x2 x3 x4 x5 x6 x7 x8 x9 x10 x11 x12 x13 x14 x15 x16 x17 x18 x19 x20 x21 x22 = some r) : Gw P 11 (Q x1 x2 x3 x4 x5 x6 x7 x8 x9 x10 x12 x15 x16 x17 x18 x19 x20 x21 x22 r) (Px c0 1 []) (s0 x1 x2 x3 x4 x5 x6 x7 x8 x9 x10 x11 x12 x13 x14 x15 x16 x17 x18 x19 x20 x21 x22) := by
  unfold f at H
  refine Rg V_ok 0 [] az ?_
  obtain rfl := Option.some.inj H
  exact Lq (tn [] 11)
theorem ok {r k x1 x2 x3 x4 x5 x6 x7 x8 x9 x10 x11 x12 x13 x14 x15 x16 x17 x18 x19 x20 x21 x22} (H : f k x1 x2 x3 x4 x5 x6 x7 x8 x9 x10 x11 x12 x13 x14 x15 x16 x17 x18 x19 x20 x21 x22 = some r) : W P 11 c0 (s0 x1 x2 x3 x4 x5 x6 x7 x8 x9 x10 x11 x12 x13 x14 x15 x16 x17 x18 x19 x20 x21 x22) (CallQ 11 (out x1 x2 x3 x4 x5 x6 x7 x8 x9 x10 x12 x15 x16 x17 x18 x19 x20 x21 x22 r)) := of_G (f_ok H)
theorem at_ : FnAt P 81 17 c0 Go.Proofs.Tryd.f81.results := fnAt Go.Proofs.Tryd.func81 (by kernel_rfl) (by decide) (by kernel_rfl) (by kernel_rfl)
end i_control_controller_end_f90
/-! ### function 38, (*wayfinder/control.controller).drain, where it is called -/

namespace i_control_controller_drain_d8b
noncomputable def c0 : Code := (Go.Proofs.Tryd.f38.body).getD .skip
noncomputable def V : Env := { tt := tt, Γ := slk [] }
theorem V_ok : EnvOk P V := { ck := tt_ck, fits := slk_nil, mixed := mixed }
abbrev R := (Int) × (Int) × (Int) × (Int) × (Int) × (Int) × (List Int) × (List T23b6.T) × Unit
noncomputable def s0 (x1 : T26b3.T) (x2 x3 x4 x5 x6 x7 x8 x9 x10 x11 x12 x13 x14 x15 : Int) (x16 : List (List (List T1383.T))) (x17 : List Int) (x18 : List T23b6.T) (x19 : List T713d.T) (x20 x21 : List Int) : St := ⟨61, [(0, .cv (.one (.ptr 3 0)))], [(.box 13, (encC .any T26b3 x1)), (.box 13, [.nils, .i x2, .i x3, .i x4, .i x5, .i x6, .i x7, .nils, .nils, .nils, .nils, .nils, .i x8]), (.box 6, [.fn 35 [] [], .fn 36 [] [], .fn 37 [] [], .fn 38 [] [], .fn 39 [] [], .fn 39 [] []]), (.box 13, [.own 4, .i x9, .i x10, .i x11, .i x12, .i x13, .i x14, .own 5, .own 6, .own 7, .own 8, .own 9, .i x15]), (.buf 64 (.slice (.slice T1383)) x16, []), (.buf 3 (.int .i64) x17, []), (.buf 50 T23b6 x18, []), (.buf 95 T713d x19, []), (.buf 3 (.int .i64) x20, []), (.buf 3 (.int .i64) x21, [])]⟩
noncomputable def out (x1 : T26b3.T) (x2 x3 x4 x5 x6 x7 x8 x15 : Int) (x16 : List (List (List T1383.T))) (x17 : List Int) (x19 : List T713d.T) (x21 : List Int) (r : R) : St := ⟨61, [], [(.box 13, (encC .any T26b3 x1)), (.box 13, [.nils, .i x2, .i x3, .i x4, .i x5, .i x6, .i x7, .nils, .nils, .nils, .nils, .nils, .i x8]), (.box 6, [.fn 35 [] [], .fn 36 [] [], .fn 37 [] [], .fn 38 [] [], .fn 39 [] [], .fn 39 [] []]), (.box 13, [.own 4, .i r.1, .i r.2.1, .i r.2.2.1, .i r.2.2.2.1, .i r.2.2.2.2.1, .i r.2.2.2.2.2.1, .own 5, .own 6, .own 7, .sl (.int .i64) r.2.2.2.2.2.2.1 .any, .own 9, .i x15]), (.buf 64 (.slice (.slice T1383)) x16, []), (.buf 3 (.int .i64) x17, []), (.buf 50 T23b6 r.2.2.2.2.2.2.2.1, []), (.buf 95 T713d x19, []), (.dead, []), (.buf 3 (.int .i64) x21, [])]⟩
abbrev Q (x1 : T26b3.T) (x2 x3 x4 x5 x6 x7 x8 x15 : Int) (x16 : List (List (List T1383.T))) (x17 : List Int) (x19 : List T713d.T) (x21 : List Int) (r : R) := CallQ 10 (out x1 x2 x3 x4 x5 x6 x7 x8 x15 x16 x17 x19 x21 r)
noncomputable def f (k : Nat) (x1 : T26b3.T) (x2 x3 x4 x5 x6 x7 x8 x9 x10 x11 x12 x13 x14 x15 : Int) (x16 : List (List (List T1383.T))) (x17 : List Int) (x18 : List T23b6.T) (x19 : List T713d.T) (x20 x21 : List Int) : Option R :=
  if (decide ((IntKind.i64.wrap (x14 - 1)) ≥ (1 : Int))) = true then
    some (x9, (x10, (x11, (x12, (x13, ((IntKind.i64.wrap (x14 - 1)), (x20, (x18, ()))))))))
  else
    (i_control_all_1a4.f k (4 : Int) x11 x1 x2 x3 x4 x5 x6 x7 x8 x9 x10 x11 x12 x13 (IntKind.i64.wrap (x14 - 1)) x15 x16 x17 x18 x19 x20 x21).bind fun y2 =>
      (i_control_controller_tell_863.f k x1 x2 x3 x4 x5 x6 x7 x8 x9 x10 x11 x12 x13 (IntKind.i64.wrap (x14 - 1)) x15 x16 x17 x18 x19 x20 x21 (4 : Int) x11).bind fun y4 =>
        if (x20.length + 1) * 8 ≤ 140737488355328 then
          (i_control_controller_end_f90.f k (4 : Int) x1 x2 x3 x4 x5 x6 x7 x8 x10 x10 x12 x12 x13 (IntKind.i64.wrap (x14 - 1)) x15 x16 x17 y4.1 x19 x21 (x20 ++ [x10])).bind fun y7 =>
            some (x10, (y7.1, (x12, (y7.2.1, ((4 : Int), ((IntKind.i64.wrap (x14 - 1)), ((x20 ++ [x10]), (y4.1, ()))))))))
        else none
theorem f_ok {r k x1 x2 x3 x4 x5 x6 x7 x8 x9 x10 x11 x12 x13 x14 x15 x16 x17 x18 x19 x20 x21} (H : f k x1 x2 x3 x4 x5 x6 x7 x8 x9 x10 x11 x12 x13 x14 x15 x16 x17 x18 x19 x20 x21 = some r) : Gw P 10 (Q x1 x2 x3 x4 x5 x6 x7 x8 x15 x16 x17 x19 x21 r) (Px c0 1 []) (s0 x1 x2 x3 x4 x5 x6 x7 x8 x9 x10 x11 x12 x13 x14 x15 x16 x17 x18 x19 x20 x21) := by
  unfold f at H
  refine Rg V_ok 0 [] az ?_
  refine Rg V_ok 0 [] az ?_
  rcases of_ite H with ⟨hb1, H⟩ | ⟨hb1, H⟩
  · refine C1 hb1 ?_
    obtain rfl := Option.some.inj H
    exact Lq {fz := [8], gr := 0, ad := [], live := [], src := [some 0, some 1, some 2, some 3, some 4, some 5, some 6, some 7, some 8, some 9]}
  · refine C0 hb1 ?_
    refine GT (tn [0] 10) (RI ?_)
    refine EV V_ok 0 [] 6 az ?_
    obtain ⟨y2, e3, H⟩ := of_bind H
    refine CL V_ok i_control_all_1a4.at_ (i_control_all_1a4.ok e3) ?_
    obtain ⟨y4, e5, H⟩ := of_bind H
    refine CL V_ok i_control_controller_tell_863.at_ (i_control_controller_tell_863.ok e5) ?_
    refine RN ?_
    obtain ⟨n6, H⟩ := of_if H
    refine Rg V_ok 1 [(12, hb 12)] (ac n6 az) ?_
    refine Rg V_ok 0 [] az ?_
    refine GT (tl [0] [0, 1, 2, 3, 4, 5, 6, 7, 8, 9, 12]) (RI ?_)
    refine EV V_ok 0 [] 1 az ?_
    obtain ⟨y7, e8, H⟩ := of_bind H
    refine CL V_ok i_control_controller_end_f90.at_ (i_control_controller_end_f90.ok e8) ?_
    refine RN ?_
    obtain rfl := Option.some.inj H
    exact Lq {fz := [10], gr := 0, ad := [], live := [], src := [some 0, some 1, some 2, some 3, some 4, some 5, some 6, some 7, some 8, some 9]}
theorem ok {r k x1 x2 x3 x4 x5 x6 x7 x8 x9 x10 x11 x12 x13 x14 x15 x16 x17 x18 x19 x20 x21} (H : f k x1 x2 x3 x4 x5 x6 x7 x8 x9 x10 x11 x12 x13 x14 x15 x16 x17 x18 x19 x20 x21 = some r) : W P 10 c0 (s0 x1 x2 x3 x4 x5 x6 x7 x8 x9 x10 x11 x12 x13 x14 x15 x16 x17 x18 x19 x20 x21) (CallQ 10 (out x1 x2 x3 x4 x5 x6 x7 x8 x15 x16 x17 x19 x21 r)) := of_G (f_ok H)
theorem at_ : FnAt P 38 61 c0 Go.Proofs.Tryd.f38.results := fnAt Go.Proofs.Tryd.func38 (by kernel_rfl) (by decide) (by kernel_rfl) (by kernel_rfl)
end i_control_controller_drain_d8b
/-! ### function 39, (*wayfinder/control.controller).rest, where it is called -/

namespace i_control_controller_rest_d8b
noncomputable def c0 : Code := (Go.Proofs.Tryd.f39.body).getD .skip
noncomputable def V : Env := { tt := tt, Γ := slk [] }
theorem V_ok : EnvOk P V := { ck := tt_ck, fits := slk_nil, mixed := mixed }
abbrev R := (Int) × Unit
noncomputable def s0 (x1 : T26b3.T) (x2 x3 x4 x5 x6 x7 x8 x9 x10 x11 x12 x13 x14 x15 : Int) (x16 : List (List (List T1383.T))) (x17 : List Int) (x18 : List T23b6.T) (x19 : List T713d.T) (x20 x21 : List Int) : St := ⟨8, [(0, .cv (.one (.ptr 3 0)))], [(.box 13, (encC .any T26b3 x1)), (.box 13, [.nils, .i x2, .i x3, .i x4, .i x5, .i x6, .i x7, .nils, .nils, .nils, .nils, .nils, .i x8]), (.box 6, [.fn 35 [] [], .fn 36 [] [], .fn 37 [] [], .fn 38 [] [], .fn 39 [] [], .fn 39 [] []]), (.box 13, [.own 4, .i x9, .i x10, .i x11, .i x12, .i x13, .i x14, .own 5, .own 6, .own 7, .own 8, .own 9, .i x15]), (.buf 64 (.slice (.slice T1383)) x16, []), (.buf 3 (.int .i64) x17, []), (.buf 50 T23b6 x18, []), (.buf 95 T713d x19, []), (.buf 3 (.int .i64) x20, []), (.buf 3 (.int .i64) x21, [])]⟩
noncomputable def out (x1 : T26b3.T) (x2 x3 x4 x5 x6 x7 x8 x9 x10 x11 x12 x14 x15 : Int) (x16 : List (List (List T1383.T))) (x17 : List Int) (x18 : List T23b6.T) (x19 : List T713d.T) (x20 x21 : List Int) (r : R) : St := ⟨8, [], [(.box 13, (encC .any T26b3 x1)), (.box 13, [.nils, .i x2, .i x3, .i x4, .i x5, .i x6, .i x7, .nils, .nils, .nils, .nils, .nils, .i x8]), (.box 6, [.fn 35 [] [], .fn 36 [] [], .fn 37 [] [], .fn 38 [] [], .fn 39 [] [], .fn 39 [] []]), (.box 13, [.own 4, .i x9, .i x10, .i x11, .i x12, .i r.1, .i x14, .own 5, .own 6, .own 7, .own 8, .own 9, .i x15]), (.buf 64 (.slice (.slice T1383)) x16, []), (.buf 3 (.int .i64) x17, []), (.buf 50 T23b6 x18, []), (.buf 95 T713d x19, []), (.buf 3 (.int .i64) x20, []), (.buf 3 (.int .i64) x21, [])]⟩
abbrev Q (x1 : T26b3.T) (x2 x3 x4 x5 x6 x7 x8 x9 x10 x11 x12 x14 x15 : Int) (x16 : List (List (List T1383.T))) (x17 : List Int) (x18 : List T23b6.T) (x19 : List T713d.T) (x20 x21 : List Int) (r : R) := CallQ 10 (out x1 x2 x3 x4 x5 x6 x7 x8 x9 x10 x11 x12 x14 x15 x16 x17 x18 x19 x20 x21 r)
noncomputable def f (k : Nat) (x1 : T26b3.T) (x2 x3 x4 x5 x6 x7 x8 x9 x10 x11 x12 x13 x14 x15 : Int) (x16 : List (List (List T1383.T))) (x17 : List Int) (x18 : List T23b6.T) (x19 : List T713d.T) (x20 x21 : List Int) : Option R :=
  (i_control_controller_done_d8b.f k x1 x2 x3 x4 x5 x6 x7 x8 x9 x10 x11 x12 x13 x14 x15 x16 x17 x18 x19 x20 x21).bind fun y1 =>
    if y1.1 = true then
      some ((0 : Int), ())
    else
      some (x13, ())
theorem f_ok {r k x1 x2 x3 x4 x5 x6 x7 x8 x9 x10 x11 x12 x13 x14 x15 x16 x17 x18 x19 x20 x21} (H : f k x1 x2 x3 x4 x5 x6 x7 x8 x9 x10 x11 x12 x13 x14 x15 x16 x17 x18 x19 x20 x21 = some r) : Gw P 10 (Q x1 x2 x3 x4 x5 x6 x7 x8 x9 x10 x11 x12 x14 x15 x16 x17 x18 x19 x20 x21 r) (Px c0 1 []) (s0 x1 x2 x3 x4 x5 x6 x7 x8 x9 x10 x11 x12 x13 x14 x15 x16 x17 x18 x19 x20 x21) := by
  unfold f at H
  refine GT (tn [0] 10) (RI ?_)
  refine EV V_ok 0 [] 1 az ?_
  obtain ⟨y1, e2, H⟩ := of_bind H
  refine CL V_ok i_control_controller_done_d8b.at_ (i_control_controller_done_d8b.ok e2) ?_
  refine RN ?_
  rcases of_ite H with ⟨hb3, H⟩ | ⟨hb3, H⟩
  · refine C1 hb3 ?_
    refine Rg V_ok 0 [] az ?_
    obtain rfl := Option.some.inj H
    exact Lq (tn [] 10)
  · refine C0 hb3 ?_
    obtain rfl := Option.some.inj H
    exact Lq (tn [] 10)
theorem ok {r k x1 x2 x3 x4 x5 x6 x7 x8 x9 x10 x11 x12 x13 x14 x15 x16 x17 x18 x19 x20 x21} (H : f k x1 x2 x3 x4 x5 x6 x7 x8 x9 x10 x11 x12 x13 x14 x15 x16 x17 x18 x19 x20 x21 = some r) : W P 10 c0 (s0 x1 x2 x3 x4 x5 x6 x7 x8 x9 x10 x11 x12 x13 x14 x15 x16 x17 x18 x19 x20 x21) (CallQ 10 (out x1 x2 x3 x4 x5 x6 x7 x8 x9 x10 x11 x12 x14 x15 x16 x17 x18 x19 x20 x21 r)) := of_G (f_ok H)
theorem at_ : FnAt P 39 8 c0 Go.Proofs.Tryd.f39.results := fnAt Go.Proofs.Tryd.func39 (by kernel_rfl) (by decide) (by kernel_rfl) (by kernel_rfl)
end i_control_controller_rest_d8b
/-! ### function 15, wayfinder/control.Tick -/

namespace f_control_Tick
noncomputable def c0 : Code := (Go.Proofs.Tryd.f15.body).getD .skip
abbrev ps : Sg := [(true, T26b3)]
abbrev rs : Sg := [(true, T26b3)]
noncomputable def V : Env := { tt := tt, Γ := slk [] }
theorem V_ok : EnvOk P V := { ck := tt_ck, fits := slk_nil, mixed := mixed }
abbrev R := Tup rs
noncomputable abbrev Q (r : R) : Exit → St → Prop := Qr tt Go.Proofs.Tryd.f15.results ⟨ps, rs, .any, none, fun _ _ => True⟩ r
noncomputable def s1 (a1 : T26b3.T) (p1 : Bool) (p3 p4 p5 p6 p7 p8 p9 p10 p11 p12 p13 p14 p15 p16 : Int) (p17 : List (List (List T1383.T))) (p18 : List Int) (p19 : List T23b6.T) (p20 : List T713d.T) (p21 p22 : List Int) : St := ⟨30, [(1, .cv (.one (.ptr 0 0))), (2, .cv (.one (.ptr 1 0))), (3, .cv (.one (.ptr 2 0))), (4, .cv (.one (.ptr 3 0))), (19, .cv (.one (.bool p1)))], [(.box 13, (encC .any T26b3 a1)), (.box 13, [.nils, .i p3, .i p4, .i p5, .i p6, .i p7, .i p8, .nils, .nils, .nils, .nils, .nils, .i p9]), (.box 6, [.fn 35 [] [], .fn 36 [] [], .fn 37 [] [], .fn 38 [] [], .fn 39 [] [], .fn 39 [] []]), (.box 13, [.own 4, .i p10, .i p11, .i p12, .i p13, .i p14, .i p15, .own 5, .own 6, .own 7, .own 8, .own 9, .i p16]), (.buf 64 (.slice (.slice T1383)) p17, []), (.buf 3 (.int .i64) p18, []), (.buf 50 T23b6 p19, []), (.buf 95 T713d p20, []), (.buf 3 (.int .i64) p21, []), (.buf 3 (.int .i64) p22, [])]⟩
noncomputable def j1 (a1 : T26b3.T) (k : Nat) (p1 : Bool) (p3 p4 p5 p6 p7 p8 p9 p10 p11 p12 p13 p14 p15 p16 : Int) (p17 : List (List (List T1383.T))) (p18 : List Int) (p19 : List T23b6.T) (p20 : List T713d.T) (p21 p22 : List Int) : Option R :=
  if p1 = true then
  if a1.2.2.2.2.2.1 = (0 : Int) then
    (i_control_controller_idle_d8b.f k a1 p3 p4 p5 p6 p7 p8 p9 p10 p11 p12 p13 p14 p15 p16 p17 p18 p19 p20 p21 p22).bind fun y9 =>
      some ((p17, (p10, (y9.1, (p12, (y9.2.1, (y9.2.2.1, (p15, (y9.2.2.2.1, (y9.2.2.2.2.2.1, (y9.2.2.2.2.1, (p21, (p22, p16)))))))))))), ())
  else
    if a1.2.2.2.2.2.1 = (1 : Int) then
      (i_control_controller_install_d8b.f k a1 p3 p4 p5 p6 p7 p8 p9 p10 p11 p12 p13 p14 p15 p16 p17 p18 p19 p20 p21 p22).bind fun y12 =>
        some ((p17, (p10, (y12.1, (p12, (y12.2.1, (y12.2.2.1, (p15, (p18, (y12.2.2.2.2.1, (p20, (p21, (y12.2.2.2.1, p16)))))))))))), ())
    else
      if a1.2.2.2.2.2.1 = (2 : Int) then
        (i_control_controller_flip_d8b.f k a1 p3 p4 p5 p6 p7 p8 p9 p10 p11 p12 p13 p14 p15 p16 p17 p18 p19 p20 p21 p22).bind fun y15 =>
          some ((p17, (p10, (p11, (p12, (p13, (y15.1, (y15.2.1, (p18, (p19, (p20, (p21, (p22, p16)))))))))))), ())
      else
        if a1.2.2.2.2.2.1 = (3 : Int) then
          (i_control_controller_drain_d8b.f k a1 p3 p4 p5 p6 p7 p8 p9 p10 p11 p12 p13 p14 p15 p16 p17 p18 p19 p20 p21 p22).bind fun y18 =>
            some ((p17, (y18.1, (y18.2.1, (y18.2.2.1, (y18.2.2.2.1, (y18.2.2.2.2.1, (y18.2.2.2.2.2.1, (p18, (y18.2.2.2.2.2.2.2.1, (p20, (y18.2.2.2.2.2.2.1, (p22, p16)))))))))))), ())
        else
          if a1.2.2.2.2.2.1 = (4 : Int) then
            (i_control_controller_rest_d8b.f k a1 p3 p4 p5 p6 p7 p8 p9 p10 p11 p12 p13 p14 p15 p16 p17 p18 p19 p20 p21 p22).bind fun y21 =>
              some ((p17, (p10, (p11, (p12, (p13, (y21.1, (p15, (p18, (p19, (p20, (p21, (p22, p16)))))))))))), ())
          else
            if a1.2.2.2.2.2.1 = (5 : Int) then
              (i_control_controller_rest_d8b.f k a1 p3 p4 p5 p6 p7 p8 p9 p10 p11 p12 p13 p14 p15 p16 p17 p18 p19 p20 p21 p22).bind fun y24 =>
                some ((p17, (p10, (p11, (p12, (p13, (y24.1, (p15, (p18, (p19, (p20, (p21, (p22, p16)))))))))))), ())
            else
              none
else
  some ((p17, (p10, (p11, (p12, (p13, (p14, (p15, (p18, (p19, (p20, (p21, (p22, p16)))))))))))), ())
theorem j1_ok {r a1} {k p1 p3 p4 p5 p6 p7 p8 p9 p10 p11 p12 p13 p14 p15 p16 p17 p18 p19 p20 p21 p22} (H : j1 a1 k p1 p3 p4 p5 p6 p7 p8 p9 p10 p11 p12 p13 p14 p15 p16 p17 p18 p19 p20 p21 p22 = some r) : Gw P 0 (Q r) (Px c0 55 []) (s1 a1 p1 p3 p4 p5 p6 p7 p8 p9 p10 p11 p12 p13 p14 p15 p16 p17 p18 p19 p20 p21 p22) := by
  unfold j1 at H
  rcases of_ite H with ⟨hb7, H⟩ | ⟨hb7, H⟩
  · refine C1 hb7 ?_
    refine GT (tn [1, 2, 3, 4] 10) (RI ?_)
    refine EV V_ok 0 [] 2 az ?_
    rcases of_ifx H with ⟨hi8, H⟩ | ⟨hi8, H⟩
    · refine FXIO (k := .i64) 21 hi8 ?_
      refine EV V_ok 0 [] 3 (ac (show 0 ≤ (0 : Int) by decide) (ac (show (0 : Int) < (6 : Int) by decide) az)) ?_
      obtain ⟨y9, e10, H⟩ := of_bind H
      refine CL V_ok i_control_controller_idle_d8b.at_ (i_control_controller_idle_d8b.ok e10) ?_
      refine RN ?_
      refine Rg V_ok 0 [] az ?_
      exact Lf (Eq.trans (by kernel_rfl) H)
    · rcases of_ifx H with ⟨hi11, H⟩ | ⟨hi11, H⟩
      · refine FXIO (k := .i64) 21 hi11 ?_
        refine EV V_ok 0 [] 3 (ac (show 0 ≤ (1 : Int) by decide) (ac (show (1 : Int) < (6 : Int) by decide) az)) ?_
        obtain ⟨y12, e13, H⟩ := of_bind H
        refine CL V_ok i_control_controller_install_d8b.at_ (i_control_controller_install_d8b.ok e13) ?_
        refine RN ?_
        refine Rg V_ok 0 [] az ?_
        exact Lf (Eq.trans (by kernel_rfl) H)
      · rcases of_ifx H with ⟨hi14, H⟩ | ⟨hi14, H⟩
        · refine FXIO (k := .i64) 21 hi14 ?_
          refine EV V_ok 0 [] 3 (ac (show 0 ≤ (2 : Int) by decide) (ac (show (2 : Int) < (6 : Int) by decide) az)) ?_
          obtain ⟨y15, e16, H⟩ := of_bind H
          refine CL V_ok i_control_controller_flip_d8b.at_ (i_control_controller_flip_d8b.ok e16) ?_
          refine RN ?_
          refine Rg V_ok 0 [] az ?_
          exact Lf (Eq.trans (by kernel_rfl) H)
        · rcases of_ifx H with ⟨hi17, H⟩ | ⟨hi17, H⟩
          · refine FXIO (k := .i64) 21 hi17 ?_
            refine EV V_ok 0 [] 3 (ac (show 0 ≤ (3 : Int) by decide) (ac (show (3 : Int) < (6 : Int) by decide) az)) ?_
            obtain ⟨y18, e19, H⟩ := of_bind H
            refine CL V_ok i_control_controller_drain_d8b.at_ (i_control_controller_drain_d8b.ok e19) ?_
            refine RN ?_
            refine Rg V_ok 0 [] az ?_
            exact Lf (Eq.trans (by kernel_rfl) H)
          · rcases of_ifx H with ⟨hi20, H⟩ | ⟨hi20, H⟩
            · refine FXIO (k := .i64) 21 hi20 ?_
              refine EV V_ok 0 [] 3 (ac (show 0 ≤ (4 : Int) by decide) (ac (show (4 : Int) < (6 : Int) by decide) az)) ?_
              obtain ⟨y21, e22, H⟩ := of_bind H
              refine CL V_ok i_control_controller_rest_d8b.at_ (i_control_controller_rest_d8b.ok e22) ?_
              refine RN ?_
              refine Rg V_ok 0 [] az ?_
              exact Lf (Eq.trans (by kernel_rfl) H)
            · rcases of_ifx H with ⟨hi23, H⟩ | ⟨hi23, H⟩
              · refine FXIO (k := .i64) 21 hi23 ?_
                refine EV V_ok 0 [] 3 (ac (show 0 ≤ (5 : Int) by decide) (ac (show (5 : Int) < (6 : Int) by decide) az)) ?_
                obtain ⟨y24, e25, H⟩ := of_bind H
                refine CL V_ok i_control_controller_rest_d8b.at_ (i_control_controller_rest_d8b.ok e25) ?_
                refine RN ?_
                refine Rg V_ok 0 [] az ?_
                exact Lf (Eq.trans (by kernel_rfl) H)
              · cases H
  · refine C0 hb7 ?_
    refine Rg V_ok 0 [] az ?_
    exact Lf (Eq.trans (by kernel_rfl) H)
noncomputable def f (k : Nat) (a1 : T26b3.T) : Option R :=
  (i_control_own_b6am.f k a1 a1 (0 : Int) (0 : Int) (0 : Int) (0 : Int) (0 : Int) (0 : Int) (0 : Int)).bind fun y1 =>
    (i_control_controller_is_d8b.f k a1 (0 : Int) (0 : Int) (0 : Int) (0 : Int) (0 : Int) (0 : Int) (0 : Int) y1.1 y1.2.1 y1.2.2.1 y1.2.2.2.1 y1.2.2.2.2.1 y1.2.2.2.2.2.1 y1.2.2.2.2.2.2.1 y1.2.2.2.2.2.2.2.1 y1.2.2.2.2.2.2.2.2.1 y1.2.2.2.2.2.2.2.2.2.1 y1.2.2.2.2.2.2.2.2.2.2.1 y1.2.2.2.2.2.2.2.2.2.2.2.1 y1.2.2.2.2.2.2.2.2.2.2.2.2.1).bind fun y3 =>
      if y3.1 = true then
        if (decide (a1.2.2.2.2.2.1 ≥ (0 : Int))) = true then
          j1 a1 k (decide (a1.2.2.2.2.2.1 < (6 : Int))) (0 : Int) (0 : Int) (0 : Int) (0 : Int) (0 : Int) (0 : Int) (0 : Int) y1.1 y1.2.1 y1.2.2.1 y1.2.2.2.1 y1.2.2.2.2.1 y1.2.2.2.2.2.1 y1.2.2.2.2.2.2.1 y1.2.2.2.2.2.2.2.1 y1.2.2.2.2.2.2.2.2.1 y1.2.2.2.2.2.2.2.2.2.1 y1.2.2.2.2.2.2.2.2.2.2.1 y1.2.2.2.2.2.2.2.2.2.2.2.1 y1.2.2.2.2.2.2.2.2.2.2.2.2.1
        else
          j1 a1 k false (0 : Int) (0 : Int) (0 : Int) (0 : Int) (0 : Int) (0 : Int) (0 : Int) y1.1 y1.2.1 y1.2.2.1 y1.2.2.2.1 y1.2.2.2.2.1 y1.2.2.2.2.2.1 y1.2.2.2.2.2.2.1 y1.2.2.2.2.2.2.2.1 y1.2.2.2.2.2.2.2.2.1 y1.2.2.2.2.2.2.2.2.2.1 y1.2.2.2.2.2.2.2.2.2.2.1 y1.2.2.2.2.2.2.2.2.2.2.2.1 y1.2.2.2.2.2.2.2.2.2.2.2.2.1
      else
        j1 a1 k false (0 : Int) (0 : Int) (0 : Int) (0 : Int) (0 : Int) (0 : Int) (0 : Int) y1.1 y1.2.1 y1.2.2.1 y1.2.2.2.1 y1.2.2.2.2.1 y1.2.2.2.2.2.1 y1.2.2.2.2.2.2.1 y1.2.2.2.2.2.2.2.1 y1.2.2.2.2.2.2.2.2.1 y1.2.2.2.2.2.2.2.2.2.1 y1.2.2.2.2.2.2.2.2.2.2.1 y1.2.2.2.2.2.2.2.2.2.2.2.1 y1.2.2.2.2.2.2.2.2.2.2.2.2.1
noncomputable def S : Spec := ⟨ps, rs, .any, none, fun x r => ∃ k, f k x.1 = some r⟩
theorem rl {k a1 r} (e : f k a1 = some r) : S.rel (a1, ()) r := ⟨k, e⟩
theorem f_ok {r k a1} (H : f k a1 = some r) : Gw P 0 (Q r) (Px c0 1 []) (⟨30, [(0, .cv (.agg (encC .any T26b3 a1)))], []⟩) := by
  unfold f at H
  refine Rg V_ok 2 [(0, hb 0), (1, hb 1)] az ?_
  refine Rg V_ok 1 [(1, hb 2)] az ?_
  refine GT (tn [1, 2, 3] 3) (RI ?_)
  refine EV V_ok 0 [] 1 az ?_
  obtain ⟨y1, e2, H⟩ := of_bind H
  refine CL V_ok i_control_own_b6am.at_ (i_control_own_b6am.ok e2) ?_
  refine EV V_ok 0 [] 1 az ?_
  refine RN ?_
  refine GT (tn [1, 2, 3, 4] 10) (RI ?_)
  refine EV V_ok 0 [] 1 az ?_
  obtain ⟨y3, e4, H⟩ := of_bind H
  refine CL V_ok i_control_controller_is_d8b.at_ (i_control_controller_is_d8b.ok e4) ?_
  refine EV V_ok 0 [] 1 az ?_
  rcases of_ite H with ⟨hb5, H⟩ | ⟨hb5, H⟩
  · refine FXO 10 hb5 ?_
    refine EV V_ok 0 [] 5 az ?_
    rcases of_ite H with ⟨hb6, H⟩ | ⟨hb6, H⟩
    · refine FXO 15 hb6 ?_
      refine EV V_ok 0 [] 4 az ?_
      refine RN ?_
      exact Jm (tn [1, 2, 3, 4, 19] 10) (j1_ok H)
    · refine FXO 15 hb6 ?_
      refine EV V_ok 0 [] 4 az ?_
      refine RN ?_
      exact Jm (tn [1, 2, 3, 4, 19] 10) (j1_ok H)
  · refine FXO 10 hb5 ?_
    refine EV V_ok 0 [] 5 az ?_
    refine EV V_ok 0 [] 4 az ?_
    refine RN ?_
    exact Jm (tn [1, 2, 3, 4, 19] 10) (j1_ok H)
theorem fits : Fits P 15 S := fits_of V_ok Go.Proofs.Tryd.func15 (by kernel_rfl) (by decide) (by decide) rfl (fun x r ⟨k, H⟩ => of_G (f_ok H))
end f_control_Tick
/-! ### function 54, (*wayfinder/control.controller).two, where it is called -/
namespace i_control_controller_two_e61
noncomputable def c0 : Code := (Go.Proofs.Tryd.f54.body).getD .skip
noncomputable def V : Env := { tt := tt, Γ := slk [(87, f_slices_Contains_int.S)] }
theorem V_ok : EnvOk P V := { ck := tt_ck, fits := slk_cons f_slices_Contains_int.fits (slk_nil), mixed := mixed }
abbrev R := (Bool) × Unit
noncomputable def s0 (x1 : T26b3.T) : St := ⟨10, [(0, .cv (.one (.ptr 0 0)))], [(.box 13, (encC .any T26b3 x1)), (.box 1, [.ptr 0 0])]⟩
noncomputable def out (x1 : T26b3.T) (r : R) : St := ⟨10, [(2, .cv (.one (.bool r.1)))], [(.box 13, (encC .any T26b3 x1)), (.box 1, [.ptr 0 0])]⟩
abbrev Q (x1 : T26b3.T) (r : R) := CallQ 2 (out x1 r)
noncomputable def f (k : Nat) (x1 : T26b3.T) : Option R :=
  (f_slices_Contains_int.f k [1, 2, 3] x1.2.2.2.2.2.1).bind fun y1 =>
    some (y1.1, ())
theorem f_ok {r k x1} (H : f k x1 = some r) : Gw P 2 (Q x1 r) (Px c0 1 []) (s0 x1) := by
  unfold f at H
  refine Rg V_ok 0 [] az ?_
  obtain ⟨y1, e2, H⟩ := of_bind H
  refine Rg V_ok 0 [(6, hr f_slices_Contains_int.S y1)] (ac (f_slices_Contains_int.rl e2) az) ?_
  obtain rfl := Option.some.inj H
  exact Lq (tn [2] 2)
theorem ok {r k x1} (H : f k x1 = some r) : W P 2 c0 (s0 x1) (CallQ 2 (out x1 r)) := of_G (f_ok H)
theorem at_ : FnAt P 54 10 c0 Go.Proofs.Tryd.f54.results := fnAt Go.Proofs.Tryd.func54 (by kernel_rfl) (by decide) (by kernel_rfl) (by kernel_rfl)
end i_control_controller_two_e61
/-! ### function 53, (*wayfinder/control.controller).is$1, where it is called -/
namespace i_control_controller_is_1_797
noncomputable def c0 : Code := (Go.Proofs.Tryd.f53.body).getD .skip
noncomputable def V : Env := { tt := tt, Γ := slk [] }
theorem V_ok : EnvOk P V := { ck := tt_ck, fits := slk_nil, mixed := mixed }
abbrev R := (Bool) × Unit
noncomputable def s0 (x1 : Int) (x2 : T26b3.T) : St := ⟨16, [(0, .cv (.one (.i x1))), (1, .cv (.one (.ptr 1 0)))], [(.box 13, (encC .any T26b3 x2)), (.box 1, [.ptr 0 0])]⟩
noncomputable def out (x2 : T26b3.T) (r : R) : St := ⟨16, [(3, .cv (.one (.bool r.1)))], [(.box 13, (encC .any T26b3 x2)), (.box 1, [.ptr 0 0])]⟩
abbrev Q (x2 : T26b3.T) (r : R) := CallQ 2 (out x2 r)
noncomputable def f (k : Nat) (x1 : Int) (x2 : T26b3.T) : Option R :=
  if (decide (x1 < (0 : Int))) = true then
    some (true, ())
  else
    some ((decide (x1 ≥ (x2.1.length : Int))), ())
theorem f_ok {r k x1 x2} (H : f k x1 x2 = some r) : Gw P 2 (Q x2 r) (Px c0 1 []) (s0 x1 x2) := by
  unfold f at H
  refine Rg V_ok 0 [] az ?_
  rcases of_ite H with ⟨hb1, H⟩ | ⟨hb1, H⟩
  · refine Rg V_ok 0 [(1, {bv := some true})] (ac hb1 az) ?_
    obtain rfl := Option.some.inj H
    exact Lq (tn [3] 2)
  · refine Rg V_ok 0 [(1, {bv := some false})] (ac hb1 az) ?_
    obtain rfl := Option.some.inj H
    exact Lq (tn [3] 2)
theorem ok {r k x1 x2} (H : f k x1 x2 = some r) : W P 2 c0 (s0 x1 x2) (CallQ 2 (out x2 r)) := of_G (f_ok H)
theorem at_ : FnAt P 53 16 c0 Go.Proofs.Tryd.f53.results := fnAt Go.Proofs.Tryd.func53 (by kernel_rfl) (by decide) (by kernel_rfl) (by kernel_rfl)
end i_control_controller_is_1_797
/-! ### function 88, slices.IndexFunc[[]int,int], where it is called -/
namespace i_slices_IndexFunc_int_a51
noncomputable def c0 : Code := (Go.Proofs.Tryd.f88.body).getD .skip
noncomputable def V : Env := { tt := tt, Γ := slk [] }
theorem V_ok : EnvOk P V := { ck := tt_ck, fits := slk_nil, mixed := mixed }
abbrev R := (Int) × Unit
noncomputable def s0 (x1 : List Int) (x2 : T26b3.T) : St := ⟨19, [(0, .cv (.one (.sl (.int .i64) x1 .any))), (1, .cv (.one (.fn 53 [] [(1, 0)])))], [(.box 13, (encC .any T26b3 x2)), (.box 1, [.ptr 0 0])]⟩
noncomputable def out (x2 : T26b3.T) (r : R) : St := ⟨19, [(4, .cv (.one (.i r.1)))], [(.box 13, (encC .any T26b3 x2)), (.box 1, [.ptr 0 0])]⟩
abbrev Q (x2 : T26b3.T) (r : R) := CallQ 2 (out x2 r)
noncomputable def s1 (x1 : List Int) (x2 : T26b3.T) (p2 p3 : Int) : St := ⟨19, [(0, .cv (.one (.sl (.int .i64) x1 .any))), (1, .cv (.one (.fn 53 [] [(1, 0)]))), (7, .cv (.one (.i p2))), (8, .cv (.one (.i p3)))], [(.box 13, (encC .any T26b3 x2)), (.box 1, [.ptr 0 0])]⟩
noncomputable def b1 (x1 : List Int) (x2 : T26b3.T) (L1 : Int → Int → Option R) (k : Nat) (p2 p3 : Int) : Option R :=
  if (decide (p3 < p2)) = true then
  if 0 ≤ p3 then
    if p3 < (x1.length : Int) then
      (i_control_controller_is_1_797.f k (att (.int .i64) x1 p3) x2).bind fun y4 =>
        if y4.1 = true then
          some (p3, ())
        else
          L1 p2 (IntKind.i64.wrap (p3 + 1))
    else none
  else none
else
  some ((-1), ())
theorem b1_ok {r x1 x2} {L1 : Int → Int → Option R} {m1 : Nat} (hL1 : ∀ p2 p3, L1 p2 p3 = some r → Gw P 2 (Q x2 r) (Pb c0 21 [] m1) (s1 x1 x2 p2 p3)) {k p2 p3} (H : b1 x1 x2 L1 k p2 p3 = some r) : Gw P 2 (Q x2 r) (Px c0 37 [m1]) (s1 x1 x2 p2 p3) := by
  unfold b1 at H
  refine Rg V_ok 0 [] az ?_
  rcases of_ite H with ⟨hb1, H⟩ | ⟨hb1, H⟩
  · refine C1 hb1 ?_
    refine Rg V_ok 0 [] az ?_
    refine GT (tn [0, 1, 5, 7, 8] 2) (RI ?_)
    obtain ⟨n2, H⟩ := of_if H
    obtain ⟨n3, H⟩ := of_if H
    refine EV V_ok 0 [] 5 (ac n2 (ac n3 az)) ?_
    obtain ⟨y4, e5, H⟩ := of_bind H
    refine CL V_ok i_control_controller_is_1_797.at_ (i_control_controller_is_1_797.ok e5) ?_
    refine RN ?_
    rcases of_ite H with ⟨hb6, H⟩ | ⟨hb6, H⟩
    · refine C1 hb6 ?_
      refine Rg V_ok 0 [] az ?_
      obtain rfl := Option.some.inj H
      exact Lq (tn [4] 2)
    · refine C0 hb6 ?_
      refine Rg V_ok 0 [] az ?_
      exact Jm (tn [0, 1, 7, 8] 2) (hL1 p2 (IntKind.i64.wrap (p3 + 1)) H)
  · refine C0 hb1 ?_
    refine Rg V_ok 0 [] az ?_
    obtain rfl := Option.some.inj H
    exact Lq (tn [4] 2)
noncomputable def l1 (x1 : List Int) (x2 : T26b3.T) (k : Nat) : Nat → Int → Int → Option R
  | 0, _, _ => none
  | m + 1, p2, p3 => b1 x1 x2 (l1 x1 x2 k m) k p2 p3
theorem l1_ok {r x1 x2} (k : Nat) : ∀ (m1 : Nat) (p2 : Int) (p3 : Int), l1 x1 x2 k m1 p2 p3 = some r → Gw P 2 (Q x2 r) (Pb c0 21 [] m1) (s1 x1 x2 p2 p3)
  | 0, _, _, H => by cases H
  | m1 + 1, p2, p3, H => SU (by kernel_rfl) (b1_ok (l1_ok k m1) H)
noncomputable def f (k : Nat) (x1 : List Int) (x2 : T26b3.T) : Option R :=
  l1 x1 x2 k k (x1.length : Int) 0
theorem f_ok {r k x1 x2} (H : f k x1 x2 = some r) : Gw P 2 (Q x2 r) (Px c0 1 []) (s0 x1 x2) := by
  unfold f at H
  refine Rg V_ok 0 [] az ?_
  refine Rg V_ok 0 [] az ?_
  exact LP k (Jm (tn [0, 1, 7, 8] 2) (l1_ok k k (x1.length : Int) 0 H))
theorem ok {r k x1 x2} (H : f k x1 x2 = some r) : W P 2 c0 (s0 x1 x2) (CallQ 2 (out x2 r)) := of_G (f_ok H)
theorem at_ : FnAt P 88 19 c0 Go.Proofs.Tryd.f88.results := fnAt Go.Proofs.Tryd.func88 (by kernel_rfl) (by decide) (by kernel_rfl) (by kernel_rfl)
end i_slices_IndexFunc_int_a51
/-! ### function 55, slices.ContainsFunc[[]int,int], where it is called -/
namespace i_slices_ContainsFunc_int_a51
noncomputable def c0 : Code := (Go.Proofs.Tryd.f55.body).getD .skip
noncomputable def V : Env := { tt := tt, Γ := slk [] }
theorem V_ok : EnvOk P V := { ck := tt_ck, fits := slk_nil, mixed := mixed }
abbrev R := (Bool) × Unit
noncomputable def s0 (x1 : List Int) (x2 : T26b3.T) : St := ⟨9, [(0, .cv (.one (.sl (.int .i64) x1 .any))), (1, .cv (.one (.fn 53 [] [(1, 0)])))], [(.box 13, (encC .any T26b3 x2)), (.box 1, [.ptr 0 0])]⟩
noncomputable def out (x2 : T26b3.T) (r : R) : St := ⟨9, [(4, .cv (.one (.bool r.1)))], [(.box 13, (encC .any T26b3 x2)), (.box 1, [.ptr 0 0])]⟩
abbrev Q (x2 : T26b3.T) (r : R) := CallQ 2 (out x2 r)
noncomputable def f (k : Nat) (x1 : List Int) (x2 : T26b3.T) : Option R :=
  (i_slices_IndexFunc_int_a51.f k x1 x2).bind fun y1 =>
    some ((decide (y1.1 ≥ (0 : Int))), ())
theorem f_ok {r k x1 x2} (H : f k x1 x2 = some r) : Gw P 2 (Q x2 r) (Px c0 1 []) (s0 x1 x2) := by
  unfold f at H
  refine Rg V_ok 0 [] az ?_
  refine GT (tn [0, 1] 2) (RI ?_)
  refine EV V_ok 0 [] 2 az ?_
  obtain ⟨y1, e2, H⟩ := of_bind H
  refine CL V_ok i_slices_IndexFunc_int_a51.at_ (i_slices_IndexFunc_int_a51.ok e2) ?_
  refine EV V_ok 0 [] 2 az ?_
  refine RN ?_
  obtain rfl := Option.some.inj H
  exact Lq (tn [4] 2)
theorem ok {r k x1 x2} (H : f k x1 x2 = some r) : W P 2 c0 (s0 x1 x2) (CallQ 2 (out x2 r)) := of_G (f_ok H)
theorem at_ : FnAt P 55 9 c0 Go.Proofs.Tryd.f55.results := fnAt Go.Proofs.Tryd.func55 (by kernel_rfl) (by decide) (by kernel_rfl) (by kernel_rfl)
end i_slices_ContainsFunc_int_a51
/-! ### function 23, (*wayfinder/control.controller).is, where it is called -/
namespace i_control_controller_is_e28
noncomputable def c0 : Code := (Go.Proofs.Tryd.f23.body).getD .skip
noncomputable def V : Env := { tt := tt, Γ := slk [] }
theorem V_ok : EnvOk P V := { ck := tt_ck, fits := slk_nil, mixed := mixed }
abbrev R := (Bool) × Unit
noncomputable def s0 (x1 : T26b3.T) : St := ⟨57, [(0, .cv (.one (.ptr 0 0)))], [(.box 13, (encC .any T26b3 x1))]⟩
noncomputable def out (x1 : T26b3.T) (r : R) : St := ⟨57, [(2, .cv (.one (.bool r.1)))], [(.box 13, (encC .any T26b3 x1))]⟩
abbrev Q (x1 : T26b3.T) (r : R) := CallQ 1 (out x1 r)
noncomputable def s1 (x1 : T26b3.T) (p1 : Bool) : St := ⟨57, [(1, .cv (.one (.ptr 1 0))), (3, .cv (.one (.fn 53 [] [(1, 0)]))), (4, .cv (.one (.bool p1)))], [(.box 13, (encC .any T26b3 x1)), (.box 1, [.ptr 0 0])]⟩
noncomputable def j1 (x1 : T26b3.T) (k : Nat) (p1 : Bool) : Option R :=
  if p1 = true then
  (i_control_controller_is_1_797.f k x1.2.1 x1).bind fun y6 =>
    if (!y6.1) = true then
      (i_slices_ContainsFunc_int_a51.f k x1.2.2.2.2.2.2.2.1 x1).bind fun y9 =>
        if (!y9.1) = true then
          some ((decide ((x1.2.2.2.2.2.2.2.2.1.length : Int) ≤ (100 : Int))), ())
        else
          some (false, ())
    else
      some (false, ())
else
  some (false, ())
theorem j1_ok {r x1} {k p1} (H : j1 x1 k p1 = some r) : Gw P 1 (Q x1 r) (Px c0 15 []) (s1 x1 p1) := by
  unfold j1 at H
  refine GT (tn [1, 3, 4] 2) (RI ?_)
  refine EV V_ok 0 [] 2 az ?_
  rcases of_ite H with ⟨hb5, H⟩ | ⟨hb5, H⟩
  · refine FXO 28 hb5 ?_
    refine EV V_ok 0 [] 6 az ?_
    obtain ⟨y6, e7, H⟩ := of_bind H
    refine CL V_ok i_control_controller_is_1_797.at_ (i_control_controller_is_1_797.ok e7) ?_
    refine EV V_ok 0 [] 3 az ?_
    rcases of_ite H with ⟨hb8, H⟩ | ⟨hb8, H⟩
    · refine FXO 38 hb8 ?_
      refine EV V_ok 0 [] 6 az ?_
      obtain ⟨y9, e10, H⟩ := of_bind H
      refine CL V_ok i_slices_ContainsFunc_int_a51.at_ (i_slices_ContainsFunc_int_a51.ok e10) ?_
      refine EV V_ok 0 [] 3 az ?_
      rcases of_ite H with ⟨hb11, H⟩ | ⟨hb11, H⟩
      · refine FXO 48 hb11 ?_
        refine EV V_ok 0 [] 9 az ?_
        refine RN ?_
        obtain rfl := Option.some.inj H
        exact Lq (tn [2] 1)
      · refine FXO 48 hb11 ?_
        refine EV V_ok 0 [] 9 az ?_
        refine RN ?_
        obtain rfl := Option.some.inj H
        exact Lq (tn [2] 1)
    · refine FXO 38 hb8 ?_
      refine EV V_ok 0 [] 10 az ?_
      refine EV V_ok 0 [] 9 az ?_
      refine RN ?_
      obtain rfl := Option.some.inj H
      exact Lq (tn [2] 1)
  · refine FXO 28 hb5 ?_
    refine EV V_ok 0 [] 10 az ?_
    refine EV V_ok 0 [] 10 az ?_
    refine EV V_ok 0 [] 9 az ?_
    refine RN ?_
    obtain rfl := Option.some.inj H
    exact Lq (tn [2] 1)
noncomputable def f (k : Nat) (x1 : T26b3.T) : Option R :=
  if (x1.2.2.1 == (-1 : Int)) = true then
    (i_control_controller_two_e61.f k x1).bind fun y2 =>
      if (!y2.1) = true then
        j1 x1 k true
      else
        (i_control_controller_is_1_797.f k x1.2.2.1 x1).bind fun y12 =>
          j1 x1 k (!y12.1)
  else
    (i_control_controller_is_1_797.f k x1.2.2.1 x1).bind fun y14 =>
      j1 x1 k (!y14.1)
theorem f_ok {r k x1} (H : f k x1 = some r) : Gw P 1 (Q x1 r) (Px c0 1 []) (s0 x1) := by
  unfold f at H
  refine Rg V_ok 1 [(0, hb 1)] az ?_
  refine Rg V_ok 0 [] az ?_
  refine GT (tn [1, 3] 2) (RI ?_)
  refine EV V_ok 0 [] 7 az ?_
  rcases of_ite H with ⟨hb1, H⟩ | ⟨hb1, H⟩
  · refine FXO 12 hb1 ?_
    refine EV V_ok 0 [] 1 az ?_
    obtain ⟨y2, e3, H⟩ := of_bind H
    refine CL V_ok i_control_controller_two_e61.at_ (i_control_controller_two_e61.ok e3) ?_
    refine EV V_ok 0 [] 3 az ?_
    rcases of_ite H with ⟨hb4, H⟩ | ⟨hb4, H⟩
    · refine FXO 17 hb4 ?_
      refine EV V_ok 0 [] 10 az ?_
      refine RN ?_
      exact Jm (tn [1, 3, 4] 2) (j1_ok H)
    · refine FXO 17 hb4 ?_
      refine EV V_ok 0 [] 6 az ?_
      obtain ⟨y12, e13, H⟩ := of_bind H
      refine CL V_ok i_control_controller_is_1_797.at_ (i_control_controller_is_1_797.ok e13) ?_
      refine EV V_ok 0 [] 3 az ?_
      refine RN ?_
      exact Jm (tn [1, 3, 4] 2) (j1_ok H)
  · refine FXO 12 hb1 ?_
    refine EV V_ok 0 [] 5 az ?_
    refine EV V_ok 0 [] 6 az ?_
    obtain ⟨y14, e15, H⟩ := of_bind H
    refine CL V_ok i_control_controller_is_1_797.at_ (i_control_controller_is_1_797.ok e15) ?_
    refine EV V_ok 0 [] 3 az ?_
    refine RN ?_
    exact Jm (tn [1, 3, 4] 2) (j1_ok H)
theorem ok {r k x1} (H : f k x1 = some r) : W P 1 c0 (s0 x1) (CallQ 1 (out x1 r)) := of_G (f_ok H)
theorem at_ : FnAt P 23 57 c0 Go.Proofs.Tryd.f23.results := fnAt Go.Proofs.Tryd.func23 (by kernel_rfl) (by decide) (by kernel_rfl) (by kernel_rfl)
end i_control_controller_is_e28
/-! ### function 54, (*wayfinder/control.controller).two, where it is called -/
namespace i_control_controller_two_e28
noncomputable def c0 : Code := (Go.Proofs.Tryd.f54.body).getD .skip
noncomputable def V : Env := { tt := tt, Γ := slk [(87, f_slices_Contains_int.S)] }
theorem V_ok : EnvOk P V := { ck := tt_ck, fits := slk_cons f_slices_Contains_int.fits (slk_nil), mixed := mixed }
abbrev R := (Bool) × Unit
noncomputable def s0 (x1 : T26b3.T) : St := ⟨10, [(0, .cv (.one (.ptr 0 0)))], [(.box 13, (encC .any T26b3 x1))]⟩
noncomputable def out (x1 : T26b3.T) (r : R) : St := ⟨10, [(2, .cv (.one (.bool r.1)))], [(.box 13, (encC .any T26b3 x1))]⟩
abbrev Q (x1 : T26b3.T) (r : R) := CallQ 1 (out x1 r)
noncomputable def f (k : Nat) (x1 : T26b3.T) : Option R :=
  (f_slices_Contains_int.f k [1, 2, 3] x1.2.2.2.2.2.1).bind fun y1 =>
    some (y1.1, ())
theorem f_ok {r k x1} (H : f k x1 = some r) : Gw P 1 (Q x1 r) (Px c0 1 []) (s0 x1) := by
  unfold f at H
  refine Rg V_ok 0 [] az ?_
  obtain ⟨y1, e2, H⟩ := of_bind H
  refine Rg V_ok 0 [(6, hr f_slices_Contains_int.S y1)] (ac (f_slices_Contains_int.rl e2) az) ?_
  obtain rfl := Option.some.inj H
  exact Lq (tn [2] 1)
theorem ok {r k x1} (H : f k x1 = some r) : W P 1 c0 (s0 x1) (CallQ 1 (out x1 r)) := of_G (f_ok H)
theorem at_ : FnAt P 54 10 c0 Go.Proofs.Tryd.f54.results := fnAt Go.Proofs.Tryd.func54 (by kernel_rfl) (by decide) (by kernel_rfl) (by kernel_rfl)
end i_control_controller_two_e28
/-! ### function 58, (*wayfinder/control.controller).live$1, where it is called -/
namespace i_control_controller_live_1_5ba
noncomputable def c0 : Code := (Go.Proofs.Tryd.f58.body).getD .skip
noncomputable def V : Env := { tt := tt, Γ := slk [] }
theorem V_ok : EnvOk P V := { ck := tt_ck, fits := slk_nil, mixed := mixed }
abbrev R := (Int) × Unit
noncomputable def s0 (x1 x2 : T814c.T) (x3 : T26b3.T) (x4 : List T814c.T) : St := ⟨17, [(0, .cv (.agg [.i x1.1, .sl T1383 x1.2 .any])), (1, .cv (.agg [.i x2.1, .sl T1383 x2.2 .any]))], [(.box 13, (encC .any T26b3 x3)), (.buf 54 T814c x4, [])]⟩
noncomputable def out (x3 : T26b3.T) (x4 : List T814c.T) (r : R) : St := ⟨17, [(4, .cv (.one (.i r.1)))], [(.box 13, (encC .any T26b3 x3)), (.buf 54 T814c x4, [])]⟩
abbrev Q (x3 : T26b3.T) (x4 : List T814c.T) (r : R) := CallQ 2 (out x3 x4 r)
noncomputable def f (k : Nat) (x1 x2 : T814c.T) (x3 : T26b3.T) (x4 : List T814c.T) : Option R :=
  if (decide (x1.1 < x2.1)) = true then
    some ((-1), ())
  else
    if (decide (x1.1 > x2.1)) = true then
      some ((1 : Int), ())
    else
      some ((0 : Int), ())
theorem f_ok {r k x1 x2 x3 x4} (H : f k x1 x2 x3 x4 = some r) : Gw P 2 (Q x3 x4 r) (Px c0 1 []) (s0 x1 x2 x3 x4) := by
  unfold f at H
  refine Rg V_ok 2 [(0, hb 2), (1, hb 3)] az ?_
  refine Rg V_ok 0 [] az ?_
  rcases of_ite H with ⟨hb1, H⟩ | ⟨hb1, H⟩
  · refine C1 hb1 ?_
    refine Rg V_ok 0 [] az ?_
    obtain rfl := Option.some.inj H
    exact Lq (tn [4] 2)
  · refine C0 hb1 ?_
    refine Rg V_ok 0 [] az ?_
    rcases of_ite H with ⟨hb2, H⟩ | ⟨hb2, H⟩
    · refine C1 hb2 ?_
      refine Rg V_ok 0 [] az ?_
      obtain rfl := Option.some.inj H
      exact Lq (tn [4] 2)
    · refine C0 hb2 ?_
      refine Rg V_ok 0 [] az ?_
      obtain rfl := Option.some.inj H
      exact Lq (tn [4] 2)
theorem ok {r k x1 x2 x3 x4} (H : f k x1 x2 x3 x4 = some r) : W P 2 c0 (s0 x1 x2 x3 x4) (CallQ 2 (out x3 x4 r)) := of_G (f_ok H)
theorem at_ : FnAt P 58 17 c0 Go.Proofs.Tryd.f58.results := fnAt Go.Proofs.Tryd.func58 (by kernel_rfl) (by decide) (by kernel_rfl) (by kernel_rfl)
end i_control_controller_live_1_5ba
/-! ### function 104, slices.insertionSortCmpFunc[wayfinder/api.Ver], where it is called -/
namespace i_slices_insertionSortCmpFunc_Ver_2e0
noncomputable def c0 : Code := (Go.Proofs.Tryd.f104.body).getD .skip
noncomputable def V : Env := { tt := tt, Γ := slk [] }
theorem V_ok : EnvOk P V := { ck := tt_ck, fits := slk_nil, mixed := mixed }
abbrev R := (List T814c.T) × Unit
noncomputable def s0 (x1 x2 : Int) (x3 : T26b3.T) (x4 : List T814c.T) : St := ⟨53, [(0, .cv (.one (.own 1))), (1, .cv (.one (.i x1))), (2, .cv (.one (.i x2))), (3, .cv (.one (.fn 58 [] [])))], [(.box 13, (encC .any T26b3 x3)), (.buf 54 T814c x4, [])]⟩
noncomputable def out (x3 : T26b3.T) (r : R) : St := ⟨53, [], [(.box 13, (encC .any T26b3 x3)), (.buf 54 T814c r.1, [])]⟩
abbrev Q (x3 : T26b3.T) (r : R) := CallQ 2 (out x3 r)
noncomputable def s1 (x1 x2 : Int) (x3 : T26b3.T) (p3 : Int) (p5 : List T814c.T) : St := ⟨53, [(0, .cv (.one (.own 1))), (1, .cv (.one (.i x1))), (2, .cv (.one (.i x2))), (3, .cv (.one (.fn 58 [] []))), (8, .cv (.one (.i p3)))], [(.box 13, (encC .any T26b3 x3)), (.buf 54 T814c p5, [])]⟩
noncomputable def s2 (x1 x2 : Int) (x3 : T26b3.T) (p3 p4 : Int) (p6 : List T814c.T) : St := ⟨53, [(0, .cv (.one (.own 1))), (1, .cv (.one (.i x1))), (2, .cv (.one (.i x2))), (3, .cv (.one (.fn 58 [] []))), (8, .cv (.one (.i p3))), (9, .cv (.one (.i p4)))], [(.box 13, (encC .any T26b3 x3)), (.buf 54 T814c p6, [])]⟩
noncomputable def s3 (x1 x2 : Int) (x3 : T26b3.T) (p3 p4 : Int) (p5 : Bool) (p7 : List T814c.T) : St := ⟨53, [(0, .cv (.one (.own 1))), (1, .cv (.one (.i x1))), (2, .cv (.one (.i x2))), (3, .cv (.one (.fn 58 [] []))), (8, .cv (.one (.i p3))), (9, .cv (.one (.i p4))), (34, .cv (.one (.bool p5)))], [(.box 13, (encC .any T26b3 x3)), (.buf 54 T814c p7, [])]⟩
noncomputable def j3 (x1 x2 : Int) (x3 : T26b3.T) (L1 : Int → List T814c.T → Option R) (L2 : Int → Int → List T814c.T → Option R) (k : Nat) (p3 p4 : Int) (p5 : Bool) (p7 : List T814c.T) : Option R :=
  if p5 = true then
  if 0 ≤ (IntKind.i64.wrap (p4 - 1)) then
    if (IntKind.i64.wrap (p4 - 1)) < (p7.length : Int) then
      if 0 ≤ p4 then
        if p4 < (p7.length : Int) then
          if (IntKind.i64.wrap (p4 - 1)) < ((p7.set p4.toNat (att T814c p7 (IntKind.i64.wrap (p4 - 1)))).length : Int) then
            L2 p3 (IntKind.i64.wrap (p4 - 1)) ((p7.set p4.toNat (att T814c p7 (IntKind.i64.wrap (p4 - 1)))).set (IntKind.i64.wrap (p4 - 1)).toNat (att T814c p7 p4))
          else none
        else none
      else none
    else none
  else none
else
  L1 (IntKind.i64.wrap (p3 + 1)) p7
theorem j3_ok {r x1 x2 x3} {L1 : Int → List T814c.T → Option R} {m1 : Nat} (hL1 : ∀ p3 p5, L1 p3 p5 = some r → Gw P 2 (Q x3 r) (Pb c0 5 [] m1) (s1 x1 x2 x3 p3 p5)) {L2 : Int → Int → List T814c.T → Option R} {m2 : Nat} (hL2 : ∀ p3 p4 p6, L2 p3 p4 p6 = some r → Gw P 2 (Q x3 r) (Pb c0 329 [m1] m2) (s2 x1 x2 x3 p3 p4 p6)) {k p3 p4 p5 p7} (H : j3 x1 x2 x3 L1 L2 k p3 p4 p5 p7 = some r) : Gw P 2 (Q x3 r) (Px c0 3145 [m1, m2]) (s3 x1 x2 x3 p3 p4 p5 p7) := by
  unfold j3 at H
  rcases of_ite H with ⟨hb9, H⟩ | ⟨hb9, H⟩
  · refine C1 hb9 ?_
    obtain ⟨n10, H⟩ := of_if H
    obtain ⟨n11, H⟩ := of_if H
    obtain ⟨n12, H⟩ := of_if H
    obtain ⟨n13, H⟩ := of_if H
    obtain ⟨n14, H⟩ := of_if H
    refine Rg V_ok 0 [] (ac n10 (ac n11 (ac n12 (ac n13 (ac n12 (ac n13 (ac n10 (ac n14 az)))))))) ?_
    refine Rg V_ok 0 [] az ?_
    exact Jm (tn [0, 1, 2, 3, 8, 9] 2) (hL2 p3 (IntKind.i64.wrap (p4 - 1)) ((p7.set p4.toNat (att T814c p7 (IntKind.i64.wrap (p4 - 1)))).set (IntKind.i64.wrap (p4 - 1)).toNat (att T814c p7 p4)) H)
  · refine C0 hb9 ?_
    refine Rg V_ok 0 [] az ?_
    exact Jm (tn [0, 1, 2, 3, 8] 2) (hL1 (IntKind.i64.wrap (p3 + 1)) p7 H)
noncomputable def b2 (x1 x2 : Int) (x3 : T26b3.T) (L1 : Int → List T814c.T → Option R) (L2 : Int → Int → List T814c.T → Option R) (k : Nat) (p3 p4 : Int) (p6 : List T814c.T) : Option R :=
  if (decide (p4 > x1)) = true then
  if 0 ≤ p4 then
    if p4 < (p6.length : Int) then
      if 0 ≤ (IntKind.i64.wrap (p4 - 1)) then
        if (IntKind.i64.wrap (p4 - 1)) < (p6.length : Int) then
          (i_control_controller_live_1_5ba.f k (att T814c p6 p4) (att T814c p6 (IntKind.i64.wrap (p4 - 1))) x3 p6).bind fun y7 =>
            j3 x1 x2 x3 L1 L2 k p3 p4 (decide (y7.1 < (0 : Int))) p6
        else none
      else none
    else none
  else none
else
  j3 x1 x2 x3 L1 L2 k p3 p4 false p6
theorem b2_ok {r x1 x2 x3} {L1 : Int → List T814c.T → Option R} {m1 : Nat} (hL1 : ∀ p3 p5, L1 p3 p5 = some r → Gw P 2 (Q x3 r) (Pb c0 5 [] m1) (s1 x1 x2 x3 p3 p5)) {L2 : Int → Int → List T814c.T → Option R} {m2 : Nat} (hL2 : ∀ p3 p4 p6, L2 p3 p4 p6 = some r → Gw P 2 (Q x3 r) (Pb c0 329 [m1] m2) (s2 x1 x2 x3 p3 p4 p6)) {k p3 p4 p6} (H : b2 x1 x2 x3 L1 L2 k p3 p4 p6 = some r) : Gw P 2 (Q x3 r) (Px c0 585 [m1, m2]) (s2 x1 x2 x3 p3 p4 p6) := by
  unfold b2 at H
  rcases of_ite H with ⟨hb2, H⟩ | ⟨hb2, H⟩
  · obtain ⟨n3, H⟩ := of_if H
    obtain ⟨n4, H⟩ := of_if H
    obtain ⟨n5, H⟩ := of_if H
    obtain ⟨n6, H⟩ := of_if H
    obtain ⟨y7, e8, H⟩ := of_bind H
    let x : Nx := (Px c0 2121 [m1, m2])
    let t0 : St := ⟨53, [(0, .cv (.one (.own 1))), (1, .cv (.one (.i x1))), (2, .cv (.one (.i x2))), (3, .cv (.one (.fn 58 [] []))), (8, .cv (.one (.i p3))), (9, .cv (.one (.i p4)))], [(.box 13, (encC .any T26b3 x3)), (.buf 54 T814c p6, [])]⟩
    refine Jm (x' := x) (τ := t0) (tn [0, 1, 2, 3, 8, 9] 2) ?_
    let Φ := phiX P 2 (Q x3 r) x
    let t1 : St := stpS V x 0 [] 0 (tn [0, 1, 2, 3, 8, 9, 18] 2) t0
    let t2 : St := stpS V x 0 [] 1 (tn [0, 1, 2, 3, 8, 9, 18, 19] 2) t1
    let t3 : St := stpS V x 0 [] 2 (tn [0, 1, 2, 3, 8, 9, 20] 2) t2
    let t4 : St := stpS V x 0 [(3, {bv := some true})] 3 (tn [0, 1, 2, 3, 8, 9, 21] 2) t3
    let t5 : St := stpS V x 0 [] 4 (tn [0, 1, 2, 3, 8, 9, 21, 22] 2) t4
    let t6 : St := stpS V x 0 [] 5 (tn [0, 1, 2, 3, 8, 9, 21, 22, 23] 2) t5
    let t7 : St := stpS V x 0 [] 6 (tn [0, 1, 2, 3, 8, 9, 21, 22, 23, 24] 2) t6
    let t8 : St := stpS V x 0 [] 9 (tn [0, 1, 2, 3, 8, 9, 21, 22, 23, 24, 27] 2) t7
    let t9 : St := stpS V x 0 [] 10 (tn [0, 1, 2, 3, 8, 9, 21, 22, 23, 24, 27, 28] 2) t8
    let t10 : St := stpS V x 0 [] 7 (tn [0, 1, 2, 3, 8, 9, 21, 22, 25, 27, 28] 2) t9
    let t11 : St := stpS V x 0 [] 11 (tn [0, 1, 2, 3, 8, 9, 21, 22, 23, 24, 27, 29] 2) t9
    let t12 : St := stpS V x 0 [] 8 (tn [0, 1, 2, 3, 8, 9, 21, 22, 26, 27, 28] 2) t10
    let t13 : St := stpS V x 0 [] 11 (tn [0, 1, 2, 3, 8, 9, 21, 22, 25, 27, 29] 2) t10
    let t14 : St := stpS V x 0 [] 12 (tn [0, 1, 2, 3, 8, 9, 21, 22, 23, 24, 30] 2) t11
    let t15 : St := stpS V x 0 [] 11 (tn [0, 1, 2, 3, 8, 9, 21, 22, 26, 27, 29] 2) t12
    let t16 : St := stpS V x 0 [] 12 (tn [0, 1, 2, 3, 8, 9, 21, 22, 25, 30] 2) t13
    let t17 : St := stpS V x 0 [] 13 (tn [0, 1, 2, 3, 8, 9, 21, 22, 23, 24, 31] 2) t14
    let t18 : St := stpS V x 0 [] 12 (tn [0, 1, 2, 3, 8, 9, 21, 22, 26, 30] 2) t15
    let t19 : St := stpS V x 0 [] 13 (tn [0, 1, 2, 3, 8, 9, 21, 22, 25, 31] 2) t16
    let t20 : St := stpS V x 0 [] 13 (tn [0, 1, 2, 3, 8, 9, 21, 22, 26, 31] 2) t18
    let t21 : St := clT V.tt x 14 Go.Proofs.Tryd.f58.results (tn [0, 1, 2, 3, 8, 9, 21, 32] 2) t20 (i_control_controller_live_1_5ba.out x3 p6 y7)
    let t22 : St := stpS V x 0 [] 15 (tn [0, 1, 2, 3, 8, 9, 21, 33] 2) t21
    let t23 : St := stpS V x 0 [] 16 (tn [0, 1, 2, 3, 8, 9, 34] 2) t22
    have w23 : WA P 2 (opsX x) 0 (bs 17 131071) Φ t23 := by
      refine WA_nil (by kernel_rfl) (RAn (by kernel_rfl) ?_)
      exact Jm (tn [0, 1, 2, 3, 8, 9, 34] 2) (j3_ok hL1 hL2 H)
    have w22 : WA P 2 (opsX x) 1 (bs 17 65535) Φ t22 := WAs (an (WE V_ok 0 [] 16 (tn [0, 1, 2, 3, 8, 9, 34] 2) az w23) aN)
    have w21 : WA P 2 (opsX x) 2 (bs 17 32767) Φ t21 := WAs (an (WE V_ok 0 [] 15 (tn [0, 1, 2, 3, 8, 9, 21, 33] 2) az w22) aN)
    have w20 : WA P 2 (opsX x) 3 (bs 17 16383) Φ t20 := WAs (an (WC V_ok 14 (tn [0, 1, 2, 3, 8, 9, 21, 32] 2) i_control_controller_live_1_5ba.at_ (i_control_controller_live_1_5ba.ok e8) w21) aN)
    have w19 : WA P 2 (opsX x) 4 (bs 17 16127) Φ t19 := WAs (an (WE V_ok 0 [] 8 (tn [0, 1, 2, 3, 8, 9, 21, 22, 26, 31] 2) az w20) aN)
    have w18 : WA P 2 (opsX x) 4 (bs 17 8191) Φ t18 := WAs (an (WE V_ok 0 [] 13 (tn [0, 1, 2, 3, 8, 9, 21, 22, 26, 31] 2) az w20) aN)
    have w17 : WA P 2 (opsX x) 5 (bs 17 15999) Φ t17 := WAs (an (WE V_ok 0 [] 7 (tn [0, 1, 2, 3, 8, 9, 21, 22, 25, 31] 2) (ac n3 (ac n4 az)) w19) aN)
    have w16 : WA P 2 (opsX x) 5 (bs 17 7935) Φ t16 := WAs (an (WE V_ok 0 [] 8 (tn [0, 1, 2, 3, 8, 9, 21, 22, 26, 30] 2) az w18) (an (WE V_ok 0 [] 13 (tn [0, 1, 2, 3, 8, 9, 21, 22, 25, 31] 2) az w19) aN))
    have w15 : WA P 2 (opsX x) 5 (bs 17 4095) Φ t15 := WAs (an (WE V_ok 0 [] 12 (tn [0, 1, 2, 3, 8, 9, 21, 22, 26, 30] 2) (ac n5 (ac n6 az)) w18) aN)
    have w14 : WA P 2 (opsX x) 6 (bs 17 7807) Φ t14 := WAs (an (WE V_ok 0 [] 7 (tn [0, 1, 2, 3, 8, 9, 21, 22, 25, 30] 2) (ac n3 (ac n4 az)) w16) (an (WE V_ok 0 [] 13 (tn [0, 1, 2, 3, 8, 9, 21, 22, 23, 24, 31] 2) az w17) aN))
    have w13 : WA P 2 (opsX x) 6 (bs 17 3839) Φ t13 := WAs (an (WE V_ok 0 [] 8 (tn [0, 1, 2, 3, 8, 9, 21, 22, 26, 27, 29] 2) az w15) (an (WE V_ok 0 [] 12 (tn [0, 1, 2, 3, 8, 9, 21, 22, 25, 30] 2) (ac n5 (ac n6 az)) w16) aN))
    have w12 : WA P 2 (opsX x) 6 (bs 17 2047) Φ t12 := WAs (an (WE V_ok 0 [] 11 (tn [0, 1, 2, 3, 8, 9, 21, 22, 26, 27, 29] 2) az w15) aN)
    have w11 : WA P 2 (opsX x) 7 (bs 17 3711) Φ t11 := WAs (an (WE V_ok 0 [] 7 (tn [0, 1, 2, 3, 8, 9, 21, 22, 25, 27, 29] 2) (ac n3 (ac n4 az)) w13) (an (WE V_ok 0 [] 12 (tn [0, 1, 2, 3, 8, 9, 21, 22, 23, 24, 30] 2) (ac n5 (ac n6 az)) w14) aN))
    have w10 : WA P 2 (opsX x) 7 (bs 17 1791) Φ t10 := WAs (an (WE V_ok 0 [] 8 (tn [0, 1, 2, 3, 8, 9, 21, 22, 26, 27, 28] 2) az w12) (an (WE V_ok 0 [] 11 (tn [0, 1, 2, 3, 8, 9, 21, 22, 25, 27, 29] 2) az w13) aN))
    have w9 : WA P 2 (opsX x) 8 (bs 17 1663) Φ t9 := WAs (an (WE V_ok 0 [] 7 (tn [0, 1, 2, 3, 8, 9, 21, 22, 25, 27, 28] 2) (ac n3 (ac n4 az)) w10) (an (WE V_ok 0 [] 11 (tn [0, 1, 2, 3, 8, 9, 21, 22, 23, 24, 27, 29] 2) az w11) aN))
    have w8 : WA P 2 (opsX x) 9 (bs 17 639) Φ t8 := WT V_ok [] 10 (tn [0, 1, 2, 3, 8, 9, 21, 22, 23, 24, 27, 28] 2) az w9
    have w7 : WA P 2 (opsX x) 10 (bs 17 127) Φ t7 := WT V_ok [] 9 (tn [0, 1, 2, 3, 8, 9, 21, 22, 23, 24, 27] 2) az w8
    have w6 : WA P 2 (opsX x) 11 (bs 17 63) Φ t6 := WT V_ok [] 6 (tn [0, 1, 2, 3, 8, 9, 21, 22, 23, 24] 2) az w7
    have w5 : WA P 2 (opsX x) 12 (bs 17 31) Φ t5 := WT V_ok [] 5 (tn [0, 1, 2, 3, 8, 9, 21, 22, 23] 2) az w6
    have w4 : WA P 2 (opsX x) 13 (bs 17 15) Φ t4 := WT V_ok [] 4 (tn [0, 1, 2, 3, 8, 9, 21, 22] 2) az w5
    have w3 : WA P 2 (opsX x) 14 (bs 17 7) Φ t3 := WT V_ok [(3, {bv := some true})] 3 (tn [0, 1, 2, 3, 8, 9, 21] 2) (ac hb2 az) w4
    have w2 : WA P 2 (opsX x) 15 (bs 17 3) Φ t2 := WAs (an (WE V_ok 0 [] 2 (tn [0, 1, 2, 3, 8, 9, 20] 2) az w3) aN)
    have w1 : WA P 2 (opsX x) 16 (bs 17 1) Φ t1 := WT V_ok [] 1 (tn [0, 1, 2, 3, 8, 9, 18, 19] 2) az w2
    have w0 : WA P 2 (opsX x) 17 (bs 17 0) Φ t0 := WT V_ok [] 0 (tn [0, 1, 2, 3, 8, 9, 18] 2) az w1
    exact RA V_ok 17 (by kernel_rfl) (by kernel_rfl) (by kernel_rfl) w0
  · let x : Nx := (Px c0 2121 [m1, m2])
    let t0 : St := ⟨53, [(0, .cv (.one (.own 1))), (1, .cv (.one (.i x1))), (2, .cv (.one (.i x2))), (3, .cv (.one (.fn 58 [] []))), (8, .cv (.one (.i p3))), (9, .cv (.one (.i p4)))], [(.box 13, (encC .any T26b3 x3)), (.buf 54 T814c p6, [])]⟩
    refine Jm (x' := x) (τ := t0) (tn [0, 1, 2, 3, 8, 9] 2) ?_
    let Φ := phiX P 2 (Q x3 r) x
    let t1 : St := stpS V x 0 [] 0 (tn [0, 1, 2, 3, 8, 9, 18] 2) t0
    let t2 : St := stpS V x 0 [] 1 (tn [0, 1, 2, 3, 8, 9, 18, 19] 2) t1
    let t3 : St := stpS V x 0 [] 2 (tn [0, 1, 2, 3, 8, 9, 20] 2) t2
    let t4 : St := stpS V x 0 [(3, {bv := some false})] 3 (tn [0, 1, 2, 3, 8, 9, 21] 2) t3
    let t5 : St := stpS V x 0 [] 4 (tn [0, 1, 2, 3, 8, 9, 21, 22] 2) t4
    let t6 : St := stpS V x 0 [] 5 (tn [0, 1, 2, 3, 8, 9, 21, 22, 23] 2) t5
    let t7 : St := stpS V x 0 [] 6 (tn [0, 1, 2, 3, 8, 9, 21, 22, 23, 24] 2) t6
    let t8 : St := stpS V x 0 [] 9 (tn [0, 1, 2, 3, 8, 9, 21, 22, 23, 24, 27] 2) t7
    let t9 : St := stpS V x 0 [] 10 (tn [0, 1, 2, 3, 8, 9, 21, 22, 23, 24, 27, 28] 2) t8
    let t10 : St := stpS V x 0 [] 7 (tn [0, 1, 2, 3, 8, 9, 21, 22, 25, 27, 28] 2) t9
    let t11 : St := stpS V x 0 [] 11 (tn [0, 1, 2, 3, 8, 9, 21, 22, 23, 24, 27, 29] 2) t9
    let t12 : St := stpS V x 0 [] 8 (tn [0, 1, 2, 3, 8, 9, 21, 22, 26, 27, 28] 2) t10
    let t13 : St := stpS V x 0 [] 11 (tn [0, 1, 2, 3, 8, 9, 21, 22, 25, 27, 29] 2) t10
    let t14 : St := stpS V x 0 [] 12 (tn [0, 1, 2, 3, 8, 9, 21, 22, 23, 24, 30] 2) t11
    let t15 : St := stpS V x 0 [] 11 (tn [0, 1, 2, 3, 8, 9, 21, 22, 26, 27, 29] 2) t12
    let t16 : St := stpS V x 0 [] 12 (tn [0, 1, 2, 3, 8, 9, 21, 22, 25, 30] 2) t13
    let t17 : St := stpS V x 0 [] 13 (tn [0, 1, 2, 3, 8, 9, 21, 22, 23, 24, 31] 2) t14
    let t18 : St := stpS V x 0 [] 12 (tn [0, 1, 2, 3, 8, 9, 21, 22, 26, 30] 2) t15
    let t19 : St := stpS V x 0 [] 13 (tn [0, 1, 2, 3, 8, 9, 21, 22, 25, 31] 2) t16
    let t20 : St := stpS V x 0 [] 13 (tn [0, 1, 2, 3, 8, 9, 21, 22, 26, 31] 2) t18
    let t21 : St := stpS V x 0 [] 14 (tn [0, 1, 2, 3, 8, 9, 21, 32] 2) t20
    let t22 : St := stpS V x 0 [] 15 (tn [0, 1, 2, 3, 8, 9, 21, 33] 2) t21
    let t23 : St := stpS V x 0 [] 16 (tn [0, 1, 2, 3, 8, 9, 34] 2) t22
    have w23 : WA P 2 (opsX x) 0 (bs 17 131071) Φ t23 := by
      refine WA_nil (by kernel_rfl) (RAn (by kernel_rfl) ?_)
      exact Jm (tn [0, 1, 2, 3, 8, 9, 34] 2) (j3_ok hL1 hL2 H)
    have w22 : WA P 2 (opsX x) 1 (bs 17 65535) Φ t22 := WAs (an (WE V_ok 0 [] 16 (tn [0, 1, 2, 3, 8, 9, 34] 2) az w23) aN)
    have w21 : WA P 2 (opsX x) 2 (bs 17 32767) Φ t21 := WAs (an (WE V_ok 0 [] 15 (tn [0, 1, 2, 3, 8, 9, 21, 33] 2) az w22) aN)
    have w20 : WA P 2 (opsX x) 3 (bs 17 16383) Φ t20 := WAs (an (WE V_ok 0 [] 14 (tn [0, 1, 2, 3, 8, 9, 21, 32] 2) az w21) aN)
    have w19 : WA P 2 (opsX x) 4 (bs 17 16127) Φ t19 := WAs (an (WE V_ok 0 [] 8 (tn [0, 1, 2, 3, 8, 9, 21, 22, 26, 31] 2) az w20) aN)
    have w18 : WA P 2 (opsX x) 4 (bs 17 8191) Φ t18 := WAs (an (WE V_ok 0 [] 13 (tn [0, 1, 2, 3, 8, 9, 21, 22, 26, 31] 2) az w20) aN)
    have w17 : WA P 2 (opsX x) 5 (bs 17 15999) Φ t17 := WAs (an (WE V_ok 0 [] 7 (tn [0, 1, 2, 3, 8, 9, 21, 22, 25, 31] 2) az w19) aN)
    have w16 : WA P 2 (opsX x) 5 (bs 17 7935) Φ t16 := WAs (an (WE V_ok 0 [] 8 (tn [0, 1, 2, 3, 8, 9, 21, 22, 26, 30] 2) az w18) (an (WE V_ok 0 [] 13 (tn [0, 1, 2, 3, 8, 9, 21, 22, 25, 31] 2) az w19) aN))
    have w15 : WA P 2 (opsX x) 5 (bs 17 4095) Φ t15 := WAs (an (WE V_ok 0 [] 12 (tn [0, 1, 2, 3, 8, 9, 21, 22, 26, 30] 2) az w18) aN)
    have w14 : WA P 2 (opsX x) 6 (bs 17 7807) Φ t14 := WAs (an (WE V_ok 0 [] 7 (tn [0, 1, 2, 3, 8, 9, 21, 22, 25, 30] 2) az w16) (an (WE V_ok 0 [] 13 (tn [0, 1, 2, 3, 8, 9, 21, 22, 23, 24, 31] 2) az w17) aN))
    have w13 : WA P 2 (opsX x) 6 (bs 17 3839) Φ t13 := WAs (an (WE V_ok 0 [] 8 (tn [0, 1, 2, 3, 8, 9, 21, 22, 26, 27, 29] 2) az w15) (an (WE V_ok 0 [] 12 (tn [0, 1, 2, 3, 8, 9, 21, 22, 25, 30] 2) az w16) aN))
    have w12 : WA P 2 (opsX x) 6 (bs 17 2047) Φ t12 := WAs (an (WE V_ok 0 [] 11 (tn [0, 1, 2, 3, 8, 9, 21, 22, 26, 27, 29] 2) az w15) aN)
    have w11 : WA P 2 (opsX x) 7 (bs 17 3711) Φ t11 := WAs (an (WE V_ok 0 [] 7 (tn [0, 1, 2, 3, 8, 9, 21, 22, 25, 27, 29] 2) az w13) (an (WE V_ok 0 [] 12 (tn [0, 1, 2, 3, 8, 9, 21, 22, 23, 24, 30] 2) az w14) aN))
    have w10 : WA P 2 (opsX x) 7 (bs 17 1791) Φ t10 := WAs (an (WE V_ok 0 [] 8 (tn [0, 1, 2, 3, 8, 9, 21, 22, 26, 27, 28] 2) az w12) (an (WE V_ok 0 [] 11 (tn [0, 1, 2, 3, 8, 9, 21, 22, 25, 27, 29] 2) az w13) aN))
    have w9 : WA P 2 (opsX x) 8 (bs 17 1663) Φ t9 := WAs (an (WE V_ok 0 [] 7 (tn [0, 1, 2, 3, 8, 9, 21, 22, 25, 27, 28] 2) az w10) (an (WE V_ok 0 [] 11 (tn [0, 1, 2, 3, 8, 9, 21, 22, 23, 24, 27, 29] 2) az w11) aN))
    have w8 : WA P 2 (opsX x) 9 (bs 17 639) Φ t8 := WT V_ok [] 10 (tn [0, 1, 2, 3, 8, 9, 21, 22, 23, 24, 27, 28] 2) az w9
    have w7 : WA P 2 (opsX x) 10 (bs 17 127) Φ t7 := WT V_ok [] 9 (tn [0, 1, 2, 3, 8, 9, 21, 22, 23, 24, 27] 2) az w8
    have w6 : WA P 2 (opsX x) 11 (bs 17 63) Φ t6 := WT V_ok [] 6 (tn [0, 1, 2, 3, 8, 9, 21, 22, 23, 24] 2) az w7
    have w5 : WA P 2 (opsX x) 12 (bs 17 31) Φ t5 := WT V_ok [] 5 (tn [0, 1, 2, 3, 8, 9, 21, 22, 23] 2) az w6
    have w4 : WA P 2 (opsX x) 13 (bs 17 15) Φ t4 := WT V_ok [] 4 (tn [0, 1, 2, 3, 8, 9, 21, 22] 2) az w5
    have w3 : WA P 2 (opsX x) 14 (bs 17 7) Φ t3 := WT V_ok [(3, {bv := some false})] 3 (tn [0, 1, 2, 3, 8, 9, 21] 2) (ac hb2 az) w4
    have w2 : WA P 2 (opsX x) 15 (bs 17 3) Φ t2 := WAs (an (WE V_ok 0 [] 2 (tn [0, 1, 2, 3, 8, 9, 20] 2) az w3) aN)
    have w1 : WA P 2 (opsX x) 16 (bs 17 1) Φ t1 := WT V_ok [] 1 (tn [0, 1, 2, 3, 8, 9, 18, 19] 2) az w2
    have w0 : WA P 2 (opsX x) 17 (bs 17 0) Φ t0 := WT V_ok [] 0 (tn [0, 1, 2, 3, 8, 9, 18] 2) az w1
    exact RA V_ok 17 (by kernel_rfl) (by kernel_rfl) (by kernel_rfl) w0
noncomputable def l2 (x1 x2 : Int) (x3 : T26b3.T) (L1 : Int → List T814c.T → Option R) (k : Nat) : Nat → Int → Int → List T814c.T → Option R
  | 0, _, _, _ => none
  | m + 1, p3, p4, p6 => b2 x1 x2 x3 L1 (l2 x1 x2 x3 L1 k m) k p3 p4 p6
theorem l2_ok {r x1 x2 x3} {L1 : Int → List T814c.T → Option R} {m1 : Nat} (hL1 : ∀ p3 p5, L1 p3 p5 = some r → Gw P 2 (Q x3 r) (Pb c0 5 [] m1) (s1 x1 x2 x3 p3 p5)) (k : Nat) : ∀ (m2 : Nat) (p3 p4 : Int) (p6 : List T814c.T), l2 x1 x2 x3 L1 k m2 p3 p4 p6 = some r → Gw P 2 (Q x3 r) (Pb c0 329 [m1] m2) (s2 x1 x2 x3 p3 p4 p6)
  | 0, _, _, _, H => by cases H
  | m2 + 1, p3, p4, p6, H => SU (by kernel_rfl) (b2_ok hL1 (l2_ok hL1 k m2) H)
noncomputable def b1 (x1 x2 : Int) (x3 : T26b3.T) (L1 : Int → List T814c.T → Option R) (k : Nat) (p3 : Int) (p5 : List T814c.T) : Option R :=
  if (decide (p3 < x2)) = true then
  l2 x1 x2 x3 L1 k k p3 p3 p5
else
  some (p5, ())
theorem b1_ok {r x1 x2 x3} {L1 : Int → List T814c.T → Option R} {m1 : Nat} (hL1 : ∀ p3 p5, L1 p3 p5 = some r → Gw P 2 (Q x3 r) (Pb c0 5 [] m1) (s1 x1 x2 x3 p3 p5)) {k p3 p5} (H : b1 x1 x2 x3 L1 k p3 p5 = some r) : Gw P 2 (Q x3 r) (Px c0 9 [m1]) (s1 x1 x2 x3 p3 p5) := by
  unfold b1 at H
  refine Rg V_ok 0 [] az ?_
  rcases of_ite H with ⟨hb1, H⟩ | ⟨hb1, H⟩
  · refine C1 hb1 ?_
    refine Rg V_ok 0 [] az ?_
    exact LP k (Jm (tn [0, 1, 2, 3, 8, 9] 2) (l2_ok hL1 k k p3 p3 p5 H))
  · refine C0 hb1 ?_
    obtain rfl := Option.some.inj H
    exact Lq (tn [] 2)
noncomputable def l1 (x1 x2 : Int) (x3 : T26b3.T) (k : Nat) : Nat → Int → List T814c.T → Option R
  | 0, _, _ => none
  | m + 1, p3, p5 => b1 x1 x2 x3 (l1 x1 x2 x3 k m) k p3 p5
theorem l1_ok {r x1 x2 x3} (k : Nat) : ∀ (m1 : Nat) (p3 : Int) (p5 : List T814c.T), l1 x1 x2 x3 k m1 p3 p5 = some r → Gw P 2 (Q x3 r) (Pb c0 5 [] m1) (s1 x1 x2 x3 p3 p5)
  | 0, _, _, H => by cases H
  | m1 + 1, p3, p5, H => SU (by kernel_rfl) (b1_ok (l1_ok k m1) H)
noncomputable def f (k : Nat) (x1 x2 : Int) (x3 : T26b3.T) (x4 : List T814c.T) : Option R :=
  l1 x1 x2 x3 k k (IntKind.i64.wrap (x1 + 1)) x4
theorem f_ok {r k x1 x2 x3 x4} (H : f k x1 x2 x3 x4 = some r) : Gw P 2 (Q x3 r) (Px c0 1 []) (s0 x1 x2 x3 x4) := by
  unfold f at H
  refine Rg V_ok 0 [] az ?_
  exact LP k (Jm (tn [0, 1, 2, 3, 8] 2) (l1_ok k k (IntKind.i64.wrap (x1 + 1)) x4 H))
theorem ok {r k x1 x2 x3 x4} (H : f k x1 x2 x3 x4 = some r) : W P 2 c0 (s0 x1 x2 x3 x4) (CallQ 2 (out x3 r)) := of_G (f_ok H)
theorem at_ : FnAt P 104 53 c0 Go.Proofs.Tryd.f104.results := fnAt Go.Proofs.Tryd.func104 (by kernel_rfl) (by decide) (by kernel_rfl) (by kernel_rfl)
end i_slices_insertionSortCmpFunc_Ver_2e0
/-! ### function 89, slices.stableCmpFunc[wayfinder/api.Ver], where it is called -/
namespace i_slices_stableCmpFunc_Ver_2ec
noncomputable def c0 : Code := (Go.Proofs.Tryd.f89.body).getD .skip
noncomputable def V : Env := { tt := tt, Γ := slk [] }
theorem V_ok : EnvOk P V := { ck := tt_ck, fits := slk_nil, mixed := mixed }
abbrev R := (List T814c.T) × Unit
noncomputable def s0 (x1 : Int) (x2 : T26b3.T) (x3 : List T814c.T) : St := ⟨63, [(0, .cv (.one (.own 1))), (1, .cv (.one (.i x1))), (2, .cv (.one (.fn 58 [] [])))], [(.box 13, (encC .any T26b3 x2)), (.buf 54 T814c x3, [])]⟩
noncomputable def out (x2 : T26b3.T) (r : R) : St := ⟨63, [], [(.box 13, (encC .any T26b3 x2)), (.buf 54 T814c r.1, [])]⟩
abbrev Q (x2 : T26b3.T) (r : R) := CallQ 2 (out x2 r)
noncomputable def s1 (x1 : Int) (x2 : T26b3.T) (p2 p3 p4 : Int) (p6 : List T814c.T) : St := ⟨63, [(0, .cv (.one (.own 1))), (1, .cv (.one (.i x1))), (2, .cv (.one (.fn 58 [] []))), (6, .cv (.one (.i p2))), (7, .cv (.one (.i p3))), (8, .cv (.one (.i p4)))], [(.box 13, (encC .any T26b3 x2)), (.buf 54 T814c p6, [])]⟩
noncomputable def s2 (x1 : Int) (x2 : T26b3.T) (p2 : Int) (p4 : List T814c.T) : St := ⟨63, [(0, .cv (.one (.own 1))), (1, .cv (.one (.i x1))), (2, .cv (.one (.fn 58 [] []))), (6, .cv (.one (.i p2)))], [(.box 13, (encC .any T26b3 x2)), (.buf 54 T814c p4, [])]⟩
noncomputable def s3 (x1 : Int) (x2 : T26b3.T) (p2 p3 p4 : Int) (p6 : List T814c.T) : St := ⟨63, [(0, .cv (.one (.own 1))), (1, .cv (.one (.i x1))), (2, .cv (.one (.fn 58 [] []))), (6, .cv (.one (.i p2))), (7, .cv (.one (.i p3))), (8, .cv (.one (.i p4)))], [(.box 13, (encC .any T26b3 x2)), (.buf 54 T814c p6, [])]⟩
noncomputable def b3 (x1 : Int) (x2 : T26b3.T) (L2 : Int → List T814c.T → Option R) (L3 : Int → Int → Int → List T814c.T → Option R) (k : Nat) (p2 p3 p4 : Int) (p6 : List T814c.T) : Option R :=
  if (decide (p4 ≤ x1)) = true then
  none
else
  if (decide ((IntKind.i64.wrap (p3 + p2)) < x1)) = true then
    none
  else
    L2 (IntKind.i64.wrap (p2 * 2)) p6
theorem b3_ok {r x1 x2} {L2 : Int → List T814c.T → Option R} {m2 : Nat} (hL2 : ∀ p2 p4, L2 p2 p4 = some r → Gw P 2 (Q x2 r) (Pb c0 47 [] m2) (s2 x1 x2 p2 p4)) {L3 : Int → Int → Int → List T814c.T → Option R} {m3 : Nat} (hL3 : ∀ p2 p3 p4 p6, L3 p2 p3 p4 p6 = some r → Gw P 2 (Q x2 r) (Pb c0 2383 [m2] m3) (s3 x1 x2 p2 p3 p4 p6)) {k p2 p3 p4 p6} (H : b3 x1 x2 L2 L3 k p2 p3 p4 p6 = some r) : Gw P 2 (Q x2 r) (Px c0 4431 [m2, m3]) (s3 x1 x2 p2 p3 p4 p6) := by
  unfold b3 at H
  refine Rg V_ok 0 [] az ?_
  rcases of_ite H with ⟨hb7, H⟩ | ⟨hb7, H⟩
  · refine C1 hb7 ?_
    cases H
  · refine C0 hb7 ?_
    refine Rg V_ok 0 [] az ?_
    refine Rg V_ok 0 [] az ?_
    rcases of_ite H with ⟨hb8, H⟩ | ⟨hb8, H⟩
    · refine C1 hb8 ?_
      cases H
    · refine C0 hb8 ?_
      refine Rg V_ok 0 [] az ?_
      exact Jm (tn [0, 1, 2, 6] 2) (hL2 (IntKind.i64.wrap (p2 * 2)) p6 H)
noncomputable def l3 (x1 : Int) (x2 : T26b3.T) (L2 : Int → List T814c.T → Option R) (k : Nat) : Nat → Int → Int → Int → List T814c.T → Option R
  | 0, _, _, _, _ => none
  | m + 1, p2, p3, p4, p6 => b3 x1 x2 L2 (l3 x1 x2 L2 k m) k p2 p3 p4 p6
theorem l3_ok {r x1 x2} {L2 : Int → List T814c.T → Option R} {m2 : Nat} (hL2 : ∀ p2 p4, L2 p2 p4 = some r → Gw P 2 (Q x2 r) (Pb c0 47 [] m2) (s2 x1 x2 p2 p4)) (k : Nat) : ∀ (m3 : Nat) (p2 p3 p4 : Int) (p6 : List T814c.T), l3 x1 x2 L2 k m3 p2 p3 p4 p6 = some r → Gw P 2 (Q x2 r) (Pb c0 2383 [m2] m3) (s3 x1 x2 p2 p3 p4 p6)
  | 0, _, _, _, _, H => by cases H
  | m3 + 1, p2, p3, p4, p6, H => SU (by kernel_rfl) (b3_ok hL2 (l3_ok hL2 k m3) H)
noncomputable def b2 (x1 : Int) (x2 : T26b3.T) (L2 : Int → List T814c.T → Option R) (k : Nat) (p2 : Int) (p4 : List T814c.T) : Option R :=
  if (decide (p2 < x1)) = true then
  l3 x1 x2 L2 k k p2 0 (IntKind.i64.wrap (2 * p2)) p4
else
  some (p4, ())
theorem b2_ok {r x1 x2} {L2 : Int → List T814c.T → Option R} {m2 : Nat} (hL2 : ∀ p2 p4, L2 p2 p4 = some r → Gw P 2 (Q x2 r) (Pb c0 47 [] m2) (s2 x1 x2 p2 p4)) {k p2 p4} (H : b2 x1 x2 L2 k p2 p4 = some r) : Gw P 2 (Q x2 r) (Px c0 79 [m2]) (s2 x1 x2 p2 p4) := by
  unfold b2 at H
  refine Rg V_ok 0 [] az ?_
  rcases of_ite H with ⟨hb6, H⟩ | ⟨hb6, H⟩
  · refine C1 hb6 ?_
    refine Rg V_ok 0 [] az ?_
    exact LP k (Jm (tn [0, 1, 2, 6, 7, 8] 2) (l3_ok hL2 k k p2 0 (IntKind.i64.wrap (2 * p2)) p4 H))
  · refine C0 hb6 ?_
    obtain rfl := Option.some.inj H
    exact Lq (tn [] 2)
noncomputable def l2 (x1 : Int) (x2 : T26b3.T) (k : Nat) : Nat → Int → List T814c.T → Option R
  | 0, _, _ => none
  | m + 1, p2, p4 => b2 x1 x2 (l2 x1 x2 k m) k p2 p4
theorem l2_ok {r x1 x2} (k : Nat) : ∀ (m2 : Nat) (p2 : Int) (p4 : List T814c.T), l2 x1 x2 k m2 p2 p4 = some r → Gw P 2 (Q x2 r) (Pb c0 47 [] m2) (s2 x1 x2 p2 p4)
  | 0, _, _, H => by cases H
  | m2 + 1, p2, p4, H => SU (by kernel_rfl) (b2_ok (l2_ok k m2) H)
noncomputable def b1 (x1 : Int) (x2 : T26b3.T) (L1 : Int → Int → Int → List T814c.T → Option R) (k : Nat) (p2 p3 p4 : Int) (p6 : List T814c.T) : Option R :=
  if (decide (p4 ≤ x1)) = true then
  (i_slices_insertionSortCmpFunc_Ver_2e0.f k p3 p4 x2 p6).bind fun y2 =>
    L1 p2 p4 (IntKind.i64.wrap (p4 + p2)) y2.1
else
  (i_slices_insertionSortCmpFunc_Ver_2e0.f k p3 x1 x2 p6).bind fun y4 =>
    l2 x1 x2 k k p2 y4.1
theorem b1_ok {r x1 x2} {L1 : Int → Int → Int → List T814c.T → Option R} {m1 : Nat} (hL1 : ∀ p2 p3 p4 p6, L1 p2 p3 p4 p6 = some r → Gw P 2 (Q x2 r) (Pb c0 19 [] m1) (s1 x1 x2 p2 p3 p4 p6)) {k p2 p3 p4 p6} (H : b1 x1 x2 L1 k p2 p3 p4 p6 = some r) : Gw P 2 (Q x2 r) (Px c0 35 [m1]) (s1 x1 x2 p2 p3 p4 p6) := by
  unfold b1 at H
  refine Rg V_ok 0 [] az ?_
  rcases of_ite H with ⟨hb1, H⟩ | ⟨hb1, H⟩
  · refine C1 hb1 ?_
    refine GT (tn [0, 1, 2, 6, 7, 8] 2) (RI ?_)
    refine EV V_ok 0 [] 4 az ?_
    obtain ⟨y2, e3, H⟩ := of_bind H
    refine CL V_ok i_slices_insertionSortCmpFunc_Ver_2e0.at_ (i_slices_insertionSortCmpFunc_Ver_2e0.ok e3) ?_
    refine RN ?_
    refine Rg V_ok 0 [] az ?_
    refine Rg V_ok 0 [] az ?_
    exact Jm (tn [0, 1, 2, 6, 7, 8] 2) (hL1 p2 p4 (IntKind.i64.wrap (p4 + p2)) y2.1 H)
  · refine C0 hb1 ?_
    refine GT (tn [0, 1, 2, 6, 7] 2) (RI ?_)
    refine EV V_ok 0 [] 4 az ?_
    obtain ⟨y4, e5, H⟩ := of_bind H
    refine CL V_ok i_slices_insertionSortCmpFunc_Ver_2e0.at_ (i_slices_insertionSortCmpFunc_Ver_2e0.ok e5) ?_
    refine RN ?_
    exact LP k (Jm (tn [0, 1, 2, 6] 2) (l2_ok k k p2 y4.1 H))
noncomputable def l1 (x1 : Int) (x2 : T26b3.T) (k : Nat) : Nat → Int → Int → Int → List T814c.T → Option R
  | 0, _, _, _, _ => none
  | m + 1, p2, p3, p4, p6 => b1 x1 x2 (l1 x1 x2 k m) k p2 p3 p4 p6
theorem l1_ok {r x1 x2} (k : Nat) : ∀ (m1 : Nat) (p2 p3 p4 : Int) (p6 : List T814c.T), l1 x1 x2 k m1 p2 p3 p4 p6 = some r → Gw P 2 (Q x2 r) (Pb c0 19 [] m1) (s1 x1 x2 p2 p3 p4 p6)
  | 0, _, _, _, _, H => by cases H
  | m1 + 1, p2, p3, p4, p6, H => SU (by kernel_rfl) (b1_ok (l1_ok k m1) H)
noncomputable def f (k : Nat) (x1 : Int) (x2 : T26b3.T) (x3 : List T814c.T) : Option R :=
  l1 x1 x2 k k 20 0 20 x3
theorem f_ok {r k x1 x2 x3} (H : f k x1 x2 x3 = some r) : Gw P 2 (Q x2 r) (Px c0 1 []) (s0 x1 x2 x3) := by
  unfold f at H
  refine Rg V_ok 0 [] az ?_
  refine Rg V_ok 0 [] az ?_
  exact LP k (Jm (tn [0, 1, 2, 6, 7, 8] 2) (l1_ok k k 20 0 20 x3 H))
theorem ok {r k x1 x2 x3} (H : f k x1 x2 x3 = some r) : W P 2 c0 (s0 x1 x2 x3) (CallQ 2 (out x2 r)) := of_G (f_ok H)
theorem at_ : FnAt P 89 63 c0 Go.Proofs.Tryd.f89.results := fnAt Go.Proofs.Tryd.func89 (by kernel_rfl) (by decide) (by kernel_rfl) (by kernel_rfl)
end i_slices_stableCmpFunc_Ver_2ec
/-! ### function 57, slices.SortStableFunc[[]wayfinder/api.Ver,wayfinder/api.Ver], where it is called -/
namespace i_slices_SortStableFunc_Ver_885
noncomputable def c0 : Code := (Go.Proofs.Tryd.f57.body).getD .skip
noncomputable def V : Env := { tt := tt, Γ := slk [] }
theorem V_ok : EnvOk P V := { ck := tt_ck, fits := slk_nil, mixed := mixed }
abbrev R := (List T814c.T) × Unit
noncomputable def s0 (x1 : T26b3.T) (x2 : List T814c.T) : St := ⟨9, [(0, .cv (.one (.own 1))), (1, .cv (.one (.fn 58 [] [])))], [(.box 13, (encC .any T26b3 x1)), (.buf 54 T814c x2, [])]⟩
noncomputable def out (x1 : T26b3.T) (r : R) : St := ⟨9, [], [(.box 13, (encC .any T26b3 x1)), (.buf 54 T814c r.1, [])]⟩
abbrev Q (x1 : T26b3.T) (r : R) := CallQ 2 (out x1 r)
noncomputable def f (k : Nat) (x1 : T26b3.T) (x2 : List T814c.T) : Option R :=
  (i_slices_stableCmpFunc_Ver_2ec.f k (x2.length : Int) x1 x2).bind fun y1 =>
    some (y1.1, ())
theorem f_ok {r k x1 x2} (H : f k x1 x2 = some r) : Gw P 2 (Q x1 r) (Px c0 1 []) (s0 x1 x2) := by
  unfold f at H
  refine GT (tn [0, 1] 2) (RI ?_)
  refine EV V_ok 0 [] 4 az ?_
  obtain ⟨y1, e2, H⟩ := of_bind H
  refine CL V_ok i_slices_stableCmpFunc_Ver_2ec.at_ (i_slices_stableCmpFunc_Ver_2ec.ok e2) ?_
  refine RN ?_
  obtain rfl := Option.some.inj H
  exact Lq (tn [] 2)
theorem ok {r k x1 x2} (H : f k x1 x2 = some r) : W P 2 c0 (s0 x1 x2) (CallQ 2 (out x1 r)) := of_G (f_ok H)
theorem at_ : FnAt P 57 9 c0 Go.Proofs.Tryd.f57.results := fnAt Go.Proofs.Tryd.func57 (by kernel_rfl) (by decide) (by kernel_rfl) (by kernel_rfl)
end i_slices_SortStableFunc_Ver_885
/-! ### function 59, (*wayfinder/control.controller).flips, where it is called -/
namespace i_control_controller_flips_ebc
noncomputable def c0 : Code := (Go.Proofs.Tryd.f59.body).getD .skip
noncomputable def V : Env := { tt := tt, Γ := slk [] }
theorem V_ok : EnvOk P V := { ck := tt_ck, fits := slk_nil, mixed := mixed }
abbrev R := (Bool) × Unit
noncomputable def s0 (x1 : T26b3.T) (x2 : List T814c.T) : St := ⟨17, [(0, .cv (.one (.ptr 0 0)))], [(.box 13, (encC .any T26b3 x1)), (.buf 54 T814c x2, [])]⟩
noncomputable def out (x1 : T26b3.T) (x2 : List T814c.T) (r : R) : St := ⟨17, [(2, .cv (.one (.bool r.1)))], [(.box 13, (encC .any T26b3 x1)), (.buf 54 T814c x2, [])]⟩
abbrev Q (x1 : T26b3.T) (x2 : List T814c.T) (r : R) := CallQ 2 (out x1 x2 r)
noncomputable def f (k : Nat) (x1 : T26b3.T) (x2 : List T814c.T) : Option R :=
  if (x1.2.2.2.2.2.1 == (2 : Int)) = true then
    some (true, ())
  else
    some ((x1.2.2.2.2.2.1 == (3 : Int)), ())
theorem f_ok {r k x1 x2} (H : f k x1 x2 = some r) : Gw P 2 (Q x1 x2 r) (Px c0 1 []) (s0 x1 x2) := by
  unfold f at H
  refine Rg V_ok 0 [] az ?_
  rcases of_ite H with ⟨hb1, H⟩ | ⟨hb1, H⟩
  · refine Rg V_ok 0 [(5, {bv := some true})] (ac hb1 az) ?_
    obtain rfl := Option.some.inj H
    exact Lq (tn [2] 2)
  · refine Rg V_ok 0 [(5, {bv := some false})] (ac hb1 az) ?_
    obtain rfl := Option.some.inj H
    exact Lq (tn [2] 2)
theorem ok {r k x1 x2} (H : f k x1 x2 = some r) : W P 2 c0 (s0 x1 x2) (CallQ 2 (out x1 x2 r)) := of_G (f_ok H)
theorem at_ : FnAt P 59 17 c0 Go.Proofs.Tryd.f59.results := fnAt Go.Proofs.Tryd.func59 (by kernel_rfl) (by decide) (by kernel_rfl) (by kernel_rfl)
end i_control_controller_flips_ebc
/-! ### function 59, (*wayfinder/control.controller).flips, where it is called -/
namespace i_control_controller_flips_e28
noncomputable def c0 : Code := (Go.Proofs.Tryd.f59.body).getD .skip
noncomputable def V : Env := { tt := tt, Γ := slk [] }
theorem V_ok : EnvOk P V := { ck := tt_ck, fits := slk_nil, mixed := mixed }
abbrev R := (Bool) × Unit
noncomputable def s0 (x1 : T26b3.T) : St := ⟨17, [(0, .cv (.one (.ptr 0 0)))], [(.box 13, (encC .any T26b3 x1))]⟩
noncomputable def out (x1 : T26b3.T) (r : R) : St := ⟨17, [(2, .cv (.one (.bool r.1)))], [(.box 13, (encC .any T26b3 x1))]⟩
abbrev Q (x1 : T26b3.T) (r : R) := CallQ 1 (out x1 r)
noncomputable def f (k : Nat) (x1 : T26b3.T) : Option R :=
  if (x1.2.2.2.2.2.1 == (2 : Int)) = true then
    some (true, ())
  else
    some ((x1.2.2.2.2.2.1 == (3 : Int)), ())
theorem f_ok {r k x1} (H : f k x1 = some r) : Gw P 1 (Q x1 r) (Px c0 1 []) (s0 x1) := by
  unfold f at H
  refine Rg V_ok 0 [] az ?_
  rcases of_ite H with ⟨hb1, H⟩ | ⟨hb1, H⟩
  · refine Rg V_ok 0 [(5, {bv := some true})] (ac hb1 az) ?_
    obtain rfl := Option.some.inj H
    exact Lq (tn [2] 1)
  · refine Rg V_ok 0 [(5, {bv := some false})] (ac hb1 az) ?_
    obtain rfl := Option.some.inj H
    exact Lq (tn [2] 1)
theorem ok {r k x1} (H : f k x1 = some r) : W P 1 c0 (s0 x1) (CallQ 1 (out x1 r)) := of_G (f_ok H)
theorem at_ : FnAt P 59 17 c0 Go.Proofs.Tryd.f59.results := fnAt Go.Proofs.Tryd.func59 (by kernel_rfl) (by decide) (by kernel_rfl) (by kernel_rfl)
end i_control_controller_flips_e28
/-! ### function 24, (*wayfinder/control.controller).live, where it is called -/
namespace i_control_controller_live_258
noncomputable def c0 : Code := (Go.Proofs.Tryd.f24.body).getD .skip
noncomputable def V : Env := { tt := tt, Γ := slk [(56, f_conf_At.S)] }
theorem V_ok : EnvOk P V := { ck := tt_ck, fits := slk_cons f_conf_At.fits (slk_nil), mixed := mixed }
abbrev R := (List T814c.T) × (Int) × Unit
noncomputable def s0 (x1 : Int) (x2 : T26b3.T) : St := ⟨70, [(0, .cv (.one (.ptr 0 0))), (1, .cv (.one (.i x1)))], [(.box 13, (encC .any T26b3 x2))]⟩
noncomputable def out (x2 : T26b3.T) (r : R) : St := ⟨70, [(4, .cv (.one (.sl T814c r.1 .any))), (5, .cv (.one (.i r.2.1)))], [(.box 13, (encC .any T26b3 x2))]⟩
abbrev Q (x2 : T26b3.T) (r : R) := CallQ 1 (out x2 r)
noncomputable def s2 (x2 : T26b3.T) (p1 : Int) (p3 : List T814c.T) : St := ⟨70, [(0, .cv (.one (.ptr 0 0))), (6, .cv (.one (.own 1))), (7, .cv (.one (.i p1)))], [(.box 13, (encC .any T26b3 x2)), (.buf 54 T814c p3, [])]⟩
noncomputable def s4 (x2 : T26b3.T) (p1 : Int) (p2 : Bool) (p4 : List T814c.T) : St := ⟨70, [(0, .cv (.one (.ptr 0 0))), (6, .cv (.one (.own 1))), (7, .cv (.one (.i p1))), (62, .cv (.one (.bool p2)))], [(.box 13, (encC .any T26b3 x2)), (.buf 54 T814c p4, [])]⟩
noncomputable def s6 (x2 : T26b3.T) (p2 : List T814c.T) : St := ⟨70, [(0, .cv (.one (.ptr 0 0))), (6, .cv (.one (.own 1)))], [(.box 13, (encC .any T26b3 x2)), (.buf 54 T814c p2, [])]⟩
noncomputable def s1 (x2 : T26b3.T) (p1 : Int) (p3 : List T814c.T) : St := ⟨70, [(6, .cv (.one (.own 1))), (7, .cv (.one (.i p1)))], [(.box 13, (encC .any T26b3 x2)), (.buf 54 T814c p3, [])]⟩
noncomputable def j1 (x2 : T26b3.T) (k : Nat) (p1 : Int) (p3 : List T814c.T) : Option R :=
  some (p3, (p1, ()))
theorem j1_ok {r x2} {k p1 p3} (H : j1 x2 k p1 p3 = some r) : Gw P 1 (Q x2 r) (Px c0 31 []) (s1 x2 p1 p3) := by
  unfold j1 at H
  refine Rg V_ok 0 [] az ?_
  obtain rfl := Option.some.inj H
  exact Lq {fz := [1], gr := 0, ad := [], live := [4, 5], src := [some 0]}
noncomputable def j6 (x2 : T26b3.T) (k : Nat) (p2 : List T814c.T) : Option R :=
  j1 x2 k x2.2.2.2.2.1 p2
theorem j6_ok {r x2} {k p2} (H : j6 x2 k p2 = some r) : Gw P 1 (Q x2 r) (Px c0 87 []) (s6 x2 p2) := by
  unfold j6 at H
  refine Rg V_ok 0 [] az ?_
  exact Jm (tn [6, 7] 2) (j1_ok H)
noncomputable def j4 (x2 : T26b3.T) (k : Nat) (p1 : Int) (p2 : Bool) (p4 : List T814c.T) : Option R :=
  if p2 = true then
  j6 x2 k p4
else
  j1 x2 k p1 p4
theorem j4_ok {r x2} {k p1 p2 p4} (H : j4 x2 k p1 p2 p4 = some r) : Gw P 1 (Q x2 r) (Px c0 55 []) (s4 x2 p1 p2 p4) := by
  unfold j4 at H
  rcases of_ite H with ⟨hb16, H⟩ | ⟨hb16, H⟩
  · refine C1 hb16 ?_
    exact Jm (tn [0, 6] 2) (j6_ok H)
  · refine C0 hb16 ?_
    exact Jm (tn [6, 7] 2) (j1_ok H)
noncomputable def j2 (x2 : T26b3.T) (k : Nat) (p1 : Int) (p3 : List T814c.T) : Option R :=
  (i_control_controller_flips_ebc.f k x2 p3).bind fun y14 =>
  j4 x2 k p1 y14.1 p3
theorem j2_ok {r x2} {k p1 p3} (H : j2 x2 k p1 p3 = some r) : Gw P 1 (Q x2 r) (Px c0 15 []) (s2 x2 p1 p3) := by
  unfold j2 at H
  refine GT (tn [0, 6, 7] 2) (RI ?_)
  refine EV V_ok 0 [] 1 az ?_
  obtain ⟨y14, e15, H⟩ := of_bind H
  refine CL V_ok i_control_controller_flips_ebc.at_ (i_control_controller_flips_ebc.ok e15) ?_
  refine RN ?_
  exact Jm (tn [0, 6, 7, 62] 2) (j4_ok H)
noncomputable def s3 (x2 : T26b3.T) (p1 : List T814c.T) (p2 : Int) : St := ⟨70, [(0, .cv (.one (.ptr 0 0))), (6, .cv (.one (.sl T814c p1 .full))), (7, .cv (.one (.i p2)))], [(.box 13, (encC .any T26b3 x2))]⟩
noncomputable def s5 (x2 : T26b3.T) (p1 : List T814c.T) (p2 : Int) (p3 : Bool) : St := ⟨70, [(0, .cv (.one (.ptr 0 0))), (6, .cv (.one (.sl T814c p1 .full))), (7, .cv (.one (.i p2))), (62, .cv (.one (.bool p3)))], [(.box 13, (encC .any T26b3 x2))]⟩
noncomputable def s7 (x2 : T26b3.T) (p1 : List T814c.T) : St := ⟨70, [(0, .cv (.one (.ptr 0 0))), (6, .cv (.one (.sl T814c p1 .full)))], [(.box 13, (encC .any T26b3 x2))]⟩
noncomputable def s8 (x2 : T26b3.T) (p1 : List T814c.T) (p2 : Int) : St := ⟨70, [(6, .cv (.one (.sl T814c p1 .full))), (7, .cv (.one (.i p2)))], [(.box 13, (encC .any T26b3 x2))]⟩
noncomputable def j8 (x2 : T26b3.T) (k : Nat) (p1 : List T814c.T) (p2 : Int) : Option R :=
  some (p1, (p2, ()))
theorem j8_ok {r x2} {k p1 p2} (H : j8 x2 k p1 p2 = some r) : Gw P 1 (Q x2 r) (Px c0 31 []) (s8 x2 p1 p2) := by
  unfold j8 at H
  refine Rg V_ok 0 [] az ?_
  obtain rfl := Option.some.inj H
  exact Lq {fz := [], gr := 0, ad := [.tmp 4 (.any)], live := [4, 5], src := [some 0]}
noncomputable def j7 (x2 : T26b3.T) (k : Nat) (p1 : List T814c.T) : Option R :=
  j8 x2 k p1 x2.2.2.2.2.1
theorem j7_ok {r x2} {k p1} (H : j7 x2 k p1 = some r) : Gw P 1 (Q x2 r) (Px c0 87 []) (s7 x2 p1) := by
  unfold j7 at H
  refine Rg V_ok 0 [] az ?_
  exact Jm (tn [6, 7] 1) (j8_ok H)
noncomputable def j5 (x2 : T26b3.T) (k : Nat) (p1 : List T814c.T) (p2 : Int) (p3 : Bool) : Option R :=
  if p3 = true then
  j7 x2 k p1
else
  j8 x2 k p1 p2
theorem j5_ok {r x2} {k p1 p2 p3} (H : j5 x2 k p1 p2 p3 = some r) : Gw P 1 (Q x2 r) (Px c0 55 []) (s5 x2 p1 p2 p3) := by
  unfold j5 at H
  rcases of_ite H with ⟨hb19, H⟩ | ⟨hb19, H⟩
  · refine C1 hb19 ?_
    exact Jm (tn [0, 6] 1) (j7_ok H)
  · refine C0 hb19 ?_
    exact Jm (tn [6, 7] 1) (j8_ok H)
noncomputable def j3 (x2 : T26b3.T) (k : Nat) (p1 : List T814c.T) (p2 : Int) : Option R :=
  (i_control_controller_flips_e28.f k x2).bind fun y17 =>
  j5 x2 k p1 p2 y17.1
theorem j3_ok {r x2} {k p1 p2} (H : j3 x2 k p1 p2 = some r) : Gw P 1 (Q x2 r) (Px c0 15 []) (s3 x2 p1 p2) := by
  unfold j3 at H
  refine GT (tn [0, 6, 7] 1) (RI ?_)
  refine EV V_ok 0 [] 1 az ?_
  obtain ⟨y17, e18, H⟩ := of_bind H
  refine CL V_ok i_control_controller_flips_e28.at_ (i_control_controller_flips_e28.ok e18) ?_
  refine RN ?_
  exact Jm (tn [0, 6, 7, 62] 1) (j5_ok H)
noncomputable def f (k : Nat) (x1 : Int) (x2 : T26b3.T) : Option R :=
  if 0 ≤ x2.2.1 then
    if x2.2.1 < (x2.1.length : Int) then
      (f_conf_At.f k (att (.slice (.slice T1383)) x2.1 x2.2.1) x1).bind fun y1 =>
        (i_control_controller_two_e28.f k x2).bind fun y5 =>
          if y5.1 = true then
            if 0 ≤ x2.2.2.1 then
              if x2.2.2.1 < (x2.1.length : Int) then
                (f_conf_At.f k (att (.slice (.slice T1383)) x2.1 x2.2.2.1) x1).bind fun y8 =>
                  (i_slices_SortStableFunc_Ver_885.f k x2 [(x2.2.2.2.1, y1.1), (x2.2.2.2.2.1, y8.1)]).bind fun y12 =>
                    j2 x2 k x2.2.2.2.1 y12.1
              else none
            else none
          else
            j3 x2 k [(x2.2.2.2.1, y1.1)] x2.2.2.2.1
    else none
  else none
theorem f_ok {r k x1 x2} (H : f k x1 x2 = some r) : Gw P 1 (Q x2 r) (Px c0 1 []) (s0 x1 x2) := by
  unfold f at H
  refine Rg V_ok 0 [] az ?_
  obtain ⟨n2, H⟩ := of_if H
  obtain ⟨n3, H⟩ := of_if H
  obtain ⟨y1, e4, H⟩ := of_bind H
  refine Rg V_ok 0 [(18, hr f_conf_At.S y1)] (ac n2 (ac n3 (ac (f_conf_At.rl e4) az))) ?_
  refine GT (tn [0, 1, 6, 7] 1) (RI ?_)
  refine EV V_ok 0 [] 1 az ?_
  obtain ⟨y5, e6, H⟩ := of_bind H
  refine CL V_ok i_control_controller_two_e28.at_ (i_control_controller_two_e28.ok e6) ?_
  refine RN ?_
  rcases of_ite H with ⟨hb7, H⟩ | ⟨hb7, H⟩
  · refine C1 hb7 ?_
    obtain ⟨n9, H⟩ := of_if H
    obtain ⟨n10, H⟩ := of_if H
    obtain ⟨y8, e11, H⟩ := of_bind H
    refine Rg V_ok 1 [(19, hr f_conf_At.S y8), (22, hb 1)] (ac n9 (ac n10 (ac (f_conf_At.rl e11) (ac (show (1 + 1) * 32 ≤ 140737488355328 by decide) (ac (show 1 = 0 ∨ 0 < 1 by decide) az))))) ?_
    refine GT (tn [0, 6, 7] 2) (RI ?_)
    refine EV V_ok 0 [] 1 az ?_
    obtain ⟨y12, e13, H⟩ := of_bind H
    refine CL V_ok i_slices_SortStableFunc_Ver_885.at_ (i_slices_SortStableFunc_Ver_885.ok e13) ?_
    refine RN ?_
    exact Jm (tn [0, 6, 7] 2) (j2_ok H)
  · refine C0 hb7 ?_
    exact Jm (tn [0, 6, 7] 1) (j3_ok H)
theorem ok {r k x1 x2} (H : f k x1 x2 = some r) : W P 1 c0 (s0 x1 x2) (CallQ 1 (out x2 r)) := of_G (f_ok H)
theorem at_ : FnAt P 24 70 c0 Go.Proofs.Tryd.f24.results := fnAt Go.Proofs.Tryd.func24 (by kernel_rfl) (by decide) (by kernel_rfl) (by kernel_rfl)
end i_control_controller_live_258
/-! ### function 11, wayfinder/control.Live -/
namespace f_control_Live
noncomputable def c0 : Code := (Go.Proofs.Tryd.f11.body).getD .skip
abbrev ps : Sg := [(true, T26b3), (false, (.int .i64))]
abbrev rs : Sg := [(false, (.slice T814c)), (false, (.int .i64))]
noncomputable def V : Env := { tt := tt, Γ := slk [] }
theorem V_ok : EnvOk P V := { ck := tt_ck, fits := slk_nil, mixed := mixed }
abbrev R := Tup rs
noncomputable abbrev Q (r : R) : Exit → St → Prop := Qr tt Go.Proofs.Tryd.f11.results ⟨ps, rs, .any, none, fun _ _ => True⟩ r
noncomputable def f (k : Nat) (a1 : T26b3.T) (a2 : Int) : Option R :=
  (i_control_controller_is_e28.f k a1).bind fun y1 =>
    if y1.1 = true then
      (i_control_controller_live_258.f k a2 a1).bind fun y4 =>
        some (y4.1, (y4.2.1, ()))
    else
      some ([], ((0 : Int), ()))
noncomputable def S : Spec := ⟨ps, rs, .any, none, fun x r => ∃ k, f k x.1 x.2.1 = some r⟩
theorem rl {k a1 a2 r} (e : f k a1 a2 = some r) : S.rel (a1, a2, ()) r := ⟨k, e⟩
theorem f_ok {r k a1 a2} (H : f k a1 a2 = some r) : Gw P 0 (Q r) (Px c0 1 []) (⟨17, [(0, .cv (.agg (encC .any T26b3 a1))), (1, .cv (.one (.i a2)))], []⟩) := by
  unfold f at H
  refine Rg V_ok 1 [(0, hb 0)] az ?_
  refine Rg V_ok 1 [(2, hb 1)] az ?_
  refine GT (tl [1, 6] [1]) (RI ?_)
  refine EV V_ok 0 [] 1 az ?_
  obtain ⟨y1, e2, H⟩ := of_bind H
  refine CL V_ok i_control_controller_is_e28.at_ (i_control_controller_is_e28.ok e2) ?_
  refine RN ?_
  rcases of_ite H with ⟨hb3, H⟩ | ⟨hb3, H⟩
  · refine C1 hb3 ?_
    refine GT (tn [1, 6] 1) (RI ?_)
    refine EV V_ok 0 [] 2 az ?_
    obtain ⟨y4, e5, H⟩ := of_bind H
    refine CL V_ok i_control_controller_live_258.at_ (i_control_controller_live_258.ok e5) ?_
    refine EV V_ok 0 [] 4 az ?_
    refine RN ?_
    exact Lf (Eq.trans (by kernel_rfl) H)
  · refine C0 hb3 ?_
    refine Rg V_ok 0 [] az ?_
    exact Lf (Eq.trans (by kernel_rfl) H)
theorem fits : Fits P 11 S := fits_of V_ok Go.Proofs.Tryd.func11 (by kernel_rfl) (by decide) (by decide) rfl (fun x r ⟨k, H⟩ => of_G (f_ok H))
end f_control_Live
/-! ### function 7, wayfinder/wayfinderlaw21.ControlPhase -/
namespace f_law21_ControlPhase
noncomputable def c0 : Code := (Go.Proofs.Tryd.f7.body).getD .skip
abbrev ps : Sg := [(true, T26b3), (false, (.int .i64))]
abbrev rs : Sg := [(false, .bool)]
noncomputable def V : Env := { tt := tt, Γ := slk [(8, f_law21_awake.S), (9, f_law21_Few.S), (11, f_control_Live.S), (15, f_control_Tick.S)] }
theorem V_ok : EnvOk P V := { ck := tt_ck, fits := slk_cons f_law21_awake.fits (slk_cons f_law21_Few.fits (slk_cons f_control_Live.fits (slk_cons f_control_Tick.fits (slk_nil)))), mixed := mixed }
abbrev R := Tup rs
noncomputable abbrev Q (r : R) : Exit → St → Prop := Qr tt Go.Proofs.Tryd.f7.results ⟨ps, rs, .any, none, fun _ _ => True⟩ r
noncomputable def s1 (a1 : T26b3.T) (a2 : Int) (p2 p3 : Bool) : St := ⟨178, [(1, .cv (.one (.i a2))), (2, .cv (.one (.ptr 0 0))), (5, .cv (.one (.bool p2))), (42, .cv (.one (.bool p3)))], [(.box 13, (encC .any T26b3 a1))]⟩
noncomputable def j1 (a1 : T26b3.T) (a2 : Int) (k : Nat) (p2 p3 : Bool) : Option R :=
  if p3 = true then
  some (p2, ())
else
  (f_control_Tick.f k a1).bind fun y7 =>
    (f_control_Live.f k a1 a2).bind fun y9 =>
      (f_control_Live.f k y7.1 a2).bind fun y11 =>
        if (a1.2.2.2.2.2.1 == (0 : Int)) = true then
          if (y7.1.2.2.2.2.2.1 == a1.2.2.2.2.2.1) = true then
            some ((y9.2.1 == y11.2.1), ())
          else
            if (y7.1.2.2.2.2.2.1 == (1 : Int)) = true then
              some ((y9.2.1 == y11.2.1), ())
            else
              some (false, ())
        else
          if (a1.2.2.2.2.2.1 == (1 : Int)) = true then
            if (y7.1.2.2.2.2.2.1 == a1.2.2.2.2.2.1) = true then
              if (y9.2.1 == y11.2.1) = true then
                some (true, ())
              else
                if (y7.1.2.2.2.2.2.1 == (2 : Int)) = true then
                  some ((y11.2.1 == a1.2.2.2.2.1), ())
                else
                  some (false, ())
            else
              if (y7.1.2.2.2.2.2.1 == (2 : Int)) = true then
                if (y9.2.1 == y11.2.1) = true then
                  some (true, ())
                else
                  some ((y11.2.1 == a1.2.2.2.2.1), ())
              else
                if (y7.1.2.2.2.2.2.1 == (5 : Int)) = true then
                  if (y9.2.1 == y11.2.1) = true then
                    some (true, ())
                  else
                    some (false, ())
                else
                  some (false, ())
          else
            if (a1.2.2.2.2.2.1 == (2 : Int)) = true then
              if (y7.1.2.2.2.2.2.1 == a1.2.2.2.2.2.1) = true then
                some ((y9.2.1 == y11.2.1), ())
              else
                if (y7.1.2.2.2.2.2.1 == (3 : Int)) = true then
                  some ((y9.2.1 == y11.2.1), ())
                else
                  some (false, ())
            else
              if (a1.2.2.2.2.2.1 == (3 : Int)) = true then
                if (y7.1.2.2.2.2.2.1 == a1.2.2.2.2.2.1) = true then
                  if (y9.2.1 == y11.2.1) = true then
                    some (true, ())
                  else
                    some (false, ())
                else
                  if (y7.1.2.2.2.2.2.1 == (4 : Int)) = true then
                    if (y9.2.1 == y11.2.1) = true then
                      if (y7.1.2.1 == a1.2.2.1) = true then
                        if (y7.1.2.2.2.1 == a1.2.2.2.2.1) = true then
                          some (((y7.1.2.2.2.2.2.2.2.2.2.2.1.length : Int) == (IntKind.i64.wrap ((a1.2.2.2.2.2.2.2.2.2.2.1.length : Int) + 1))), ())
                        else
                          some (false, ())
                      else
                        some (false, ())
                    else
                      some (false, ())
                  else
                    some (false, ())
              else
                if (y7.1.2.2.2.2.2.1 == a1.2.2.2.2.2.1) = true then
                  if (y9.2.1 == y11.2.1) = true then
                    some ((y7.1.2.1 == a1.2.1), ())
                  else
                    some (false, ())
                else
                  if (y7.1.2.2.2.2.2.1 == (0 : Int)) = true then
                    if (y9.2.1 == y11.2.1) = true then
                      some ((y7.1.2.1 == a1.2.1), ())
                    else
                      some (false, ())
                  else
                    some (false, ())
theorem j1_ok {r a1 a2} {k p2 p3} (H : j1 a1 a2 k p2 p3 = some r) : Gw P 0 (Q r) (Px c0 55 []) (s1 a1 a2 p2 p3) := by
  unfold j1 at H
  rcases of_ite H with ⟨hb6, H⟩ | ⟨hb6, H⟩
  · refine C1 hb6 ?_
    refine Rg V_ok 0 [] az ?_
    exact Lf (Eq.trans (by kernel_rfl) H)
  · refine C0 hb6 ?_
    obtain ⟨y7, e8, H⟩ := of_bind H
    refine Rg V_ok 1 [(1, hr f_control_Tick.S y7), (2, hb 1)] (ac (f_control_Tick.rl e8) az) ?_
    obtain ⟨y9, e10, H⟩ := of_bind H
    refine Rg V_ok 0 [(2, hr f_control_Live.S y9)] (ac (f_control_Live.rl e10) az) ?_
    obtain ⟨y11, e12, H⟩ := of_bind H
    refine Rg V_ok 0 [(2, hr f_control_Live.S y11)] (ac (f_control_Live.rl e12) az) ?_
    refine Rg V_ok 0 [] az ?_
    refine Rg V_ok 0 [] az ?_
    refine Rg V_ok 0 [] az ?_
    rcases of_ite H with ⟨hb13, H⟩ | ⟨hb13, H⟩
    · refine C1 hb13 ?_
      rcases of_ite H with ⟨hb14, H⟩ | ⟨hb14, H⟩
      · refine Rg V_ok 0 [(0, {bv := some true})] (ac hb14 az) ?_
        exact Lf (Eq.trans (by kernel_rfl) H)
      · rcases of_ite H with ⟨hb15, H⟩ | ⟨hb15, H⟩
        · refine Rg V_ok 0 [(0, {bv := some false}), (5, {bv := some true})] (ac hb14 (ac hb15 az)) ?_
          exact Lf (Eq.trans (by kernel_rfl) H)
        · refine Rg V_ok 0 [(0, {bv := some false}), (5, {bv := some false})] (ac hb14 (ac hb15 az)) ?_
          exact Lf (Eq.trans (by kernel_rfl) H)
    · refine C0 hb13 ?_
      refine Rg V_ok 0 [] az ?_
      rcases of_ite H with ⟨hb16, H⟩ | ⟨hb16, H⟩
      · refine C1 hb16 ?_
        rcases of_ite H with ⟨hb17, H⟩ | ⟨hb17, H⟩
        · rcases of_ite H with ⟨hb18, H⟩ | ⟨hb18, H⟩
          · refine Rg V_ok 0 [(0, {bv := some true}), (14, {bv := some true})] (ac hb17 (ac hb18 az)) ?_
            exact Lf (Eq.trans (by kernel_rfl) H)
          · rcases of_ite H with ⟨hb19, H⟩ | ⟨hb19, H⟩
            · refine Rg V_ok 0 [(0, {bv := some true}), (14, {bv := some false}), (18, {bv := some true})] (ac hb17 (ac hb18 (ac hb19 az))) ?_
              exact Lf (Eq.trans (by kernel_rfl) H)
            · refine Rg V_ok 0 [(0, {bv := some true}), (14, {bv := some false}), (18, {bv := some false})] (ac hb17 (ac hb18 (ac hb19 az))) ?_
              exact Lf (Eq.trans (by kernel_rfl) H)
        · rcases of_ite H with ⟨hb20, H⟩ | ⟨hb20, H⟩
          · rcases of_ite H with ⟨hb21, H⟩ | ⟨hb21, H⟩
            · refine Rg V_ok 0 [(0, {bv := some false}), (5, {bv := some true}), (14, {bv := some true})] (ac hb17 (ac hb20 (ac hb21 az))) ?_
              exact Lf (Eq.trans (by kernel_rfl) H)
            · refine Rg V_ok 0 [(0, {bv := some false}), (5, {bv := some true}), (14, {bv := some false}), (18, {bv := some true})] (ac hb17 (ac hb20 (ac hb21 (ac hb20 az)))) ?_
              exact Lf (Eq.trans (by kernel_rfl) H)
          · rcases of_ite H with ⟨hb22, H⟩ | ⟨hb22, H⟩
            · rcases of_ite H with ⟨hb23, H⟩ | ⟨hb23, H⟩
              · refine Rg V_ok 0 [(0, {bv := some false}), (5, {bv := some false}), (10, {bv := some true}), (14, {bv := some true})] (ac hb17 (ac hb20 (ac hb22 (ac hb23 az)))) ?_
                exact Lf (Eq.trans (by kernel_rfl) H)
              · refine Rg V_ok 0 [(0, {bv := some false}), (5, {bv := some false}), (10, {bv := some true}), (14, {bv := some false}), (18, {bv := some false})] (ac hb17 (ac hb20 (ac hb22 (ac hb23 (ac hb20 az))))) ?_
                exact Lf (Eq.trans (by kernel_rfl) H)
            · refine Rg V_ok 0 [(0, {bv := some false}), (5, {bv := some false}), (10, {bv := some false})] (ac hb17 (ac hb20 (ac hb22 az))) ?_
              exact Lf (Eq.trans (by kernel_rfl) H)
      · refine C0 hb16 ?_
        refine Rg V_ok 0 [] az ?_
        rcases of_ite H with ⟨hb24, H⟩ | ⟨hb24, H⟩
        · refine C1 hb24 ?_
          rcases of_ite H with ⟨hb25, H⟩ | ⟨hb25, H⟩
          · refine Rg V_ok 0 [(0, {bv := some true})] (ac hb25 az) ?_
            exact Lf (Eq.trans (by kernel_rfl) H)
          · rcases of_ite H with ⟨hb26, H⟩ | ⟨hb26, H⟩
            · refine Rg V_ok 0 [(0, {bv := some false}), (5, {bv := some true})] (ac hb25 (ac hb26 az)) ?_
              exact Lf (Eq.trans (by kernel_rfl) H)
            · refine Rg V_ok 0 [(0, {bv := some false}), (5, {bv := some false})] (ac hb25 (ac hb26 az)) ?_
              exact Lf (Eq.trans (by kernel_rfl) H)
        · refine C0 hb24 ?_
          refine Rg V_ok 0 [] az ?_
          rcases of_ite H with ⟨hb27, H⟩ | ⟨hb27, H⟩
          · refine C1 hb27 ?_
            rcases of_ite H with ⟨hb28, H⟩ | ⟨hb28, H⟩
            · rcases of_ite H with ⟨hb29, H⟩ | ⟨hb29, H⟩
              · refine Rg V_ok 0 [(0, {bv := some true}), (10, {bv := some true}), (12, {bv := some true})] (ac hb28 (ac hb29 (ac hb28 az))) ?_
                exact Lf (Eq.trans (by kernel_rfl) H)
              · refine Rg V_ok 0 [(0, {bv := some true}), (10, {bv := some false})] (ac hb28 (ac hb29 az)) ?_
                exact Lf (Eq.trans (by kernel_rfl) H)
            · rcases of_ite H with ⟨hb30, H⟩ | ⟨hb30, H⟩
              · rcases of_ite H with ⟨hb31, H⟩ | ⟨hb31, H⟩
                · rcases of_ite H with ⟨hb32, H⟩ | ⟨hb32, H⟩
                  · rcases of_ite H with ⟨hb33, H⟩ | ⟨hb33, H⟩
                    · refine Rg V_ok 0 [(0, {bv := some false}), (5, {bv := some true}), (10, {bv := some true}), (12, {bv := some false}), (18, {bv := some true}), (25, {bv := some true})] (ac hb28 (ac hb30 (ac hb31 (ac hb28 (ac hb32 (ac hb33 az)))))) ?_
                      exact Lf (Eq.trans (by kernel_rfl) H)
                    · refine Rg V_ok 0 [(0, {bv := some false}), (5, {bv := some true}), (10, {bv := some true}), (12, {bv := some false}), (18, {bv := some true}), (25, {bv := some false})] (ac hb28 (ac hb30 (ac hb31 (ac hb28 (ac hb32 (ac hb33 az)))))) ?_
                      exact Lf (Eq.trans (by kernel_rfl) H)
                  · refine Rg V_ok 0 [(0, {bv := some false}), (5, {bv := some true}), (10, {bv := some true}), (12, {bv := some false}), (18, {bv := some false})] (ac hb28 (ac hb30 (ac hb31 (ac hb28 (ac hb32 az))))) ?_
                    exact Lf (Eq.trans (by kernel_rfl) H)
                · refine Rg V_ok 0 [(0, {bv := some false}), (5, {bv := some true}), (10, {bv := some false})] (ac hb28 (ac hb30 (ac hb31 az))) ?_
                  exact Lf (Eq.trans (by kernel_rfl) H)
              · refine Rg V_ok 0 [(0, {bv := some false}), (5, {bv := some false})] (ac hb28 (ac hb30 az)) ?_
                exact Lf (Eq.trans (by kernel_rfl) H)
          · refine C0 hb27 ?_
            rcases of_ite H with ⟨hb34, H⟩ | ⟨hb34, H⟩
            · rcases of_ite H with ⟨hb35, H⟩ | ⟨hb35, H⟩
              · refine Rg V_ok 0 [(0, {bv := some true}), (10, {bv := some true})] (ac hb34 (ac hb35 az)) ?_
                exact Lf (Eq.trans (by kernel_rfl) H)
              · refine Rg V_ok 0 [(0, {bv := some true}), (10, {bv := some false})] (ac hb34 (ac hb35 az)) ?_
                exact Lf (Eq.trans (by kernel_rfl) H)
            · rcases of_ite H with ⟨hb36, H⟩ | ⟨hb36, H⟩
              · rcases of_ite H with ⟨hb37, H⟩ | ⟨hb37, H⟩
                · refine Rg V_ok 0 [(0, {bv := some false}), (5, {bv := some true}), (10, {bv := some true})] (ac hb34 (ac hb36 (ac hb37 az))) ?_
                  exact Lf (Eq.trans (by kernel_rfl) H)
                · refine Rg V_ok 0 [(0, {bv := some false}), (5, {bv := some true}), (10, {bv := some false})] (ac hb34 (ac hb36 (ac hb37 az))) ?_
                  exact Lf (Eq.trans (by kernel_rfl) H)
              · refine Rg V_ok 0 [(0, {bv := some false}), (5, {bv := some false})] (ac hb34 (ac hb36 az)) ?_
                exact Lf (Eq.trans (by kernel_rfl) H)
noncomputable def f (k : Nat) (a1 : T26b3.T) (a2 : Int) : Option R :=
  (f_law21_awake.f k).bind fun y1 =>
    (f_law21_Few.f k a1).bind fun y3 =>
      if (!y1.1) = true then
        j1 a1 a2 k y1.1 true
      else
        if (!y3.1) = true then
          j1 a1 a2 k y1.1 true
        else
          if (decide (a1.2.2.2.2.2.1 < (0 : Int))) = true then
            j1 a1 a2 k y1.1 true
          else
            if (decide (a1.2.2.2.2.2.1 ≥ (6 : Int))) = true then
              j1 a1 a2 k y1.1 true
            else
              if (decide (a2 < (0 : Int))) = true then
                j1 a1 a2 k y1.1 true
              else
                j1 a1 a2 k y1.1 (decide (a2 ≥ (a1.2.2.2.2.2.2.2.2.1.length : Int)))
noncomputable def S : Spec := ⟨ps, rs, .any, none, fun x r => ∃ k, f k x.1 x.2.1 = some r⟩
theorem rl {k a1 a2 r} (e : f k a1 a2 = some r) : S.rel (a1, a2, ()) r := ⟨k, e⟩
theorem f_ok {r k a1 a2} (H : f k a1 a2 = some r) : Gw P 0 (Q r) (Px c0 1 []) (⟨178, [(0, .cv (.agg (encC .any T26b3 a1))), (1, .cv (.one (.i a2)))], []⟩) := by
  unfold f at H
  refine Rg V_ok 1 [(0, hb 0)] az ?_
  obtain ⟨y1, e2, H⟩ := of_bind H
  refine Rg V_ok 0 [(0, hr f_law21_awake.S y1)] (ac (f_law21_awake.rl e2) az) ?_
  obtain ⟨y3, e4, H⟩ := of_bind H
  refine Rg V_ok 0 [(1, hr f_law21_Few.S y3)] (ac (f_law21_Few.rl e4) az) ?_
  rcases of_ite H with ⟨hb5, H⟩ | ⟨hb5, H⟩
  · refine Rg V_ok 0 [(1, {bv := some true})] (ac hb5 az) ?_
    exact Jm (tn [1, 2, 5, 42] 1) (j1_ok H)
  · rcases of_ite H with ⟨hb38, H⟩ | ⟨hb38, H⟩
    · refine Rg V_ok 0 [(1, {bv := some false}), (5, {bv := some true})] (ac hb5 (ac hb38 az)) ?_
      exact Jm (tn [1, 2, 5, 42] 1) (j1_ok H)
    · rcases of_ite H with ⟨hb39, H⟩ | ⟨hb39, H⟩
      · refine Rg V_ok 0 [(1, {bv := some false}), (5, {bv := some false}), (10, {bv := some true})] (ac hb5 (ac hb38 (ac hb39 az))) ?_
        exact Jm (tn [1, 2, 5, 42] 1) (j1_ok H)
      · rcases of_ite H with ⟨hb40, H⟩ | ⟨hb40, H⟩
        · refine Rg V_ok 0 [(1, {bv := some false}), (5, {bv := some false}), (10, {bv := some false}), (15, {bv := some true})] (ac hb5 (ac hb38 (ac hb39 (ac hb40 az)))) ?_
          exact Jm (tn [1, 2, 5, 42] 1) (j1_ok H)
        · rcases of_ite H with ⟨hb41, H⟩ | ⟨hb41, H⟩
          · refine Rg V_ok 0 [(1, {bv := some false}), (5, {bv := some false}), (10, {bv := some false}), (15, {bv := some false}), (19, {bv := some true})] (ac hb5 (ac hb38 (ac hb39 (ac hb40 (ac hb41 az))))) ?_
            exact Jm (tn [1, 2, 5, 42] 1) (j1_ok H)
          · refine Rg V_ok 0 [(1, {bv := some false}), (5, {bv := some false}), (10, {bv := some false}), (15, {bv := some false}), (19, {bv := some false})] (ac hb5 (ac hb38 (ac hb39 (ac hb40 (ac hb41 az))))) ?_
            exact Jm (tn [1, 2, 5, 42] 1) (j1_ok H)
theorem fits : Fits P 7 S := fits_of V_ok Go.Proofs.Tryd.func7 (by kernel_rfl) (by decide) (by decide) rfl (fun x r ⟨k, H⟩ => of_G (f_ok H))
end f_law21_ControlPhase
end Go.Proofs.YtkhjemahenkdiaaDoor.V
