/- Functions of the program, as Lean functions, and that the code answers so. Printed by vgen.py. -/
import Derived.Test.YtkhjemahenkdiaaDoorVF2
namespace Go.Proofs.YtkhjemahenkdiaaDoor.V
open Go Go.RowKit
set_option linter.unusedVariables false
set_option linter.unusedSimpArgs false
set_option maxRecDepth 100000
set_option maxHeartbeats 4000000
namespace i_control_controller_tell_863
noncomputable def c0 : Code := (Go.Proofs.Tryd.f75.body).getD .skip
noncomputable def V : Env := { tt := tt, Γ := slk [(67, f_plan_Push.S)] }
theorem V_ok : EnvOk P V := { ck := tt_ck, fits := slk_cons f_plan_Push.fits (slk_nil), mixed := mixed }
abbrev R := (List T23b6.T) × Unit
noncomputable def s0 (x1 : T26b3.T) (x2 x3 x4 x5 x6 x7 x8 x9 x10 x11 x12 x13 x14 x15 : Int) (x16 : List (List (List T1383.T))) (x17 : List Int) (x18 : List T23b6.T) (x19 : List T713d.T) (x20 x21 : List Int) (x22 x23 : Int) : St := ⟨36, [(0, .cv (.one (.ptr 3 0))), (1, .cv (.one (.fn 99 [] [(10, 0), (11, 0)])))], [(.box 13, (encC .any T26b3 x1)), (.box 13, [.nils, .i x2, .i x3, .i x4, .i x5, .i x6, .i x7, .nils, .nils, .nils, .nils, .nils, .i x8]), (.box 6, [.fn 35 [] [], .fn 36 [] [], .fn 37 [] [], .fn 38 [] [], .fn 39 [] [], .fn 39 [] []]), (.box 13, [.own 4, .i x9, .i x10, .i x11, .i x12, .i x13, .i x14, .own 5, .own 6, .own 7, .own 8, .own 9, .i x15]), (.buf 64 (.slice (.slice T1383)) x16, []), (.buf 3 (.int .i64) x17, []), (.buf 50 T23b6 x18, []), (.buf 95 T713d x19, []), (.buf 3 (.int .i64) x20, []), (.buf 3 (.int .i64) x21, []), (.box 1, [.i x22]), (.box 1, [.i x23])]⟩
noncomputable def out (x1 : T26b3.T) (x2 x3 x4 x5 x6 x7 x8 x9 x10 x11 x12 x13 x14 x15 : Int) (x16 : List (List (List T1383.T))) (x17 : List Int) (x19 : List T713d.T) (x20 x21 : List Int) (x22 x23 : Int) (r : R) : St := ⟨36, [], [(.box 13, (encC .any T26b3 x1)), (.box 13, [.nils, .i x2, .i x3, .i x4, .i x5, .i x6, .i x7, .nils, .nils, .nils, .nils, .nils, .i x8]), (.box 6, [.fn 35 [] [], .fn 36 [] [], .fn 37 [] [], .fn 38 [] [], .fn 39 [] [], .fn 39 [] []]), (.box 13, [.own 4, .i x9, .i x10, .i x11, .i x12, .i x13, .i x14, .own 5, .own 6, .own 7, .own 8, .own 9, .i x15]), (.buf 64 (.slice (.slice T1383)) x16, []), (.buf 3 (.int .i64) x17, []), (.buf 50 T23b6 r.1, []), (.buf 95 T713d x19, []), (.buf 3 (.int .i64) x20, []), (.buf 3 (.int .i64) x21, []), (.box 1, [.i x22]), (.box 1, [.i x23])]⟩
abbrev Q (x1 : T26b3.T) (x2 x3 x4 x5 x6 x7 x8 x9 x10 x11 x12 x13 x14 x15 : Int) (x16 : List (List (List T1383.T))) (x17 : List Int) (x19 : List T713d.T) (x20 x21 : List Int) (x22 x23 : Int) (r : R) := CallQ 12 (out x1 x2 x3 x4 x5 x6 x7 x8 x9 x10 x11 x12 x13 x14 x15 x16 x17 x19 x20 x21 x22 x23 r)
noncomputable def s1 (x1 : T26b3.T) (x2 x3 x4 x5 x6 x7 x8 x9 x10 x11 x12 x13 x14 x15 : Int) (x16 : List (List (List T1383.T))) (x17 : List Int) (x19 : List T713d.T) (x20 x21 : List Int) (x22 x23 p1 p2 : Int) (p20 : List T23b6.T) : St := ⟨36, [(0, .cv (.one (.ptr 3 0))), (1, .cv (.one (.fn 99 [] [(10, 0), (11, 0)]))), (10, .cv (.one (.i p1))), (11, .cv (.one (.i p2)))], [(.box 13, (encC .any T26b3 x1)), (.box 13, [.nils, .i x2, .i x3, .i x4, .i x5, .i x6, .i x7, .nils, .nils, .nils, .nils, .nils, .i x8]), (.box 6, [.fn 35 [] [], .fn 36 [] [], .fn 37 [] [], .fn 38 [] [], .fn 39 [] [], .fn 39 [] []]), (.box 13, [.own 4, .i x9, .i x10, .i x11, .i x12, .i x13, .i x14, .own 5, .own 6, .own 7, .own 8, .own 9, .i x15]), (.buf 64 (.slice (.slice T1383)) x16, []), (.buf 3 (.int .i64) x17, []), (.buf 50 T23b6 p20, []), (.buf 95 T713d x19, []), (.buf 3 (.int .i64) x20, []), (.buf 3 (.int .i64) x21, []), (.box 1, [.i x22]), (.box 1, [.i x23])]⟩
noncomputable def b1 (x1 : T26b3.T) (x2 x3 x4 x5 x6 x7 x8 x9 x10 x11 x12 x13 x14 x15 : Int) (x16 : List (List (List T1383.T))) (x17 : List Int) (x19 : List T713d.T) (x20 x21 : List Int) (x22 x23 : Int) (L1 : Int → Int → List T23b6.T → Option R) (k : Nat) (p1 p2 : Int) (p20 : List T23b6.T) : Option R :=
  if (decide (p2 < p1)) = true then
  if 0 ≤ p2 then
    if p2 < (p20.length : Int) then
      (i_control_all_1_252.f k p2 x1 x2 x3 x4 x5 x6 x7 x8 x9 x10 x11 x12 x13 x14 x15 x16 x17 p20 x19 x20 x21 x22 x23).bind fun y4 =>
        (f_plan_Push.f k (((att T23b6 p20 p2).2).2) y4.1).bind fun y6 =>
            L1 p1 (IntKind.i64.wrap (p2 + 1)) (p20.set p2.toNat ((att T23b6 p20 p2).1, (((att T23b6 p20 p2).2).1, y6.1)))
    else none
  else none
else
  some (p20, ())
theorem b1_ok {r x1 x2 x3 x4 x5 x6 x7 x8 x9 x10 x11 x12 x13 x14 x15 x16 x17 x19 x20 x21 x22 x23} {L1 : Int → Int → List T23b6.T → Option R} {m1 : Nat} (hL1 : ∀ p1 p2 p20, L1 p1 p2 p20 = some r → Gw P 12 (Q x1 x2 x3 x4 x5 x6 x7 x8 x9 x10 x11 x12 x13 x14 x15 x16 x17 x19 x20 x21 x22 x23 r) (Pb c0 5 [] m1) (s1 x1 x2 x3 x4 x5 x6 x7 x8 x9 x10 x11 x12 x13 x14 x15 x16 x17 x19 x20 x21 x22 x23 p1 p2 p20)) {k p1 p2 p20} (H : b1 x1 x2 x3 x4 x5 x6 x7 x8 x9 x10 x11 x12 x13 x14 x15 x16 x17 x19 x20 x21 x22 x23 L1 k p1 p2 p20 = some r) : Gw P 12 (Q x1 x2 x3 x4 x5 x6 x7 x8 x9 x10 x11 x12 x13 x14 x15 x16 x17 x19 x20 x21 x22 x23 r) (Px c0 9 [m1]) (s1 x1 x2 x3 x4 x5 x6 x7 x8 x9 x10 x11 x12 x13 x14 x15 x16 x17 x19 x20 x21 x22 x23 p1 p2 p20) := by
  unfold b1 at H
  refine Rg V_ok 0 [] az ?_
  rcases of_ite H with ⟨hb1, H⟩ | ⟨hb1, H⟩
  · refine C1 hb1 ?_
    refine Rg V_ok 0 [] az ?_
    obtain ⟨n2, H⟩ := of_if H
    obtain ⟨n3, H⟩ := of_if H
    obtain ⟨y4, e5, H⟩ := of_bind H
    obtain ⟨y6, e7, H⟩ := of_bind H
    let x : Nx := (Px c0 409 [m1])
    let t0 : St := ⟨36, [(0, .cv (.one (.ptr 3 0))), (1, .cv (.one (.fn 99 [] [(10, 0), (11, 0)]))), (4, .cv (.one (.i p2))), (10, .cv (.one (.i p1))), (11, .cv (.one (.i p2)))], [(.box 13, (encC .any T26b3 x1)), (.box 13, [.nils, .i x2, .i x3, .i x4, .i x5, .i x6, .i x7, .nils, .nils, .nils, .nils, .nils, .i x8]), (.box 6, [.fn 35 [] [], .fn 36 [] [], .fn 37 [] [], .fn 38 [] [], .fn 39 [] [], .fn 39 [] []]), (.box 13, [.own 4, .i x9, .i x10, .i x11, .i x12, .i x13, .i x14, .own 5, .own 6, .own 7, .own 8, .own 9, .i x15]), (.buf 64 (.slice (.slice T1383)) x16, []), (.buf 3 (.int .i64) x17, []), (.buf 50 T23b6 p20, []), (.buf 95 T713d x19, []), (.buf 3 (.int .i64) x20, []), (.buf 3 (.int .i64) x21, []), (.box 1, [.i x22]), (.box 1, [.i x23])]⟩
    refine Jm (x' := x) (τ := t0) (tn [0, 1, 4, 10, 11] 12) ?_
    let Φ := phiX P 12 (Q x1 x2 x3 x4 x5 x6 x7 x8 x9 x10 x11 x12 x13 x14 x15 x16 x17 x19 x20 x21 x22 x23 r) x
    let t1 : St := stpS V x 0 [] 0 (tn [0, 1, 4, 10, 11, 14] 12) t0
    let t2 : St := stpS V x 0 [] 1 (tn [0, 1, 4, 10, 11, 15] 12) t1
    let t3 : St := stpS V x 0 [] 2 (tn [0, 1, 4, 10, 11, 16] 12) t2
    let t4 : St := stpS V x 0 [] 3 (tn [0, 1, 4, 10, 11, 17] 12) t3
    let t5 : St := stpS V x 0 [] 5 (tn [0, 1, 4, 10, 11, 17, 19] 12) t4
    let t6 : St := stpS V x 0 [] 6 (tn [0, 1, 4, 10, 11, 17, 19, 20] 12) t5
    let t7 : St := stpS V x 0 [] 7 (tn [0, 1, 4, 10, 11, 17, 19, 21] 12) t6
    let t8 : St := stpS V x 0 [] 8 (tn [0, 1, 4, 10, 11, 17, 19, 22] 12) t7
    let t9 : St := stpS V x 0 [] 9 (tn [0, 1, 4, 10, 11, 17, 19, 23] 12) t8
    let t10 : St := stpS V x 0 [] 11 (tn [0, 1, 4, 10, 11, 17, 19, 23, 25] 12) t9
    let t11 : St := stpS V x 0 [] 15 (tn [0, 1, 4, 10, 11, 17, 19, 23, 25, 29] 12) t10
    let t12 : St := stpS V x 0 [] 16 (tn [0, 1, 10, 11, 17, 19, 23, 25, 29, 30] 12) t11
    let t13 : St := stpS V x 0 [] 4 (tn [0, 1, 10, 11, 18, 19, 23, 25, 29, 30] 12) t12
    let t14 : St := stpS V x 0 [] 10 (tn [0, 1, 10, 11, 17, 19, 24, 25, 29, 30] 12) t12
    let t15 : St := clT V.tt x 17 Go.Proofs.Tryd.f99.results (tn [0, 1, 10, 11, 17, 19, 23, 25, 31] 12) t12 (i_control_all_1_252.out x1 x2 x3 x4 x5 x6 x7 x8 x9 x10 x11 x12 x13 x14 x15 x16 x17 p20 x19 x20 x21 x22 x23 y4)
    let t16 : St := stpS V x 0 [] 10 (tn [0, 1, 10, 11, 18, 19, 24, 25, 29, 30] 12) t13
    let t17 : St := clT V.tt x 17 Go.Proofs.Tryd.f99.results (tn [0, 1, 10, 11, 18, 19, 23, 25, 31] 12) t13 (i_control_all_1_252.out x1 x2 x3 x4 x5 x6 x7 x8 x9 x10 x11 x12 x13 x14 x15 x16 x17 p20 x19 x20 x21 x22 x23 y4)
    let t18 : St := stpS V x 0 [] 12 (tn [0, 1, 10, 11, 17, 19, 26, 29, 30] 12) t14
    let t19 : St := clT V.tt x 17 Go.Proofs.Tryd.f99.results (tn [0, 1, 10, 11, 17, 19, 24, 25, 31] 12) t14 (i_control_all_1_252.out x1 x2 x3 x4 x5 x6 x7 x8 x9 x10 x11 x12 x13 x14 x15 x16 x17 p20 x19 x20 x21 x22 x23 y4)
    let t20 : St := stpS V x 0 [] 12 (tn [0, 1, 10, 11, 18, 19, 26, 29, 30] 12) t16
    let t21 : St := clT V.tt x 17 Go.Proofs.Tryd.f99.results (tn [0, 1, 10, 11, 18, 19, 24, 25, 31] 12) t16 (i_control_all_1_252.out x1 x2 x3 x4 x5 x6 x7 x8 x9 x10 x11 x12 x13 x14 x15 x16 x17 p20 x19 x20 x21 x22 x23 y4)
    let t22 : St := stpS V x 0 [] 13 (tn [0, 1, 10, 11, 17, 19, 27, 29, 30] 12) t18
    let t23 : St := stpS V x 0 [] 12 (tn [0, 1, 10, 11, 17, 19, 26, 31] 12) t19
    let t24 : St := stpS V x 0 [] 13 (tn [0, 1, 10, 11, 18, 19, 27, 29, 30] 12) t20
    let t25 : St := stpS V x 0 [] 12 (tn [0, 1, 10, 11, 18, 19, 26, 31] 12) t21
    let t26 : St := stpS V x 0 [] 14 (tn [0, 1, 10, 11, 17, 19, 28, 29, 30] 12) t22
    let t27 : St := clT V.tt x 17 Go.Proofs.Tryd.f99.results (tn [0, 1, 10, 11, 17, 19, 27, 31] 12) t22 (i_control_all_1_252.out x1 x2 x3 x4 x5 x6 x7 x8 x9 x10 x11 x12 x13 x14 x15 x16 x17 p20 x19 x20 x21 x22 x23 y4)
    let t28 : St := stpS V x 0 [] 14 (tn [0, 1, 10, 11, 18, 19, 28, 29, 30] 12) t24
    let t29 : St := clT V.tt x 17 Go.Proofs.Tryd.f99.results (tn [0, 1, 10, 11, 18, 19, 27, 31] 12) t24 (i_control_all_1_252.out x1 x2 x3 x4 x5 x6 x7 x8 x9 x10 x11 x12 x13 x14 x15 x16 x17 p20 x19 x20 x21 x22 x23 y4)
    let t30 : St := clT V.tt x 17 Go.Proofs.Tryd.f99.results (tn [0, 1, 10, 11, 17, 19, 28, 31] 12) t26 (i_control_all_1_252.out x1 x2 x3 x4 x5 x6 x7 x8 x9 x10 x11 x12 x13 x14 x15 x16 x17 p20 x19 x20 x21 x22 x23 y4)
    let t31 : St := clT V.tt x 17 Go.Proofs.Tryd.f99.results (tn [0, 1, 10, 11, 18, 19, 28, 31] 12) t28 (i_control_all_1_252.out x1 x2 x3 x4 x5 x6 x7 x8 x9 x10 x11 x12 x13 x14 x15 x16 x17 p20 x19 x20 x21 x22 x23 y4)
    let t32 : St := stpS V x 0 [(18, hr f_plan_Push.S y6)] 18 (tn [0, 1, 10, 11, 17, 19, 32] 12) t30
    let t33 : St := stpS V x 0 [(18, hr f_plan_Push.S y6)] 18 (tn [0, 1, 10, 11, 18, 19, 32] 12) t31
    let t34 : St := stpS V x 0 [] 19 (tn [0, 1, 10, 11, 32, 33] 12) t33
    let t35 : St := stpS V x 0 [] 20 (tn [0, 1, 10, 11, 32, 34] 12) t34
    let t36 : St := stpS V x 0 [] 21 (tn [0, 1, 10, 11] 12) t35
    have w36 : WA P 12 (opsX x) 0 (bs 22 4194303) Φ t36 := by
      refine WA_nil (by kernel_rfl) (RAn (by kernel_rfl) ?_)
      refine Rg V_ok 0 [] az ?_
      exact Jm (tn [0, 1, 10, 11] 12) (hL1 p1 (IntKind.i64.wrap (p2 + 1)) (p20.set p2.toNat ((att T23b6 p20 p2).1, (((att T23b6 p20 p2).2).1, y6.1))) H)
    have w35 : WA P 12 (opsX x) 1 (bs 22 2097151) Φ t35 := WAs (an (WE V_ok 0 [] 21 (tn [0, 1, 10, 11] 12) az w36) aN)
    have w34 : WA P 12 (opsX x) 2 (bs 22 1048575) Φ t34 := WT V_ok [] 20 (tn [0, 1, 10, 11, 32, 34] 12) az w35
    have w33 : WA P 12 (opsX x) 3 (bs 22 524287) Φ t33 := WAs (an (WE V_ok 0 [] 19 (tn [0, 1, 10, 11, 32, 33] 12) (ac n2 (ac n3 az)) w34) aN)
    have w32 : WA P 12 (opsX x) 4 (bs 22 524271) Φ t32 := WAs (an (WE V_ok 0 [] 4 (tn [0, 1, 10, 11, 18, 19, 32] 12) az w33) aN)
    have w31 : WA P 12 (opsX x) 4 (bs 22 262143) Φ t31 := WAs (an (WE V_ok 0 [(18, hr f_plan_Push.S y6)] 18 (tn [0, 1, 10, 11, 18, 19, 32] 12) (ac (f_plan_Push.rl e7) az) w33) aN)
    have w30 : WA P 12 (opsX x) 5 (bs 22 262127) Φ t30 := WAs (an (WE V_ok 0 [] 4 (tn [0, 1, 10, 11, 18, 19, 28, 31] 12) az w31) (an (WE V_ok 0 [(18, hr f_plan_Push.S y6)] 18 (tn [0, 1, 10, 11, 17, 19, 32] 12) (ac (f_plan_Push.rl e7) az) w32) aN))
    have w29 : WA P 12 (opsX x) 5 (bs 22 245759) Φ t29 := WAs (an (WE V_ok 0 [] 14 (tn [0, 1, 10, 11, 18, 19, 28, 31] 12) az w31) aN)
    have w28 : WA P 12 (opsX x) 5 (bs 22 131071) Φ t28 := WAs (an (WC V_ok 17 (tn [0, 1, 10, 11, 18, 19, 28, 31] 12) i_control_all_1_252.at_ (i_control_all_1_252.ok e5) w31) aN)
    have w27 : WA P 12 (opsX x) 6 (bs 22 245743) Φ t27 := WAs (an (WE V_ok 0 [] 4 (tn [0, 1, 10, 11, 18, 19, 27, 31] 12) az w29) (an (WE V_ok 0 [] 14 (tn [0, 1, 10, 11, 17, 19, 28, 31] 12) az w30) aN))
    have w26 : WA P 12 (opsX x) 6 (bs 22 131055) Φ t26 := WAs (an (WE V_ok 0 [] 4 (tn [0, 1, 10, 11, 18, 19, 28, 29, 30] 12) az w28) (an (WC V_ok 17 (tn [0, 1, 10, 11, 17, 19, 28, 31] 12) i_control_all_1_252.at_ (i_control_all_1_252.ok e5) w30) aN))
    have w25 : WA P 12 (opsX x) 6 (bs 22 237567) Φ t25 := WT V_ok [] 13 (tn [0, 1, 10, 11, 18, 19, 27, 31] 12) az w29
    have w24 : WA P 12 (opsX x) 6 (bs 22 114687) Φ t24 := WAs (an (WE V_ok 0 [] 14 (tn [0, 1, 10, 11, 18, 19, 28, 29, 30] 12) az w28) (an (WC V_ok 17 (tn [0, 1, 10, 11, 18, 19, 27, 31] 12) i_control_all_1_252.at_ (i_control_all_1_252.ok e5) w29) aN))
    have w23 : WA P 12 (opsX x) 7 (bs 22 237551) Φ t23 := WT V_ok [] 13 (tn [0, 1, 10, 11, 17, 19, 27, 31] 12) az w27
    have w22 : WA P 12 (opsX x) 7 (bs 22 114671) Φ t22 := WAs (an (WE V_ok 0 [] 4 (tn [0, 1, 10, 11, 18, 19, 27, 29, 30] 12) az w24) (an (WE V_ok 0 [] 14 (tn [0, 1, 10, 11, 17, 19, 28, 29, 30] 12) az w26) (an (WC V_ok 17 (tn [0, 1, 10, 11, 17, 19, 27, 31] 12) i_control_all_1_252.at_ (i_control_all_1_252.ok e5) w27) aN)))
    have w21 : WA P 12 (opsX x) 7 (bs 22 233471) Φ t21 := WAs (an (WE V_ok 0 [] 12 (tn [0, 1, 10, 11, 18, 19, 26, 31] 12) (ac n2 (ac n3 az)) w25) aN)
    have w20 : WA P 12 (opsX x) 7 (bs 22 106495) Φ t20 := WT V_ok [] 13 (tn [0, 1, 10, 11, 18, 19, 27, 29, 30] 12) az w24
    have w19 : WA P 12 (opsX x) 8 (bs 22 233455) Φ t19 := WAs (an (WE V_ok 0 [] 4 (tn [0, 1, 10, 11, 18, 19, 24, 25, 31] 12) az w21) (an (WE V_ok 0 [] 12 (tn [0, 1, 10, 11, 17, 19, 26, 31] 12) (ac n2 (ac n3 az)) w23) aN))
    have w18 : WA P 12 (opsX x) 8 (bs 22 106479) Φ t18 := WT V_ok [] 13 (tn [0, 1, 10, 11, 17, 19, 27, 29, 30] 12) az w22
    have w17 : WA P 12 (opsX x) 8 (bs 22 232447) Φ t17 := WAs (an (WE V_ok 0 [] 10 (tn [0, 1, 10, 11, 18, 19, 24, 25, 31] 12) az w21) aN)
    have w16 : WA P 12 (opsX x) 8 (bs 22 102399) Φ t16 := WAs (an (WE V_ok 0 [] 12 (tn [0, 1, 10, 11, 18, 19, 26, 29, 30] 12) (ac n2 (ac n3 az)) w20) (an (WC V_ok 17 (tn [0, 1, 10, 11, 18, 19, 24, 25, 31] 12) i_control_all_1_252.at_ (i_control_all_1_252.ok e5) w21) aN))
    have w15 : WA P 12 (opsX x) 9 (bs 22 232431) Φ t15 := WAs (an (WE V_ok 0 [] 4 (tn [0, 1, 10, 11, 18, 19, 23, 25, 31] 12) az w17) (an (WE V_ok 0 [] 10 (tn [0, 1, 10, 11, 17, 19, 24, 25, 31] 12) az w19) aN))
    have w14 : WA P 12 (opsX x) 9 (bs 22 102383) Φ t14 := WAs (an (WE V_ok 0 [] 4 (tn [0, 1, 10, 11, 18, 19, 24, 25, 29, 30] 12) az w16) (an (WE V_ok 0 [] 12 (tn [0, 1, 10, 11, 17, 19, 26, 29, 30] 12) (ac n2 (ac n3 az)) w18) (an (WC V_ok 17 (tn [0, 1, 10, 11, 17, 19, 24, 25, 31] 12) i_control_all_1_252.at_ (i_control_all_1_252.ok e5) w19) aN)))
    have w13 : WA P 12 (opsX x) 9 (bs 22 101375) Φ t13 := WAs (an (WE V_ok 0 [] 10 (tn [0, 1, 10, 11, 18, 19, 24, 25, 29, 30] 12) az w16) (an (WC V_ok 17 (tn [0, 1, 10, 11, 18, 19, 23, 25, 31] 12) i_control_all_1_252.at_ (i_control_all_1_252.ok e5) w17) aN))
    have w12 : WA P 12 (opsX x) 10 (bs 22 101359) Φ t12 := WAs (an (WE V_ok 0 [] 4 (tn [0, 1, 10, 11, 18, 19, 23, 25, 29, 30] 12) az w13) (an (WE V_ok 0 [] 10 (tn [0, 1, 10, 11, 17, 19, 24, 25, 29, 30] 12) az w14) (an (WC V_ok 17 (tn [0, 1, 10, 11, 17, 19, 23, 25, 31] 12) i_control_all_1_252.at_ (i_control_all_1_252.ok e5) w15) aN)))
    have w11 : WA P 12 (opsX x) 11 (bs 22 35823) Φ t11 := WT V_ok [] 16 (tn [0, 1, 10, 11, 17, 19, 23, 25, 29, 30] 12) az w12
    have w10 : WA P 12 (opsX x) 12 (bs 22 3055) Φ t10 := WT V_ok [] 15 (tn [0, 1, 4, 10, 11, 17, 19, 23, 25, 29] 12) az w11
    have w9 : WA P 12 (opsX x) 13 (bs 22 1007) Φ t9 := WT V_ok [] 11 (tn [0, 1, 4, 10, 11, 17, 19, 23, 25] 12) az w10
    have w8 : WA P 12 (opsX x) 14 (bs 22 495) Φ t8 := WT V_ok [] 9 (tn [0, 1, 4, 10, 11, 17, 19, 23] 12) az w9
    have w7 : WA P 12 (opsX x) 15 (bs 22 239) Φ t7 := WT V_ok [] 8 (tn [0, 1, 4, 10, 11, 17, 19, 22] 12) az w8
    have w6 : WA P 12 (opsX x) 16 (bs 22 111) Φ t6 := WT V_ok [] 7 (tn [0, 1, 4, 10, 11, 17, 19, 21] 12) az w7
    have w5 : WA P 12 (opsX x) 17 (bs 22 47) Φ t5 := WT V_ok [] 6 (tn [0, 1, 4, 10, 11, 17, 19, 20] 12) az w6
    have w4 : WA P 12 (opsX x) 18 (bs 22 15) Φ t4 := WT V_ok [] 5 (tn [0, 1, 4, 10, 11, 17, 19] 12) az w5
    have w3 : WA P 12 (opsX x) 19 (bs 22 7) Φ t3 := WT V_ok [] 3 (tn [0, 1, 4, 10, 11, 17] 12) az w4
    have w2 : WA P 12 (opsX x) 20 (bs 22 3) Φ t2 := WT V_ok [] 2 (tn [0, 1, 4, 10, 11, 16] 12) az w3
    have w1 : WA P 12 (opsX x) 21 (bs 22 1) Φ t1 := WT V_ok [] 1 (tn [0, 1, 4, 10, 11, 15] 12) az w2
    have w0 : WA P 12 (opsX x) 22 (bs 22 0) Φ t0 := WT V_ok [] 0 (tn [0, 1, 4, 10, 11, 14] 12) az w1
    exact RA V_ok 22 (by kernel_rfl) (by kernel_rfl) (by kernel_rfl) w0
  · refine C0 hb1 ?_
    obtain rfl := Option.some.inj H
    exact Lq (tn [] 12)
noncomputable def l1 (x1 : T26b3.T) (x2 x3 x4 x5 x6 x7 x8 x9 x10 x11 x12 x13 x14 x15 : Int) (x16 : List (List (List T1383.T))) (x17 : List Int) (x19 : List T713d.T) (x20 x21 : List Int) (x22 x23 : Int) (k : Nat) : Nat → Int → Int → List T23b6.T → Option R
  | 0, _, _, _ => none
  | m + 1, p1, p2, p20 => b1 x1 x2 x3 x4 x5 x6 x7 x8 x9 x10 x11 x12 x13 x14 x15 x16 x17 x19 x20 x21 x22 x23 (l1 x1 x2 x3 x4 x5 x6 x7 x8 x9 x10 x11 x12 x13 x14 x15 x16 x17 x19 x20 x21 x22 x23 k m) k p1 p2 p20
theorem l1_ok {r x1 x2 x3 x4 x5 x6 x7 x8 x9 x10 x11 x12 x13 x14 x15 x16 x17 x19 x20 x21 x22 x23} (k : Nat) : ∀ (m1 : Nat) (p1 p2 : Int) (p20 : List T23b6.T), l1 x1 x2 x3 x4 x5 x6 x7 x8 x9 x10 x11 x12 x13 x14 x15 x16 x17 x19 x20 x21 x22 x23 k m1 p1 p2 p20 = some r → Gw P 12 (Q x1 x2 x3 x4 x5 x6 x7 x8 x9 x10 x11 x12 x13 x14 x15 x16 x17 x19 x20 x21 x22 x23 r) (Pb c0 5 [] m1) (s1 x1 x2 x3 x4 x5 x6 x7 x8 x9 x10 x11 x12 x13 x14 x15 x16 x17 x19 x20 x21 x22 x23 p1 p2 p20)
  | 0, _, _, _, H => by cases H
  | m1 + 1, p1, p2, p20, H => SU (by kernel_rfl) (b1_ok (l1_ok k m1) H)
noncomputable def f (k : Nat) (x1 : T26b3.T) (x2 x3 x4 x5 x6 x7 x8 x9 x10 x11 x12 x13 x14 x15 : Int) (x16 : List (List (List T1383.T))) (x17 : List Int) (x18 : List T23b6.T) (x19 : List T713d.T) (x20 x21 : List Int) (x22 x23 : Int) : Option R :=
  l1 x1 x2 x3 x4 x5 x6 x7 x8 x9 x10 x11 x12 x13 x14 x15 x16 x17 x19 x20 x21 x22 x23 k k (x18.length : Int) 0 x18
theorem f_ok {r k x1 x2 x3 x4 x5 x6 x7 x8 x9 x10 x11 x12 x13 x14 x15 x16 x17 x18 x19 x20 x21 x22 x23} (H : f k x1 x2 x3 x4 x5 x6 x7 x8 x9 x10 x11 x12 x13 x14 x15 x16 x17 x18 x19 x20 x21 x22 x23 = some r) : Gw P 12 (Q x1 x2 x3 x4 x5 x6 x7 x8 x9 x10 x11 x12 x13 x14 x15 x16 x17 x19 x20 x21 x22 x23 r) (Px c0 1 []) (s0 x1 x2 x3 x4 x5 x6 x7 x8 x9 x10 x11 x12 x13 x14 x15 x16 x17 x18 x19 x20 x21 x22 x23) := by
  unfold f at H
  refine Rg V_ok 0 [] az ?_
  exact LP k (Jm (tn [0, 1, 10, 11] 12) (l1_ok k k (x18.length : Int) 0 x18 H))
theorem ok {r k x1 x2 x3 x4 x5 x6 x7 x8 x9 x10 x11 x12 x13 x14 x15 x16 x17 x18 x19 x20 x21 x22 x23} (H : f k x1 x2 x3 x4 x5 x6 x7 x8 x9 x10 x11 x12 x13 x14 x15 x16 x17 x18 x19 x20 x21 x22 x23 = some r) : W P 12 c0 (s0 x1 x2 x3 x4 x5 x6 x7 x8 x9 x10 x11 x12 x13 x14 x15 x16 x17 x18 x19 x20 x21 x22 x23) (CallQ 12 (out x1 x2 x3 x4 x5 x6 x7 x8 x9 x10 x11 x12 x13 x14 x15 x16 x17 x19 x20 x21 x22 x23 r)) := of_G (f_ok H)
theorem at_ : FnAt P 75 36 c0 Go.Proofs.Tryd.f75.results := fnAt Go.Proofs.Tryd.func75 (by kernel_rfl) (by decide) (by kernel_rfl) (by kernel_rfl)
end i_control_controller_tell_863
/-! ### function 81, (*wayfinder/control.controller).end, where it is called -/

namespace i_control_controller_end_f90
noncomputable def c0 : Code := (Go.Proofs.Tryd.f81.body).getD .skip
noncomputable def V : Env := { tt := tt, Γ := slk [] }
theorem V_ok : EnvOk P V := { ck := tt_ck, fits := slk_nil, mixed := mixed }
abbrev R := (Int) × (Int) × Unit
noncomputable def s0 (x1 : Int) (x2 : T26b3.T) (x3 x4 x5 x6 x7 x8 x9 x10 x11 x12 x13 x14 x15 x16 : Int) (x17 : List (List (List T1383.T))) (x18 : List Int) (x19 : List T23b6.T) (x20 : List T713d.T) (x21 x22 : List Int) : St := ⟨17, [(0, .cv (.one (.ptr 3 0))), (1, .cv (.one (.i x1)))], [(.box 13, (encC .any T26b3 x2)), (.box 13, [.nils, .i x3, .i x4, .i x5, .i x6, .i x7, .i x8, .nils, .nils, .nils, .nils, .nils, .i x9]), (.box 6, [.fn 35 [] [], .fn 36 [] [], .fn 37 [] [], .fn 38 [] [], .fn 39 [] [], .fn 39 [] []]), (.box 13, [.own 4, .i x10, .i x11, .i x12, .i x13, .i x14, .i x15, .own 5, .own 6, .own 7, .own 10, .own 9, .i x16]), (.buf 64 (.slice (.slice T1383)) x17, []), (.buf 3 (.int .i64) x18, []), (.buf 50 T23b6 x19, []), (.buf 95 T713d x20, []), (.dead, []), (.buf 3 (.int .i64) x21, []), (.buf 3 (.int .i64) x22, [])]⟩
noncomputable def out (x1 : Int) (x2 : T26b3.T) (x3 x4 x5 x6 x7 x8 x9 x10 x12 x15 x16 : Int) (x17 : List (List (List T1383.T))) (x18 : List Int) (x19 : List T23b6.T) (x20 : List T713d.T) (x21 x22 : List Int) (r : R) : St := ⟨17, [], [(.box 13, (encC .any T26b3 x2)), (.box 13, [.nils, .i x3, .i x4, .i x5, .i x6, .i x7, .i x8, .nils, .nils, .nils, .nils, .nils, .i x9]), (.box 6, [.fn 35 [] [], .fn 36 [] [], .fn 37 [] [], .fn 38 [] [], .fn 39 [] [], .fn 39 [] []]), (.box 13, [.own 4, .i x10, .i r.1, .i x12, .i r.2.1, .i x1, .i x15, .own 5, .own 6, .own 7, .own 10, .own 9, .i x16]), (.buf 64 (.slice (.slice T1383)) x17, []), (.buf 3 (.int .i64) x18, []), (.buf 50 T23b6 x19, []), (.buf 95 T713d x20, []), (.dead, []), (.buf 3 (.int .i64) x21, []), (.buf 3 (.int .i64) x22, [])]⟩
abbrev Q (x1 : Int) (x2 : T26b3.T) (x3 x4 x5 x6 x7 x8 x9 x10 x12 x15 x16 : Int) (x17 : List (List (List T1383.T))) (x18 : List Int) (x19 : List T23b6.T) (x20 : List T713d.T) (x21 x22 : List Int) (r : R) := CallQ 11 (out x1 x2 x3 x4 x5 x6 x7 x8 x9 x10 x12 x15 x16 x17 x18 x19 x20 x21 x22 r)
noncomputable def f (k : Nat) (x1 : Int) (x2 : T26b3.T) (x3 x4 x5 x6 x7 x8 x9 x10 x11 x12 x13 x14 x15 x16 : Int) (x17 : List (List (List T1383.T))) (x18 : List Int) (x19 : List T23b6.T) (x20 : List T713d.T) (x21 x22 : List Int) : Option R :=
  some ((-1), ((0 : Int), ()))
theorem f_ok {r k x1 x2 x3 x4 x5 x6 x7 x8 x9 x10 x11 x12 x13 x14 x15 x16 x17 x18 x19 x20 x21 x22} (H : f k x1 x2 x3 x4 x5 x6 x7 x8 x9 x10 x11 x12 x13 x14 x15 x16 x17 x18 x19 x20 x21 x22 = some r) : Gw P 11 (Q x1 x2 x3 x4 x5 x6 x7 x8 x9 x10 x12 x15 x16 x17 x18 x19 x20 x21 x22 r) (Px c0 1 []) (s0 x1 x2 x3 x4 x5 x6 x7 x8 x9 x10 x11 x12 x13 x14 x15 x16 x17 x18 x19 x20 x21 x22) := by
  unfold f at H
  refine Rg V_ok 0 [] az ?_
  obtain rfl := Option.some.inj H
  exact Lq (tn [] 11)
theorem ok {r k x1 x2 x3 x4 x5 x6 x7 x8 x9 x10 x11 x12 x13 x14 x15 x16 x17 x18 x19 x20 x21 x22} (H : f k x1 x2 x3 x4 x5 x6 x7 x8 x9 x10 x11 x12 x13 x14 x15 x16 x17 x18 x19 x20 x21 x22 = some r) : W P 11 c0 (s0 x1 x2 x3 x4 x5 x6 x7 x8 x9 x10 x11 x12 x13 x14 x15 x16 x17 x18 x19 x20 x21 x22) (CallQ 11 (out x1 x2 x3 x4 x5 x6 x7 x8 x9 x10 x12 x15 x16 x17 x18 x19 x20 x21 x22 r)) := of_G (f_ok H)
theorem at_ : FnAt P 81 17 c0 Go.Proofs.Tryd.f81.results := fnAt Go.Proofs.Tryd.func81 (by kernel_rfl) (by decide) (by kernel_rfl) (by kernel_rfl)
end i_control_controller_end_f90
/-! ### function 38, (*wayfinder/control.controller).drain, where it is called -/

namespace i_control_controller_drain_d8b
noncomputable def c0 : Code := (Go.Proofs.Tryd.f38.body).getD .skip
noncomputable def V : Env := { tt := tt, Γ := slk [] }
theorem V_ok : EnvOk P V := { ck := tt_ck, fits := slk_nil, mixed := mixed }
abbrev R := (Int) × (Int) × (Int) × (Int) × (Int) × (Int) × (List Int) × (List T23b6.T) × Unit
noncomputable def s0 (x1 : T26b3.T) (x2 x3 x4 x5 x6 x7 x8 x9 x10 x11 x12 x13 x14 x15 : Int) (x16 : List (List (List T1383.T))) (x17 : List Int) (x18 : List T23b6.T) (x19 : List T713d.T) (x20 x21 : List Int) : St := ⟨61, [(0, .cv (.one (.ptr 3 0)))], [(.box 13, (encC .any T26b3 x1)), (.box 13, [.nils, .i x2, .i x3, .i x4, .i x5, .i x6, .i x7, .nils, .nils, .nils, .nils, .nils, .i x8]), (.box 6, [.fn 35 [] [], .fn 36 [] [], .fn 37 [] [], .fn 38 [] [], .fn 39 [] [], .fn 39 [] []]), (.box 13, [.own 4, .i x9, .i x10, .i x11, .i x12, .i x13, .i x14, .own 5, .own 6, .own 7, .own 8, .own 9, .i x15]), (.buf 64 (.slice (.slice T1383)) x16, []), (.buf 3 (.int .i64) x17, []), (.buf 50 T23b6 x18, []), (.buf 95 T713d x19, []), (.buf 3 (.int .i64) x20, []), (.buf 3 (.int .i64) x21, [])]⟩
noncomputable def out (x1 : T26b3.T) (x2 x3 x4 x5 x6 x7 x8 x15 : Int) (x16 : List (List (List T1383.T))) (x17 : List Int) (x19 : List T713d.T) (x21 : List Int) (r : R) : St := ⟨61, [], [(.box 13, (encC .any T26b3 x1)), (.box 13, [.nils, .i x2, .i x3, .i x4, .i x5, .i x6, .i x7, .nils, .nils, .nils, .nils, .nils, .i x8]), (.box 6, [.fn 35 [] [], .fn 36 [] [], .fn 37 [] [], .fn 38 [] [], .fn 39 [] [], .fn 39 [] []]), (.box 13, [.own 4, .i r.1, .i r.2.1, .i r.2.2.1, .i r.2.2.2.1, .i r.2.2.2.2.1, .i r.2.2.2.2.2.1, .own 5, .own 6, .own 7, .sl (.int .i64) r.2.2.2.2.2.2.1 .any, .own 9, .i x15]), (.buf 64 (.slice (.slice T1383)) x16, []), (.buf 3 (.int .i64) x17, []), (.buf 50 T23b6 r.2.2.2.2.2.2.2.1, []), (.buf 95 T713d x19, []), (.dead, []), (.buf 3 (.int .i64) x21, [])]⟩
abbrev Q (x1 : T26b3.T) (x2 x3 x4 x5 x6 x7 x8 x15 : Int) (x16 : List (List (List T1383.T))) (x17 : List Int) (x19 : List T713d.T) (x21 : List Int) (r : R) := CallQ 10 (out x1 x2 x3 x4 x5 x6 x7 x8 x15 x16 x17 x19 x21 r)
noncomputable def f (k : Nat) (x1 : T26b3.T) (x2 x3 x4 x5 x6 x7 x8 x9 x10 x11 x12 x13 x14 x15 : Int) (x16 : List (List (List T1383.T))) (x17 : List Int) (x18 : List T23b6.T) (x19 : List T713d.T) (x20 x21 : List Int) : Option R :=
  if (decide ((IntKind.i64.wrap (x14 - 1)) ≥ (1 : Int))) = true then
    some (x9, (x10, (x11, (x12, (x13, ((IntKind.i64.wrap (x14 - 1)), (x20, (x18, ()))))))))
  else
    (i_control_all_1a4.f k (4 : Int) x11 x1 x2 x3 x4 x5 x6 x7 x8 x9 x10 x11 x12 x13 (IntKind.i64.wrap (x14 - 1)) x15 x16 x17 x18 x19 x20 x21).bind fun y2 =>
      (i_control_controller_tell_863.f k x1 x2 x3 x4 x5 x6 x7 x8 x9 x10 x11 x12 x13 (IntKind.i64.wrap (x14 - 1)) x15 x16 x17 x18 x19 x20 x21 (4 : Int) x11).bind fun y4 =>
        if (x20.length + 1) * 8 ≤ 140737488355328 then
          (i_control_controller_end_f90.f k (4 : Int) x1 x2 x3 x4 x5 x6 x7 x8 x10 x10 x12 x12 x13 (IntKind.i64.wrap (x14 - 1)) x15 x16 x17 y4.1 x19 x21 (x20 ++ [x10])).bind fun y7 =>
            some (x10, (y7.1, (x12, (y7.2.1, ((4 : Int), ((IntKind.i64.wrap (x14 - 1)), ((x20 ++ [x10]), (y4.1, ()))))))))
        else none
theorem f_ok {r k x1 x2 x3 x4 x5 x6 x7 x8 x9 x10 x11 x12 x13 x14 x15 x16 x17 x18 x19 x20 x21} (H : f k x1 x2 x3 x4 x5 x6 x7 x8 x9 x10 x11 x12 x13 x14 x15 x16 x17 x18 x19 x20 x21 = some r) : Gw P 10 (Q x1 x2 x3 x4 x5 x6 x7 x8 x15 x16 x17 x19 x21 r) (Px c0 1 []) (s0 x1 x2 x3 x4 x5 x6 x7 x8 x9 x10 x11 x12 x13 x14 x15 x16 x17 x18 x19 x20 x21) := by
  unfold f at H
  refine Rg V_ok 0 [] az ?_
  refine Rg V_ok 0 [] az ?_
  rcases of_ite H with ⟨hb1, H⟩ | ⟨hb1, H⟩
  · refine C1 hb1 ?_
    obtain rfl := Option.some.inj H
    exact Lq {fz := [8], gr := 0, ad := [], live := [], src := [some 0, some 1, some 2, some 3, some 4, some 5, some 6, some 7, some 8, some 9]}
  · refine C0 hb1 ?_
    refine GT (tn [0] 10) (RI ?_)
    refine EV V_ok 0 [] 6 az ?_
    obtain ⟨y2, e3, H⟩ := of_bind H
    refine CL V_ok i_control_all_1a4.at_ (i_control_all_1a4.ok e3) ?_
    obtain ⟨y4, e5, H⟩ := of_bind H
    refine CL V_ok i_control_controller_tell_863.at_ (i_control_controller_tell_863.ok e5) ?_
    refine RN ?_
    obtain ⟨n6, H⟩ := of_if H
    refine Rg V_ok 1 [(12, hb 12)] (ac n6 az) ?_
    refine Rg V_ok 0 [] az ?_
    refine GT (tl [0] [0, 1, 2, 3, 4, 5, 6, 7, 8, 9, 12]) (RI ?_)
    refine EV V_ok 0 [] 1 az ?_
    obtain ⟨y7, e8, H⟩ := of_bind H
    refine CL V_ok i_control_controller_end_f90.at_ (i_control_controller_end_f90.ok e8) ?_
    refine RN ?_
    obtain rfl := Option.some.inj H
    exact Lq {fz := [10], gr := 0, ad := [], live := [], src := [some 0, some 1, some 2, some 3, some 4, some 5, some 6, some 7, some 8, some 9]}
theorem ok {r k x1 x2 x3 x4 x5 x6 x7 x8 x9 x10 x11 x12 x13 x14 x15 x16 x17 x18 x19 x20 x21} (H : f k x1 x2 x3 x4 x5 x6 x7 x8 x9 x10 x11 x12 x13 x14 x15 x16 x17 x18 x19 x20 x21 = some r) : W P 10 c0 (s0 x1 x2 x3 x4 x5 x6 x7 x8 x9 x10 x11 x12 x13 x14 x15 x16 x17 x18 x19 x20 x21) (CallQ 10 (out x1 x2 x3 x4 x5 x6 x7 x8 x15 x16 x17 x19 x21 r)) := of_G (f_ok H)
theorem at_ : FnAt P 38 61 c0 Go.Proofs.Tryd.f38.results := fnAt Go.Proofs.Tryd.func38 (by kernel_rfl) (by decide) (by kernel_rfl) (by kernel_rfl)
end i_control_controller_drain_d8b
/-! ### function 39, (*wayfinder/control.controller).rest, where it is called -/

namespace i_control_controller_rest_d8b
noncomputable def c0 : Code := (Go.Proofs.Tryd.f39.body).getD .skip
noncomputable def V : Env := { tt := tt, Γ := slk [] }
theorem V_ok : EnvOk P V := { ck := tt_ck, fits := slk_nil, mixed := mixed }
abbrev R := (Int) × Unit
noncomputable def s0 (x1 : T26b3.T) (x2 x3 x4 x5 x6 x7 x8 x9 x10 x11 x12 x13 x14 x15 : Int) (x16 : List (List (List T1383.T))) (x17 : List Int) (x18 : List T23b6.T) (x19 : List T713d.T) (x20 x21 : List Int) : St := ⟨8, [(0, .cv (.one (.ptr 3 0)))], [(.box 13, (encC .any T26b3 x1)), (.box 13, [.nils, .i x2, .i x3, .i x4, .i x5, .i x6, .i x7, .nils, .nils, .nils, .nils, .nils, .i x8]), (.box 6, [.fn 35 [] [], .fn 36 [] [], .fn 37 [] [], .fn 38 [] [], .fn 39 [] [], .fn 39 [] []]), (.box 13, [.own 4, .i x9, .i x10, .i x11, .i x12, .i x13, .i x14, .own 5, .own 6, .own 7, .own 8, .own 9, .i x15]), (.buf 64 (.slice (.slice T1383)) x16, []), (.buf 3 (.int .i64) x17, []), (.buf 50 T23b6 x18, []), (.buf 95 T713d x19, []), (.buf 3 (.int .i64) x20, []), (.buf 3 (.int .i64) x21, [])]⟩
noncomputable def out (x1 : T26b3.T) (x2 x3 x4 x5 x6 x7 x8 x9 x10 x11 x12 x14 x15 : Int) (x16 : List (List (List T1383.T))) (x17 : List Int) (x18 : List T23b6.T) (x19 : List T713d.T) (x20 x21 : List Int) (r : R) : St := ⟨8, [], [(.box 13, (encC .any T26b3 x1)), (.box 13, [.nils, .i x2, .i x3, .i x4, .i x5, .i x6, .i x7, .nils, .nils, .nils, .nils, .nils, .i x8]), (.box 6, [.fn 35 [] [], .fn 36 [] [], .fn 37 [] [], .fn 38 [] [], .fn 39 [] [], .fn 39 [] []]), (.box 13, [.own 4, .i x9, .i x10, .i x11, .i x12, .i r.1, .i x14, .own 5, .own 6, .own 7, .own 8, .own 9, .i x15]), (.buf 64 (.slice (.slice T1383)) x16, []), (.buf 3 (.int .i64) x17, []), (.buf 50 T23b6 x18, []), (.buf 95 T713d x19, []), (.buf 3 (.int .i64) x20, []), (.buf 3 (.int .i64) x21, [])]⟩
abbrev Q (x1 : T26b3.T) (x2 x3 x4 x5 x6 x7 x8 x9 x10 x11 x12 x14 x15 : Int) (x16 : List (List (List T1383.T))) (x17 : List Int) (x18 : List T23b6.T) (x19 : List T713d.T) (x20 x21 : List Int) (r : R) := CallQ 10 (out x1 x2 x3 x4 x5 x6 x7 x8 x9 x10 x11 x12 x14 x15 x16 x17 x18 x19 x20 x21 r)
noncomputable def f (k : Nat) (x1 : T26b3.T) (x2 x3 x4 x5 x6 x7 x8 x9 x10 x11 x12 x13 x14 x15 : Int) (x16 : List (List (List T1383.T))) (x17 : List Int) (x18 : List T23b6.T) (x19 : List T713d.T) (x20 x21 : List Int) : Option R :=
  (i_control_controller_done_d8b.f k x1 x2 x3 x4 x5 x6 x7 x8 x9 x10 x11 x12 x13 x14 x15 x16 x17 x18 x19 x20 x21).bind fun y1 =>
    if y1.1 = true then
      some ((0 : Int), ())
    else
      some (x13, ())
theorem f_ok {r k x1 x2 x3 x4 x5 x6 x7 x8 x9 x10 x11 x12 x13 x14 x15 x16 x17 x18 x19 x20 x21} (H : f k x1 x2 x3 x4 x5 x6 x7 x8 x9 x10 x11 x12 x13 x14 x15 x16 x17 x18 x19 x20 x21 = some r) : Gw P 10 (Q x1 x2 x3 x4 x5 x6 x7 x8 x9 x10 x11 x12 x14 x15 x16 x17 x18 x19 x20 x21 r) (Px c0 1 []) (s0 x1 x2 x3 x4 x5 x6 x7 x8 x9 x10 x11 x12 x13 x14 x15 x16 x17 x18 x19 x20 x21) := by
  unfold f at H
  refine GT (tn [0] 10) (RI ?_)
  refine EV V_ok 0 [] 1 az ?_
  obtain ⟨y1, e2, H⟩ := of_bind H
  refine CL V_ok i_control_controller_done_d8b.at_ (i_control_controller_done_d8b.ok e2) ?_
  refine RN ?_
  rcases of_ite H with ⟨hb3, H⟩ | ⟨hb3, H⟩
  · refine C1 hb3 ?_
    refine Rg V_ok 0 [] az ?_
    obtain rfl := Option.some.inj H
    exact Lq (tn [] 10)
  · refine C0 hb3 ?_
    obtain rfl := Option.some.inj H
    exact Lq (tn [] 10)
theorem ok {r k x1 x2 x3 x4 x5 x6 x7 x8 x9 x10 x11 x12 x13 x14 x15 x16 x17 x18 x19 x20 x21} (H : f k x1 x2 x3 x4 x5 x6 x7 x8 x9 x10 x11 x12 x13 x14 x15 x16 x17 x18 x19 x20 x21 = some r) : W P 10 c0 (s0 x1 x2 x3 x4 x5 x6 x7 x8 x9 x10 x11 x12 x13 x14 x15 x16 x17 x18 x19 x20 x21) (CallQ 10 (out x1 x2 x3 x4 x5 x6 x7 x8 x9 x10 x11 x12 x14 x15 x16 x17 x18 x19 x20 x21 r)) := of_G (f_ok H)
theorem at_ : FnAt P 39 8 c0 Go.Proofs.Tryd.f39.results := fnAt Go.Proofs.Tryd.func39 (by kernel_rfl) (by decide) (by kernel_rfl) (by kernel_rfl)
end i_control_controller_rest_d8b
/-! ### function 15, wayfinder/control.Tick -/

namespace f_control_Tick
noncomputable def c0 : Code := (Go.Proofs.Tryd.f15.body).getD .skip
abbrev ps : Sg := [(true, T26b3)]
abbrev rs : Sg := [(true, T26b3)]
noncomputable def V : Env := { tt := tt, Γ := slk [] }
theorem V_ok : EnvOk P V := { ck := tt_ck, fits := slk_nil, mixed := mixed }
abbrev R := Tup rs
noncomputable abbrev Q (r : R) : Exit → St → Prop := Qr tt Go.Proofs.Tryd.f15.results ⟨ps, rs, .any, none, fun _ _ => True⟩ r
noncomputable def s1 (a1 : T26b3.T) (p1 : Bool) (p3 p4 p5 p6 p7 p8 p9 p10 p11 p12 p13 p14 p15 p16 : Int) (p17 : List (List (List T1383.T))) (p18 : List Int) (p19 : List T23b6.T) (p20 : List T713d.T) (p21 p22 : List Int) : St := ⟨30, [(1, .cv (.one (.ptr 0 0))), (2, .cv (.one (.ptr 1 0))), (3, .cv (.one (.ptr 2 0))), (4, .cv (.one (.ptr 3 0))), (19, .cv (.one (.bool p1)))], [(.box 13, (encC .any T26b3 a1)), (.box 13, [.nils, .i p3, .i p4, .i p5, .i p6, .i p7, .i p8, .nils, .nils, .nils, .nils, .nils, .i p9]), (.box 6, [.fn 35 [] [], .fn 36 [] [], .fn 37 [] [], .fn 38 [] [], .fn 39 [] [], .fn 39 [] []]), (.box 13, [.own 4, .i p10, .i p11, .i p12, .i p13, .i p14, .i p15, .own 5, .own 6, .own 7, .own 8, .own 9, .i p16]), (.buf 64 (.slice (.slice T1383)) p17, []), (.buf 3 (.int .i64) p18, []), (.buf 50 T23b6 p19, []), (.buf 95 T713d p20, []), (.buf 3 (.int .i64) p21, []), (.buf 3 (.int .i64) p22, [])]⟩
noncomputable def j1 (a1 : T26b3.T) (k : Nat) (p1 : Bool) (p3 p4 p5 p6 p7 p8 p9 p10 p11 p12 p13 p14 p15 p16 : Int) (p17 : List (List (List T1383.T))) (p18 : List Int) (p19 : List T23b6.T) (p20 : List T713d.T) (p21 p22 : List Int) : Option R :=
  if p1 = true then
  if a1.2.2.2.2.2.1 = (0 : Int) then
    (i_control_controller_idle_d8b.f k a1 p3 p4 p5 p6 p7 p8 p9 p10 p11 p12 p13 p14 p15 p16 p17 p18 p19 p20 p21 p22).bind fun y9 =>
      some ((p17, (p10, (y9.1, (p12, (y9.2.1, (y9.2.2.1, (p15, (y9.2.2.2.1, (y9.2.2.2.2.2.1, (y9.2.2.2.2.1, (p21, (p22, p16)))))))))))), ())
  else
    if a1.2.2.2.2.2.1 = (1 : Int) then
      (i_control_controller_install_d8b.f k a1 p3 p4 p5 p6 p7 p8 p9 p10 p11 p12 p13 p14 p15 p16 p17 p18 p19 p20 p21 p22).bind fun y12 =>
        some ((p17, (p10, (y12.1, (p12, (y12.2.1, (y12.2.2.1, (p15, (p18, (y12.2.2.2.2.1, (p20, (p21, (y12.2.2.2.1, p16)))))))))))), ())
    else
      if a1.2.2.2.2.2.1 = (2 : Int) then
        (i_control_controller_flip_d8b.f k a1 p3 p4 p5 p6 p7 p8 p9 p10 p11 p12 p13 p14 p15 p16 p17 p18 p19 p20 p21 p22).bind fun y15 =>
          some ((p17, (p10, (p11, (p12, (p13, (y15.1, (y15.2.1, (p18, (p19, (p20, (p21, (p22, p16)))))))))))), ())
      else
        if a1.2.2.2.2.2.1 = (3 : Int) then
          (i_control_controller_drain_d8b.f k a1 p3 p4 p5 p6 p7 p8 p9 p10 p11 p12 p13 p14 p15 p16 p17 p18 p19 p20 p21 p22).bind fun y18 =>
            some ((p17, (y18.1, (y18.2.1, (y18.2.2.1, (y18.2.2.2.1, (y18.2.2.2.2.1, (y18.2.2.2.2.2.1, (p18, (y18.2.2.2.2.2.2.2.1, (p20, (y18.2.2.2.2.2.2.1, (p22, p16)))))))))))), ())
        else
          if a1.2.2.2.2.2.1 = (4 : Int) then
            (i_control_controller_rest_d8b.f k a1 p3 p4 p5 p6 p7 p8 p9 p10 p11 p12 p13 p14 p15 p16 p17 p18 p19 p20 p21 p22).bind fun y21 =>
              some ((p17, (p10, (p11, (p12, (p13, (y21.1, (p15, (p18, (p19, (p20, (p21, (p22, p16)))))))))))), ())
          else
            if a1.2.2.2.2.2.1 = (5 : Int) then
              (i_control_controller_rest_d8b.f k a1 p3 p4 p5 p6 p7 p8 p9 p10 p11 p12 p13 p14 p15 p16 p17 p18 p19 p20 p21 p22).bind fun y24 =>
                some ((p17, (p10, (p11, (p12, (p13, (y24.1, (p15, (p18, (p19, (p20, (p21, (p22, p16)))))))))))), ())
            else
              none
else
  some ((p17, (p10, (p11, (p12, (p13, (p14, (p15, (p18, (p19, (p20, (p21, (p22, p16)))))))))))), ())
theorem j1_ok {r a1} {k p1 p3 p4 p5 p6 p7 p8 p9 p10 p11 p12 p13 p14 p15 p16 p17 p18 p19 p20 p21 p22} (H : j1 a1 k p1 p3 p4 p5 p6 p7 p8 p9 p10 p11 p12 p13 p14 p15 p16 p17 p18 p19 p20 p21 p22 = some r) : Gw P 0 (Q r) (Px c0 55 []) (s1 a1 p1 p3 p4 p5 p6 p7 p8 p9 p10 p11 p12 p13 p14 p15 p16 p17 p18 p19 p20 p21 p22) := by
  unfold j1 at H
  rcases of_ite H with ⟨hb7, H⟩ | ⟨hb7, H⟩
  · refine C1 hb7 ?_
    refine GT (tn [1, 2, 3, 4] 10) (RI ?_)
    refine EV V_ok 0 [] 2 az ?_
    rcases of_ifx H with ⟨hi8, H⟩ | ⟨hi8, H⟩
    · refine FXIO (k := .i64) 21 hi8 ?_
      refine EV V_ok 0 [] 3 (ac (show 0 ≤ (0 : Int) by decide) (ac (show (0 : Int) < (6 : Int) by decide) az)) ?_
      obtain ⟨y9, e10, H⟩ := of_bind H
      refine CL V_ok i_control_controller_idle_d8b.at_ (i_control_controller_idle_d8b.ok e10) ?_
      refine RN ?_
      refine Rg V_ok 0 [] az ?_
      exact Lf (Eq.trans (by kernel_rfl) H)
    · rcases of_ifx H with ⟨hi11, H⟩ | ⟨hi11, H⟩
      · refine FXIO (k := .i64) 21 hi11 ?_
        refine EV V_ok 0 [] 3 (ac (show 0 ≤ (1 : Int) by decide) (ac (show (1 : Int) < (6 : Int) by decide) az)) ?_
        obtain ⟨y12, e13, H⟩ := of_bind H
        refine CL V_ok i_control_controller_install_d8b.at_ (i_control_controller_install_d8b.ok e13) ?_
        refine RN ?_
        refine Rg V_ok 0 [] az ?_
        exact Lf (Eq.trans (by kernel_rfl) H)
      · rcases of_ifx H with ⟨hi14, H⟩ | ⟨hi14, H⟩
        · refine FXIO (k := .i64) 21 hi14 ?_
          refine EV V_ok 0 [] 3 (ac (show 0 ≤ (2 : Int) by decide) (ac (show (2 : Int) < (6 : Int) by decide) az)) ?_
          obtain ⟨y15, e16, H⟩ := of_bind H
          refine CL V_ok i_control_controller_flip_d8b.at_ (i_control_controller_flip_d8b.ok e16) ?_
          refine RN ?_
          refine Rg V_ok 0 [] az ?_
          exact Lf (Eq.trans (by kernel_rfl) H)
        · rcases of_ifx H with ⟨hi17, H⟩ | ⟨hi17, H⟩
          · refine FXIO (k := .i64) 21 hi17 ?_
            refine EV V_ok 0 [] 3 (ac (show 0 ≤ (3 : Int) by decide) (ac (show (3 : Int) < (6 : Int) by decide) az)) ?_
            obtain ⟨y18, e19, H⟩ := of_bind H
            refine CL V_ok i_control_controller_drain_d8b.at_ (i_control_controller_drain_d8b.ok e19) ?_
            refine RN ?_
            refine Rg V_ok 0 [] az ?_
            exact Lf (Eq.trans (by kernel_rfl) H)
          · rcases of_ifx H with ⟨hi20, H⟩ | ⟨hi20, H⟩
            · refine FXIO (k := .i64) 21 hi20 ?_
              refine EV V_ok 0 [] 3 (ac (show 0 ≤ (4 : Int) by decide) (ac (show (4 : Int) < (6 : Int) by decide) az)) ?_
              obtain ⟨y21, e22, H⟩ := of_bind H
              refine CL V_ok i_control_controller_rest_d8b.at_ (i_control_controller_rest_d8b.ok e22) ?_
              refine RN ?_
              refine Rg V_ok 0 [] az ?_
              exact Lf (Eq.trans (by kernel_rfl) H)
            · rcases of_ifx H with ⟨hi23, H⟩ | ⟨hi23, H⟩
              · refine FXIO (k := .i64) 21 hi23 ?_
                refine EV V_ok 0 [] 3 (ac (show 0 ≤ (5 : Int) by decide) (ac (show (5 : Int) < (6 : Int) by decide) az)) ?_
                obtain ⟨y24, e25, H⟩ := of_bind H
                refine CL V_ok i_control_controller_rest_d8b.at_ (i_control_controller_rest_d8b.ok e25) ?_
                refine RN ?_
                refine Rg V_ok 0 [] az ?_
                exact Lf (Eq.trans (by kernel_rfl) H)
              · cases H
  · refine C0 hb7 ?_
    refine Rg V_ok 0 [] az ?_
    exact Lf (Eq.trans (by kernel_rfl) H)
noncomputable def f (k : Nat) (a1 : T26b3.T) : Option R :=
  (i_control_own_b6am.f k a1 a1 (0 : Int) (0 : Int) (0 : Int) (0 : Int) (0 : Int) (0 : Int) (0 : Int)).bind fun y1 =>
    (i_control_controller_is_d8b.f k a1 (0 : Int) (0 : Int) (0 : Int) (0 : Int) (0 : Int) (0 : Int) (0 : Int) y1.1 y1.2.1 y1.2.2.1 y1.2.2.2.1 y1.2.2.2.2.1 y1.2.2.2.2.2.1 y1.2.2.2.2.2.2.1 y1.2.2.2.2.2.2.2.1 y1.2.2.2.2.2.2.2.2.1 y1.2.2.2.2.2.2.2.2.2.1 y1.2.2.2.2.2.2.2.2.2.2.1 y1.2.2.2.2.2.2.2.2.2.2.2.1 y1.2.2.2.2.2.2.2.2.2.2.2.2.1).bind fun y3 =>
      if y3.1 = true then
        if (decide (a1.2.2.2.2.2.1 ≥ (0 : Int))) = true then
          j1 a1 k (decide (a1.2.2.2.2.2.1 < (6 : Int))) (0 : Int) (0 : Int) (0 : Int) (0 : Int) (0 : Int) (0 : Int) (0 : Int) y1.1 y1.2.1 y1.2.2.1 y1.2.2.2.1 y1.2.2.2.2.1 y1.2.2.2.2.2.1 y1.2.2.2.2.2.2.1 y1.2.2.2.2.2.2.2.1 y1.2.2.2.2.2.2.2.2.1 y1.2.2.2.2.2.2.2.2.2.1 y1.2.2.2.2.2.2.2.2.2.2.1 y1.2.2.2.2.2.2.2.2.2.2.2.1 y1.2.2.2.2.2.2.2.2.2.2.2.2.1
        else
          j1 a1 k false (0 : Int) (0 : Int) (0 : Int) (0 : Int) (0 : Int) (0 : Int) (0 : Int) y1.1 y1.2.1 y1.2.2.1 y1.2.2.2.1 y1.2.2.2.2.1 y1.2.2.2.2.2.1 y1.2.2.2.2.2.2.1 y1.2.2.2.2.2.2.2.1 y1.2.2.2.2.2.2.2.2.1 y1.2.2.2.2.2.2.2.2.2.1 y1.2.2.2.2.2.2.2.2.2.2.1 y1.2.2.2.2.2.2.2.2.2.2.2.1 y1.2.2.2.2.2.2.2.2.2.2.2.2.1
      else
        j1 a1 k false (0 : Int) (0 : Int) (0 : Int) (0 : Int) (0 : Int) (0 : Int) (0 : Int) y1.1 y1.2.1 y1.2.2.1 y1.2.2.2.1 y1.2.2.2.2.1 y1.2.2.2.2.2.1 y1.2.2.2.2.2.2.1 y1.2.2.2.2.2.2.2.1 y1.2.2.2.2.2.2.2.2.1 y1.2.2.2.2.2.2.2.2.2.1 y1.2.2.2.2.2.2.2.2.2.2.1 y1.2.2.2.2.2.2.2.2.2.2.2.1 y1.2.2.2.2.2.2.2.2.2.2.2.2.1
noncomputable def S : Spec := ⟨ps, rs, .any, none, fun x r => ∃ k, f k x.1 = some r⟩
theorem rl {k a1 r} (e : f k a1 = some r) : S.rel (a1, ()) r := ⟨k, e⟩
theorem f_ok {r k a1} (H : f k a1 = some r) : Gw P 0 (Q r) (Px c0 1 []) (⟨30, [(0, .cv (.agg (encC .any T26b3 a1)))], []⟩) := by
  unfold f at H
  refine Rg V_ok 2 [(0, hb 0), (1, hb 1)] az ?_
  refine Rg V_ok 1 [(1, hb 2)] az ?_
  refine GT (tn [1, 2, 3] 3) (RI ?_)
  refine EV V_ok 0 [] 1 az ?_
  obtain ⟨y1, e2, H⟩ := of_bind H
  refine CL V_ok i_control_own_b6am.at_ (i_control_own_b6am.ok e2) ?_
  refine EV V_ok 0 [] 1 az ?_
  refine RN ?_
  refine GT (tn [1, 2, 3, 4] 10) (RI ?_)
  refine EV V_ok 0 [] 1 az ?_
  obtain ⟨y3, e4, H⟩ := of_bind H
  refine CL V_ok i_control_controller_is_d8b.at_ (i_control_controller_is_d8b.ok e4) ?_
  refine EV V_ok 0 [] 1 az ?_
  rcases of_ite H with ⟨hb5, H⟩ | ⟨hb5, H⟩
  · refine FXO 10 hb5 ?_
    refine EV V_ok 0 [] 5 az ?_
    rcases of_ite H with ⟨hb6, H⟩ | ⟨hb6, H⟩
    · refine FXO 15 hb6 ?_
      refine EV V_ok 0 [] 4 az ?_
      refine RN ?_
      exact Jm (tn [1, 2, 3, 4, 19] 10) (j1_ok H)
    · refine FXO 15 hb6 ?_
      refine EV V_ok 0 [] 4 az ?_
      refine RN ?_
      exact Jm (tn [1, 2, 3, 4, 19] 10) (j1_ok H)
  · refine FXO 10 hb5 ?_
    refine EV V_ok 0 [] 5 az ?_
    refine EV V_ok 0 [] 4 az ?_
    refine RN ?_
    exact Jm (tn [1, 2, 3, 4, 19] 10) (j1_ok H)
theorem fits : Fits P 15 S := fits_of V_ok Go.Proofs.Tryd.func15 (by kernel_rfl) (by decide) (by decide) rfl (fun x r ⟨k, H⟩ => of_G (f_ok H))
end f_control_Tick
/-! ### function 6, wayfinder/wayfinderlaw21.ControlWaits -/
namespace f_law21_ControlWaits
noncomputable def c0 : Code := (Go.Proofs.Tryd.f6.body).getD .skip
abbrev ps : Sg := [(true, T26b3)]
abbrev rs : Sg := [(false, .bool)]
noncomputable def V : Env := { tt := tt, Γ := slk [(8, f_law21_awake.S), (9, f_law21_Few.S), (15, f_control_Tick.S)] }
theorem V_ok : EnvOk P V := { ck := tt_ck, fits := slk_cons f_law21_awake.fits (slk_cons f_law21_Few.fits (slk_cons f_control_Tick.fits (slk_nil))), mixed := mixed }
abbrev R := Tup rs
noncomputable abbrev Q (r : R) : Exit → St → Prop := Qr tt Go.Proofs.Tryd.f6.results ⟨ps, rs, .any, none, fun _ _ => True⟩ r
noncomputable def s1 (a1 : T26b3.T) (p1 p2 : Bool) : St := ⟨120, [(1, .cv (.one (.ptr 0 0))), (3, .cv (.one (.bool p1))), (17, .cv (.one (.bool p2)))], [(.box 13, (encC .any T26b3 a1))]⟩
noncomputable def s2 (a1 : T26b3.T) (p1 p2 : Bool) (p3 : Int) : St := ⟨120, [(1, .cv (.one (.ptr 0 0))), (5, .cv (.one (.bool p1))), (6, .cv (.one (.bool p2))), (7, .cv (.one (.i p3)))], [(.box 13, (encC .any T26b3 a1))]⟩
noncomputable def s4 (a1 : T26b3.T) (p1 p2 : Bool) (p3 : Int) : St := ⟨120, [(1, .cv (.one (.ptr 0 0))), (5, .cv (.one (.bool p1))), (6, .cv (.one (.bool p2))), (7, .cv (.one (.i p3)))], [(.box 13, (encC .any T26b3 a1))]⟩
noncomputable def s3 (a1 : T26b3.T) (p1 p2 : Bool) (p3 : Int) : St := ⟨120, [(1, .cv (.one (.ptr 0 0))), (5, .cv (.one (.bool p1))), (6, .cv (.one (.bool p2))), (7, .cv (.one (.i p3)))], [(.box 13, (encC .any T26b3 a1))]⟩
noncomputable def j3 (a1 : T26b3.T) (L2 : Bool → Bool → Int → Option R) (k : Nat) (p1 p2 : Bool) (p3 : Int) : Option R :=
  L2 p1 p2 (IntKind.i64.wrap (p3 + 1))
theorem j3_ok {r a1} {L2 : Bool → Bool → Int → Option R} {m2 : Nat} (hL2 : ∀ p1 p2 p3, L2 p1 p2 p3 = some r → Gw P 0 (Q r) (Pb c0 703 [] m2) (s2 a1 p1 p2 p3)) {k p1 p2 p3} (H : j3 a1 L2 k p1 p2 p3 = some r) : Gw P 0 (Q r) (Px c0 7359 [m2]) (s3 a1 p1 p2 p3) := by
  unfold j3 at H
  refine Rg V_ok 0 [] az ?_
  exact Jm (tn [1, 5, 6, 7] 1) (hL2 p1 p2 (IntKind.i64.wrap (p3 + 1)) H)
noncomputable def j4 (a1 : T26b3.T) (L2 : Bool → Bool → Int → Option R) (k : Nat) (p1 p2 : Bool) (p3 : Int) : Option R :=
  if p2 = true then
  j3 a1 L2 k p1 true p3
else
  if 0 ≤ p3 then
    if p3 < (a1.2.2.2.2.2.2.2.2.1.length : Int) then
      j3 a1 L2 k p1 ((((att T23b6 a1.2.2.2.2.2.2.2.2.1 p3).2).1) == a1.2.2.2.2.1) p3
    else none
  else none
theorem j4_ok {r a1} {L2 : Bool → Bool → Int → Option R} {m2 : Nat} (hL2 : ∀ p1 p2 p3, L2 p1 p2 p3 = some r → Gw P 0 (Q r) (Pb c0 703 [] m2) (s2 a1 p1 p2 p3)) {k p1 p2 p3} (H : j4 a1 L2 k p1 p2 p3 = some r) : Gw P 0 (Q r) (Px c0 25791 [m2]) (s4 a1 p1 p2 p3) := by
  unfold j4 at H
  rcases of_ite H with ⟨hb9, H⟩ | ⟨hb9, H⟩
  · refine Rg V_ok 0 [(0, {bv := some true})] (ac hb9 az) ?_
    exact Jm (tn [1, 5, 6, 7] 1) (j3_ok hL2 H)
  · obtain ⟨n10, H⟩ := of_if H
    obtain ⟨n11, H⟩ := of_if H
    refine Rg V_ok 0 [(0, {bv := some false})] (ac hb9 (ac n10 (ac n11 az))) ?_
    exact Jm (tn [1, 5, 6, 7] 1) (j3_ok hL2 H)
noncomputable def s5 (a1 : T26b3.T) (p1 : Bool) (p3 : T26b3.T) : St := ⟨120, [(1, .cv (.one (.ptr 0 0))), (8, .cv (.one (.ptr 1 0))), (75, .cv (.one (.bool p1)))], [(.box 13, (encC .any T26b3 a1)), (.box 13, (encC .any T26b3 p3))]⟩
noncomputable def j5 (a1 : T26b3.T) (k : Nat) (p1 : Bool) (p3 : T26b3.T) : Option R :=
  if p1 = true then
  some (true, ())
else
  if (p3.2.2.2.2.2.1 == a1.2.2.2.2.2.1) = true then
    if (p3.2.1 == a1.2.1) = true then
      if (p3.2.2.2.1 == a1.2.2.2.1) = true then
        if (p3.2.2.2.2.1 == a1.2.2.2.2.1) = true then
          if ((p3.2.2.2.2.2.2.2.2.2.2.1.length : Int) == (a1.2.2.2.2.2.2.2.2.2.2.1.length : Int)) = true then
            some (((p3.2.2.2.2.2.2.2.1.length : Int) == (a1.2.2.2.2.2.2.2.1.length : Int)), ())
          else
            some (false, ())
        else
          some (false, ())
      else
        some (false, ())
    else
      some (false, ())
  else
    some (false, ())
theorem j5_ok {r a1} {k p1 p3} (H : j5 a1 k p1 p3 = some r) : Gw P 0 (Q r) (Px c0 1791 []) (s5 a1 p1 p3) := by
  unfold j5 at H
  rcases of_ite H with ⟨hb18, H⟩ | ⟨hb18, H⟩
  · refine C1 hb18 ?_
    refine Rg V_ok 0 [] az ?_
    exact Lf (Eq.trans (by kernel_rfl) H)
  · refine C0 hb18 ?_
    rcases of_ite H with ⟨hb19, H⟩ | ⟨hb19, H⟩
    · rcases of_ite H with ⟨hb20, H⟩ | ⟨hb20, H⟩
      · rcases of_ite H with ⟨hb21, H⟩ | ⟨hb21, H⟩
        · rcases of_ite H with ⟨hb22, H⟩ | ⟨hb22, H⟩
          · rcases of_ite H with ⟨hb23, H⟩ | ⟨hb23, H⟩
            · refine Rg V_ok 0 [(4, {bv := some true}), (11, {bv := some true}), (18, {bv := some true}), (25, {bv := some true}), (34, {bv := some true})] (ac hb19 (ac hb20 (ac hb21 (ac hb22 (ac hb23 az))))) ?_
              exact Lf (Eq.trans (by kernel_rfl) H)
            · refine Rg V_ok 0 [(4, {bv := some true}), (11, {bv := some true}), (18, {bv := some true}), (25, {bv := some true}), (34, {bv := some false})] (ac hb19 (ac hb20 (ac hb21 (ac hb22 (ac hb23 az))))) ?_
              exact Lf (Eq.trans (by kernel_rfl) H)
          · refine Rg V_ok 0 [(4, {bv := some true}), (11, {bv := some true}), (18, {bv := some true}), (25, {bv := some false})] (ac hb19 (ac hb20 (ac hb21 (ac hb22 az)))) ?_
            exact Lf (Eq.trans (by kernel_rfl) H)
        · refine Rg V_ok 0 [(4, {bv := some true}), (11, {bv := some true}), (18, {bv := some false})] (ac hb19 (ac hb20 (ac hb21 az))) ?_
          exact Lf (Eq.trans (by kernel_rfl) H)
      · refine Rg V_ok 0 [(4, {bv := some true}), (11, {bv := some false})] (ac hb19 (ac hb20 az)) ?_
        exact Lf (Eq.trans (by kernel_rfl) H)
    · refine Rg V_ok 0 [(4, {bv := some false})] (ac hb19 az) ?_
      exact Lf (Eq.trans (by kernel_rfl) H)
noncomputable def b2 (a1 : T26b3.T) (L2 : Bool → Bool → Int → Option R) (k : Nat) (p1 p2 : Bool) (p3 : Int) : Option R :=
  if (decide (p3 < (a1.2.2.2.2.2.2.2.2.1.length : Int))) = true then
  if p1 = true then
    j4 a1 L2 k true p2 p3
  else
    if 0 ≤ p3 then
      if p3 < (a1.2.2.2.2.2.2.2.2.1.length : Int) then
        if (decide (((att T23b6 a1.2.2.2.2.2.2.2.2.1 p3).1) ≤ (0 : Int))) = true then
          j4 a1 L2 k true p2 p3
        else
          j4 a1 L2 k (decide (((((((att T23b6 a1.2.2.2.2.2.2.2.2.1 p3).2).2).2).2).length : Int) > (0 : Int))) p2 p3
      else none
    else none
else
  (f_control_Tick.f k a1).bind fun y15 =>
    if (!p1) = true then
      j5 a1 k true y15.1
    else
      if (a1.2.2.2.2.2.1 == (3 : Int)) = true then
        j5 a1 k true y15.1
      else
        if (a1.2.2.2.2.2.1 == (1 : Int)) = true then
          j5 a1 k p2 y15.1
        else
          j5 a1 k false y15.1
theorem b2_ok {r a1} {L2 : Bool → Bool → Int → Option R} {m2 : Nat} (hL2 : ∀ p1 p2 p3, L2 p1 p2 p3 = some r → Gw P 0 (Q r) (Pb c0 703 [] m2) (s2 a1 p1 p2 p3)) {k p1 p2 p3} (H : b2 a1 L2 k p1 p2 p3 = some r) : Gw P 0 (Q r) (Px c0 1215 [m2]) (s2 a1 p1 p2 p3) := by
  unfold b2 at H
  refine Rg V_ok 0 [] az ?_
  rcases of_ite H with ⟨hb7, H⟩ | ⟨hb7, H⟩
  · refine C1 hb7 ?_
    rcases of_ite H with ⟨hb8, H⟩ | ⟨hb8, H⟩
    · refine Rg V_ok 0 [(0, {bv := some true})] (ac hb8 az) ?_
      exact Jm (tn [1, 5, 6, 7] 1) (j4_ok hL2 H)
    · obtain ⟨n12, H⟩ := of_if H
      obtain ⟨n13, H⟩ := of_if H
      rcases of_ite H with ⟨hb14, H⟩ | ⟨hb14, H⟩
      · refine Rg V_ok 0 [(0, {bv := some false}), (9, {bv := some true})] (ac hb8 (ac n12 (ac n13 (ac hb14 az)))) ?_
        exact Jm (tn [1, 5, 6, 7] 1) (j4_ok hL2 H)
      · refine Rg V_ok 0 [(0, {bv := some false}), (9, {bv := some false})] (ac hb8 (ac n12 (ac n13 (ac hb14 (ac n12 (ac n13 az)))))) ?_
        exact Jm (tn [1, 5, 6, 7] 1) (j4_ok hL2 H)
  · refine C0 hb7 ?_
    obtain ⟨y15, e16, H⟩ := of_bind H
    refine Rg V_ok 1 [(1, hr f_control_Tick.S y15), (2, hb 1)] (ac (f_control_Tick.rl e16) az) ?_
    rcases of_ite H with ⟨hb17, H⟩ | ⟨hb17, H⟩
    · refine Rg V_ok 0 [(1, {bv := some true})] (ac hb17 az) ?_
      exact Jm (tn [1, 8, 75] 2) (j5_ok H)
    · rcases of_ite H with ⟨hb24, H⟩ | ⟨hb24, H⟩
      · refine Rg V_ok 0 [(1, {bv := some false}), (6, {bv := some true})] (ac hb17 (ac hb24 az)) ?_
        exact Jm (tn [1, 8, 75] 2) (j5_ok H)
      · rcases of_ite H with ⟨hb25, H⟩ | ⟨hb25, H⟩
        · refine Rg V_ok 0 [(1, {bv := some false}), (6, {bv := some false}), (10, {bv := some true})] (ac hb17 (ac hb24 (ac hb25 az))) ?_
          exact Jm (tn [1, 8, 75] 2) (j5_ok H)
        · refine Rg V_ok 0 [(1, {bv := some false}), (6, {bv := some false}), (10, {bv := some false})] (ac hb17 (ac hb24 (ac hb25 az))) ?_
          exact Jm (tn [1, 8, 75] 2) (j5_ok H)
noncomputable def l2 (a1 : T26b3.T) (k : Nat) : Nat → Bool → Bool → Int → Option R
  | 0, _, _, _ => none
  | m + 1, p1, p2, p3 => b2 a1 (l2 a1 k m) k p1 p2 p3
theorem l2_ok {r a1} (k : Nat) : ∀ (m2 : Nat) (p1 p2 : Bool) (p3 : Int), l2 a1 k m2 p1 p2 p3 = some r → Gw P 0 (Q r) (Pb c0 703 [] m2) (s2 a1 p1 p2 p3)
  | 0, _, _, _, H => by cases H
  | m2 + 1, p1, p2, p3, H => SU (by kernel_rfl) (b2_ok (l2_ok k m2) H)
noncomputable def j1 (a1 : T26b3.T) (k : Nat) (p1 p2 : Bool) : Option R :=
  if p2 = true then
  some (p1, ())
else
  l2 a1 k k false false 0
theorem j1_ok {r a1} {k p1 p2} (H : j1 a1 k p1 p2 = some r) : Gw P 0 (Q r) (Px c0 55 []) (s1 a1 p1 p2) := by
  unfold j1 at H
  rcases of_ite H with ⟨hb6, H⟩ | ⟨hb6, H⟩
  · refine C1 hb6 ?_
    refine Rg V_ok 0 [] az ?_
    exact Lf (Eq.trans (by kernel_rfl) H)
  · refine C0 hb6 ?_
    refine Rg V_ok 0 [] az ?_
    refine Rg V_ok 0 [] az ?_
    refine Rg V_ok 0 [] az ?_
    exact LP k (Jm (tn [1, 5, 6, 7] 1) (l2_ok k k false false 0 H))
noncomputable def f (k : Nat) (a1 : T26b3.T) : Option R :=
  (f_law21_awake.f k).bind fun y1 =>
    (f_law21_Few.f k a1).bind fun y3 =>
      if (!y1.1) = true then
        j1 a1 k y1.1 true
      else
        j1 a1 k y1.1 (!y3.1)
noncomputable def S : Spec := ⟨ps, rs, .any, none, fun x r => ∃ k, f k x.1 = some r⟩
theorem rl {k a1 r} (e : f k a1 = some r) : S.rel (a1, ()) r := ⟨k, e⟩
theorem f_ok {r k a1} (H : f k a1 = some r) : Gw P 0 (Q r) (Px c0 1 []) (⟨120, [(0, .cv (.agg (encC .any T26b3 a1)))], []⟩) := by
  unfold f at H
  refine Rg V_ok 1 [(0, hb 0)] az ?_
  obtain ⟨y1, e2, H⟩ := of_bind H
  refine Rg V_ok 0 [(0, hr f_law21_awake.S y1)] (ac (f_law21_awake.rl e2) az) ?_
  obtain ⟨y3, e4, H⟩ := of_bind H
  refine Rg V_ok 0 [(1, hr f_law21_Few.S y3)] (ac (f_law21_Few.rl e4) az) ?_
  rcases of_ite H with ⟨hb5, H⟩ | ⟨hb5, H⟩
  · refine Rg V_ok 0 [(1, {bv := some true})] (ac hb5 az) ?_
    exact Jm (tn [1, 3, 17] 1) (j1_ok H)
  · refine Rg V_ok 0 [(1, {bv := some false})] (ac hb5 az) ?_
    exact Jm (tn [1, 3, 17] 1) (j1_ok H)
theorem fits : Fits P 6 S := fits_of V_ok Go.Proofs.Tryd.func6 (by kernel_rfl) (by decide) (by decide) rfl (fun x r ⟨k, H⟩ => of_G (f_ok H))
end f_law21_ControlWaits
end Go.Proofs.YtkhjemahenkdiaaDoor.V
