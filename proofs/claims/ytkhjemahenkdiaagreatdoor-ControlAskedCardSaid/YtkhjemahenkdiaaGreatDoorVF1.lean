/- Functions of the program, as Lean functions, and that the code answers so. Printed by vgen.py. -/
import Derived.Test.YtkhjemahenkdiaaGreatDoorVF0
namespace Go.Proofs.YtkhjemahenkdiaaGreatDoor.V
open Go Go.RowKit
set_option linter.unusedVariables false
set_option linter.unusedSimpArgs false
set_option maxRecDepth 100000
set_option maxHeartbeats 4000000
/-! ### function 32, wayfinder/control.own, where it is called -/
namespace i_control_own_776m
noncomputable def c0 : Code := (Go.Proofs.Tryz.f32.body).getD .skip
noncomputable def V : Env := { tt := tt, Γ := slk [(75, f_slices_Clone_ConfO.S), (76, f_slices_Clone_Conf_RuleO.S), (77, f_slices_Clone_Rule.S), (78, f_slices_Clone_PeerO.S), (79, f_slices_Clone_Msg.S), (80, f_slices_Clone_intO.S), (81, f_slices_Clone_GivenO.S)] }
theorem V_ok : EnvOk P V := { ck := tt_ck, fits := slk_cons f_slices_Clone_ConfO.fits (slk_cons f_slices_Clone_Conf_RuleO.fits (slk_cons f_slices_Clone_Rule.fits (slk_cons f_slices_Clone_PeerO.fits (slk_cons f_slices_Clone_Msg.fits (slk_cons f_slices_Clone_intO.fits (slk_cons f_slices_Clone_GivenO.fits (slk_nil))))))), mixed := mixed }
abbrev R := (Int) × (Int) × (Int) × (Int) × (Int) × (Int) × (Int) × (List (List (List T1383.T))) × (List Int) × (List T23b6.T) × (List T713d.T) × (List Int) × (List Int) × Unit
noncomputable def s0 (x1 x2 : T26b3.T) (x3 x4 x5 x6 x7 x8 x9 : Int) : St := ⟨85, [(0, .cv (.agg (encC .any T26b3 x1)))], [(.box 13, (encC .any T26b3 x2)), (.box 13, [.nils, .i x3, .i x4, .i x5, .i x6, .i x7, .i x8, .nils, .nils, .nils, .nils, .nils, .i x9])]⟩
noncomputable def out (x2 : T26b3.T) (x3 x4 x5 x6 x7 x8 x9 : Int) (r : R) : St := ⟨85, [(2, .cv (.one (.ptr 2 0)))], [(.box 13, (encC .any T26b3 x2)), (.box 13, [.nils, .i x3, .i x4, .i x5, .i x6, .i x7, .i x8, .nils, .nils, .nils, .nils, .nils, .i x9]), (.box 13, [.own 3, .i r.1, .i r.2.1, .i r.2.2.1, .i r.2.2.2.1, .i r.2.2.2.2.1, .i r.2.2.2.2.2.1, .own 4, .own 5, .own 6, .own 7, .own 8, .i r.2.2.2.2.2.2.1]), (.buf 38 (.slice (.slice T1383)) r.2.2.2.2.2.2.2.1, []), (.buf 3 (.int .i64) r.2.2.2.2.2.2.2.2.1, []), (.buf 58 T23b6 r.2.2.2.2.2.2.2.2.2.1, []), (.buf 93 T713d r.2.2.2.2.2.2.2.2.2.2.1, []), (.buf 3 (.int .i64) r.2.2.2.2.2.2.2.2.2.2.2.1, []), (.buf 3 (.int .i64) r.2.2.2.2.2.2.2.2.2.2.2.2.1, [])]⟩
abbrev Q (x2 : T26b3.T) (x3 x4 x5 x6 x7 x8 x9 : Int) (r : R) := CallQ 2 (out x2 x3 x4 x5 x6 x7 x8 x9 r)
noncomputable def s1 (x2 : T26b3.T) (x3 x4 x5 x6 x7 x8 x9 p1 p2 p11 p12 p13 p14 p15 p16 : Int) (p17 : List Int) (p18 : List T23b6.T) (p19 : List T713d.T) (p20 p21 : List Int) (p22 : Int) (p23 : List (List (List T1383.T))) : St := ⟨85, [(1, .cv (.one (.ptr 2 0))), (13, .cv (.one (.own 3))), (14, .cv (.one (.i p1))), (15, .cv (.one (.i p2)))], [(.box 13, (encC .any T26b3 x2)), (.box 13, [.nils, .i x3, .i x4, .i x5, .i x6, .i x7, .i x8, .nils, .nils, .nils, .nils, .nils, .i x9]), (.box 13, [.own 3, .i p11, .i p12, .i p13, .i p14, .i p15, .i p16, .sl (.int .i64) p17 .any, .sl T23b6 p18 .any, .sl T713d p19 .any, .sl (.int .i64) p20 .any, .sl (.int .i64) p21 .any, .i p22]), (.buf 38 (.slice (.slice T1383)) p23, [])]⟩
noncomputable def s2 (x2 : T26b3.T) (x3 x4 x5 x6 x7 x8 x9 p1 p2 p3 p4 p5 p14 p15 p16 p17 p18 p19 : Int) (p20 : List Int) (p21 : List T23b6.T) (p22 : List T713d.T) (p23 p24 : List Int) (p25 : Int) (p26 : List (List T1383.T)) (p27 : List (List (List T1383.T))) : St := ⟨85, [(1, .cv (.one (.ptr 2 0))), (3, .cv (.one (.i p1))), (4, .cv (.one (.own 3))), (13, .cv (.one (.own 4))), (14, .cv (.one (.i p2))), (15, .cv (.one (.i p3))), (22, .cv (.one (.own 3))), (23, .cv (.one (.i p4))), (24, .cv (.one (.i p5)))], [(.box 13, (encC .any T26b3 x2)), (.box 13, [.nils, .i x3, .i x4, .i x5, .i x6, .i x7, .i x8, .nils, .nils, .nils, .nils, .nils, .i x9]), (.box 13, [.own 4, .i p14, .i p15, .i p16, .i p17, .i p18, .i p19, .sl (.int .i64) p20 .any, .sl T23b6 p21 .any, .sl T713d p22 .any, .sl (.int .i64) p23 .any, .sl (.int .i64) p24 .any, .i p25]), (.buf 89 (.slice T1383) p26, []), (.buf 38 (.slice (.slice T1383)) p27, [])]⟩
noncomputable def b2 (x2 : T26b3.T) (x3 x4 x5 x6 x7 x8 x9 : Int) (L1 : Int → Int → Int → Int → Int → Int → Int → Int → List Int → List T23b6.T → List T713d.T → List Int → List Int → Int → List (List (List T1383.T)) → Option R) (L2 : Int → Int → Int → Int → Int → Int → Int → Int → Int → Int → Int → List Int → List T23b6.T → List T713d.T → List Int → List Int → Int → List (List T1383.T) → List (List (List T1383.T)) → Option R) (k : Nat) (p1 p2 p3 p4 p5 p14 p15 p16 p17 p18 p19 : Int) (p20 : List Int) (p21 : List T23b6.T) (p22 : List T713d.T) (p23 p24 : List Int) (p25 : Int) (p26 : List (List T1383.T)) (p27 : List (List (List T1383.T))) : Option R :=
  if (decide (p5 < p4)) = true then
  if 0 ≤ p5 then
    if p5 < (p26.length : Int) then
      (f_slices_Clone_Rule.f k (att (.slice T1383) p26 p5)).bind fun y11 =>
        L2 p1 p2 p3 p4 (IntKind.i64.wrap (p5 + 1)) p14 p15 p16 p17 p18 p19 p20 p21 p22 p23 p24 p25 (p26.set p5.toNat y11.1) p27
    else none
  else none
else
  if 0 ≤ p1 then
    if p1 < (p27.length : Int) then
      L1 p2 (IntKind.i64.wrap (p3 + 1)) p14 p15 p16 p17 p18 p19 p20 p21 p22 p23 p24 p25 (p27.set p1.toNat p26)
    else none
  else none
theorem b2_ok {r x2 x3 x4 x5 x6 x7 x8 x9} {L1 : Int → Int → Int → Int → Int → Int → Int → Int → List Int → List T23b6.T → List T713d.T → List Int → List Int → Int → List (List (List T1383.T)) → Option R} {m1 : Nat} (hL1 : ∀ p1 p2 p11 p12 p13 p14 p15 p16 p17 p18 p19 p20 p21 p22 p23, L1 p1 p2 p11 p12 p13 p14 p15 p16 p17 p18 p19 p20 p21 p22 p23 = some r → Gw P 2 (Q x2 x3 x4 x5 x6 x7 x8 x9 r) (Pb c0 43 [] m1) (s1 x2 x3 x4 x5 x6 x7 x8 x9 p1 p2 p11 p12 p13 p14 p15 p16 p17 p18 p19 p20 p21 p22 p23)) {L2 : Int → Int → Int → Int → Int → Int → Int → Int → Int → Int → Int → List Int → List T23b6.T → List T713d.T → List Int → List Int → Int → List (List T1383.T) → List (List (List T1383.T)) → Option R} {m2 : Nat} (hL2 : ∀ p1 p2 p3 p4 p5 p14 p15 p16 p17 p18 p19 p20 p21 p22 p23 p24 p25 p26 p27, L2 p1 p2 p3 p4 p5 p14 p15 p16 p17 p18 p19 p20 p21 p22 p23 p24 p25 p26 p27 = some r → Gw P 2 (Q x2 x3 x4 x5 x6 x7 x8 x9 r) (Pb c0 44235 [m1] m2) (s2 x2 x3 x4 x5 x6 x7 x8 x9 p1 p2 p3 p4 p5 p14 p15 p16 p17 p18 p19 p20 p21 p22 p23 p24 p25 p26 p27)) {k p1 p2 p3 p4 p5 p14 p15 p16 p17 p18 p19 p20 p21 p22 p23 p24 p25 p26 p27} (H : b2 x2 x3 x4 x5 x6 x7 x8 x9 L1 L2 k p1 p2 p3 p4 p5 p14 p15 p16 p17 p18 p19 p20 p21 p22 p23 p24 p25 p26 p27 = some r) : Gw P 2 (Q x2 x3 x4 x5 x6 x7 x8 x9 r) (Px c0 77003 [m1, m2]) (s2 x2 x3 x4 x5 x6 x7 x8 x9 p1 p2 p3 p4 p5 p14 p15 p16 p17 p18 p19 p20 p21 p22 p23 p24 p25 p26 p27) := by
  unfold b2 at H
  refine Rg V_ok 0 [] az ?_
  rcases of_ite H with ⟨hb8, H⟩ | ⟨hb8, H⟩
  · refine C1 hb8 ?_
    obtain ⟨n9, H⟩ := of_if H
    obtain ⟨n10, H⟩ := of_if H
    refine Rg V_ok 0 [] (ac n9 (ac n10 az)) ?_
    obtain ⟨y11, e12, H⟩ := of_bind H
    refine Rg V_ok 0 [(3, hr f_slices_Clone_Rule.S y11)] (ac (f_slices_Clone_Rule.rl e12) (ac n9 (ac n10 az))) ?_
    refine Rg V_ok 0 [] az ?_
    exact Jm (tn [1, 3, 4, 13, 14, 15, 22, 23, 24] 5) (hL2 p1 p2 p3 p4 (IntKind.i64.wrap (p5 + 1)) p14 p15 p16 p17 p18 p19 p20 p21 p22 p23 p24 p25 (p26.set p5.toNat y11.1) p27 H)
  · refine C0 hb8 ?_
    refine FZ 3 ?_
    obtain ⟨n13, H⟩ := of_if H
    obtain ⟨n14, H⟩ := of_if H
    refine Rg V_ok 0 [] (ac n13 (ac n14 az)) ?_
    refine Rg V_ok 0 [] az ?_
    exact Jm (tl [1, 13, 14, 15] [0, 1, 2, 4]) (hL1 p2 (IntKind.i64.wrap (p3 + 1)) p14 p15 p16 p17 p18 p19 p20 p21 p22 p23 p24 p25 (p27.set p1.toNat p26) H)
noncomputable def l2 (x2 : T26b3.T) (x3 x4 x5 x6 x7 x8 x9 : Int) (L1 : Int → Int → Int → Int → Int → Int → Int → Int → List Int → List T23b6.T → List T713d.T → List Int → List Int → Int → List (List (List T1383.T)) → Option R) (k : Nat) : Nat → Int → Int → Int → Int → Int → Int → Int → Int → Int → Int → Int → List Int → List T23b6.T → List T713d.T → List Int → List Int → Int → List (List T1383.T) → List (List (List T1383.T)) → Option R
  | 0, _, _, _, _, _, _, _, _, _, _, _, _, _, _, _, _, _, _, _ => none
  | m + 1, p1, p2, p3, p4, p5, p14, p15, p16, p17, p18, p19, p20, p21, p22, p23, p24, p25, p26, p27 => b2 x2 x3 x4 x5 x6 x7 x8 x9 L1 (l2 x2 x3 x4 x5 x6 x7 x8 x9 L1 k m) k p1 p2 p3 p4 p5 p14 p15 p16 p17 p18 p19 p20 p21 p22 p23 p24 p25 p26 p27
theorem l2_ok {r x2 x3 x4 x5 x6 x7 x8 x9} {L1 : Int → Int → Int → Int → Int → Int → Int → Int → List Int → List T23b6.T → List T713d.T → List Int → List Int → Int → List (List (List T1383.T)) → Option R} {m1 : Nat} (hL1 : ∀ p1 p2 p11 p12 p13 p14 p15 p16 p17 p18 p19 p20 p21 p22 p23, L1 p1 p2 p11 p12 p13 p14 p15 p16 p17 p18 p19 p20 p21 p22 p23 = some r → Gw P 2 (Q x2 x3 x4 x5 x6 x7 x8 x9 r) (Pb c0 43 [] m1) (s1 x2 x3 x4 x5 x6 x7 x8 x9 p1 p2 p11 p12 p13 p14 p15 p16 p17 p18 p19 p20 p21 p22 p23)) (k : Nat) : ∀ (m2 : Nat) (p1 p2 p3 p4 p5 p14 p15 p16 p17 p18 p19 : Int) (p20 : List Int) (p21 : List T23b6.T) (p22 : List T713d.T) (p23 p24 : List Int) (p25 : Int) (p26 : List (List T1383.T)) (p27 : List (List (List T1383.T))), l2 x2 x3 x4 x5 x6 x7 x8 x9 L1 k m2 p1 p2 p3 p4 p5 p14 p15 p16 p17 p18 p19 p20 p21 p22 p23 p24 p25 p26 p27 = some r → Gw P 2 (Q x2 x3 x4 x5 x6 x7 x8 x9 r) (Pb c0 44235 [m1] m2) (s2 x2 x3 x4 x5 x6 x7 x8 x9 p1 p2 p3 p4 p5 p14 p15 p16 p17 p18 p19 p20 p21 p22 p23 p24 p25 p26 p27)
  | 0, _, _, _, _, _, _, _, _, _, _, _, _, _, _, _, _, _, _, _, H => by cases H
  | m2 + 1, p1, p2, p3, p4, p5, p14, p15, p16, p17, p18, p19, p20, p21, p22, p23, p24, p25, p26, p27, H => SU (by kernel_rfl) (b2_ok hL1 (l2_ok hL1 k m2) H)
noncomputable def s3 (x2 : T26b3.T) (x3 x4 x5 x6 x7 x8 x9 p1 p2 p11 p12 p13 p14 p15 p16 : Int) (p17 : List Int) (p18 : List T713d.T) (p19 p20 : List Int) (p21 : Int) (p22 : List (List (List T1383.T))) (p23 : List T23b6.T) : St := ⟨85, [(1, .cv (.one (.ptr 2 0))), (47, .cv (.one (.i p1))), (48, .cv (.one (.i p2)))], [(.box 13, (encC .any T26b3 x2)), (.box 13, [.nils, .i x3, .i x4, .i x5, .i x6, .i x7, .i x8, .nils, .nils, .nils, .nils, .nils, .i x9]), (.box 13, [.own 3, .i p11, .i p12, .i p13, .i p14, .i p15, .i p16, .sl (.int .i64) p17 .any, .own 4, .sl T713d p18 .any, .sl (.int .i64) p19 .any, .sl (.int .i64) p20 .any, .i p21]), (.buf 38 (.slice (.slice T1383)) p22, []), (.buf 58 T23b6 p23, [])]⟩
noncomputable def b3 (x2 : T26b3.T) (x3 x4 x5 x6 x7 x8 x9 : Int) (L3 : Int → Int → Int → Int → Int → Int → Int → Int → List Int → List T713d.T → List Int → List Int → Int → List (List (List T1383.T)) → List T23b6.T → Option R) (k : Nat) (p1 p2 p11 p12 p13 p14 p15 p16 : Int) (p17 : List Int) (p18 : List T713d.T) (p19 p20 : List Int) (p21 : Int) (p22 : List (List (List T1383.T))) (p23 : List T23b6.T) : Option R :=
  if (decide (p2 < p1)) = true then
  if 0 ≤ p2 then
    if p2 < (p23.length : Int) then
      (f_slices_Clone_Msg.f k (((((att T23b6 p23 p2).2).2).2).2)).bind fun y18 =>
        L3 p1 (IntKind.i64.wrap (p2 + 1)) p11 p12 p13 p14 p15 p16 p17 p18 p19 p20 p21 p22 (p23.set p2.toNat ((att T23b6 p23 p2).1, (((att T23b6 p23 p2).2).1, ((((att T23b6 p23 p2).2).2).1, (((((att T23b6 p23 p2).2).2).2).1, y18.1)))))
    else none
  else none
else
  (f_slices_Clone_intO.f k p17).bind fun y22 =>
      (f_slices_Clone_GivenO.f k p18).bind fun y24 =>
        (f_slices_Clone_intO.f k p19).bind fun y26 =>
          (f_slices_Clone_intO.f k p20).bind fun y28 =>
            some (p11, (p12, (p13, (p14, (p15, (p16, (p21, (p22, (y22.1, (p23, (y24.1, (y26.1, (y28.1, ())))))))))))))
theorem b3_ok {r x2 x3 x4 x5 x6 x7 x8 x9} {L3 : Int → Int → Int → Int → Int → Int → Int → Int → List Int → List T713d.T → List Int → List Int → Int → List (List (List T1383.T)) → List T23b6.T → Option R} {m3 : Nat} (hL3 : ∀ p1 p2 p11 p12 p13 p14 p15 p16 p17 p18 p19 p20 p21 p22 p23, L3 p1 p2 p11 p12 p13 p14 p15 p16 p17 p18 p19 p20 p21 p22 p23 = some r → Gw P 2 (Q x2 x3 x4 x5 x6 x7 x8 x9 r) (Pb c0 175 [] m3) (s3 x2 x3 x4 x5 x6 x7 x8 x9 p1 p2 p11 p12 p13 p14 p15 p16 p17 p18 p19 p20 p21 p22 p23)) {k p1 p2 p11 p12 p13 p14 p15 p16 p17 p18 p19 p20 p21 p22 p23} (H : b3 x2 x3 x4 x5 x6 x7 x8 x9 L3 k p1 p2 p11 p12 p13 p14 p15 p16 p17 p18 p19 p20 p21 p22 p23 = some r) : Gw P 2 (Q x2 x3 x4 x5 x6 x7 x8 x9 r) (Px c0 303 [m3]) (s3 x2 x3 x4 x5 x6 x7 x8 x9 p1 p2 p11 p12 p13 p14 p15 p16 p17 p18 p19 p20 p21 p22 p23) := by
  unfold b3 at H
  refine Rg V_ok 0 [] az ?_
  rcases of_ite H with ⟨hb17, H⟩ | ⟨hb17, H⟩
  · refine C1 hb17 ?_
    refine Rg V_ok 0 [] az ?_
    obtain ⟨n19, H⟩ := of_if H
    obtain ⟨n20, H⟩ := of_if H
    obtain ⟨y18, e21, H⟩ := of_bind H
    refine Rg V_ok 0 [(10, hr f_slices_Clone_Msg.S y18)] (ac n19 (ac n20 (ac (f_slices_Clone_Msg.rl e21) (ac n19 (ac n20 az))))) ?_
    refine Rg V_ok 0 [] az ?_
    exact Jm (tn [1, 47, 48] 5) (hL3 p1 (IntKind.i64.wrap (p2 + 1)) p11 p12 p13 p14 p15 p16 p17 p18 p19 p20 p21 p22 (p23.set p2.toNat ((att T23b6 p23 p2).1, (((att T23b6 p23 p2).2).1, ((((att T23b6 p23 p2).2).2).1, (((((att T23b6 p23 p2).2).2).2).1, y18.1))))) H)
  · refine C0 hb17 ?_
    obtain ⟨y22, e23, H⟩ := of_bind H
    obtain ⟨y24, e25, H⟩ := of_bind H
    obtain ⟨y26, e27, H⟩ := of_bind H
    obtain ⟨y28, e29, H⟩ := of_bind H
    let x : Nx := (Px c0 95 [])
    let t0 : St := ⟨85, [(1, .cv (.one (.ptr 2 0)))], [(.box 13, (encC .any T26b3 x2)), (.box 13, [.nils, .i x3, .i x4, .i x5, .i x6, .i x7, .i x8, .nils, .nils, .nils, .nils, .nils, .i x9]), (.box 13, [.own 3, .i p11, .i p12, .i p13, .i p14, .i p15, .i p16, .sl (.int .i64) p17 .any, .own 4, .sl T713d p18 .any, .sl (.int .i64) p19 .any, .sl (.int .i64) p20 .any, .i p21]), (.buf 38 (.slice (.slice T1383)) p22, []), (.buf 58 T23b6 p23, [])]⟩
    refine Jm (x' := x) (τ := t0) (tn [1] 5) ?_
    let Φ := phiX P 2 (Q x2 x3 x4 x5 x6 x7 x8 x9 r) x
    let t1 : St := stpS V x 0 [] 0 (tn [1, 66] 5) t0
    let t2 : St := stpS V x 0 [] 3 (tn [1, 66, 69] 5) t1
    let t3 : St := stpS V x 0 [] 6 (tn [1, 66, 69, 72] 5) t2
    let t4 : St := stpS V x 0 [] 9 (tn [1, 66, 69, 72, 75] 5) t3
    let t5 : St := stpS V x 0 [] 1 (tn [1, 67, 69, 72, 75] 5) t4
    let t6 : St := stpS V x 0 [] 4 (tn [1, 66, 70, 72, 75] 5) t4
    let t7 : St := stpS V x 0 [] 7 (tn [1, 66, 69, 73, 75] 5) t4
    let t8 : St := stpS V x 0 [] 10 (tn [1, 66, 69, 72, 76] 5) t4
    let t9 : St := stpS V x 1 [(2, {sb := 5, res := some ⟨f_slices_Clone_intO.S.rs, y22⟩})] 2 (tl [1, 68, 69, 72, 75] [0, 1, 2, 5, 3, 4]) t5
    let t10 : St := stpS V x 0 [] 4 (tn [1, 67, 70, 72, 75] 5) t5
    let t11 : St := stpS V x 0 [] 7 (tn [1, 67, 69, 73, 75] 5) t5
    let t12 : St := stpS V x 0 [] 10 (tn [1, 67, 69, 72, 76] 5) t5
    let t13 : St := stpS V x 0 [] 7 (tn [1, 66, 70, 73, 75] 5) t6
    let t14 : St := stpS V x 0 [] 10 (tn [1, 66, 70, 72, 76] 5) t6
    let t15 : St := stpS V x 0 [] 10 (tn [1, 66, 69, 73, 76] 5) t7
    let t16 : St := stpS V x 0 [] 4 (tn [1, 68, 70, 72, 75] 6) t9
    let t17 : St := stpS V x 0 [] 7 (tn [1, 68, 69, 73, 75] 6) t9
    let t18 : St := stpS V x 0 [] 10 (tn [1, 68, 69, 72, 76] 6) t9
    let t19 : St := stpS V x 0 [] 7 (tn [1, 67, 70, 73, 75] 5) t10
    let t20 : St := stpS V x 0 [] 10 (tn [1, 67, 70, 72, 76] 5) t10
    let t21 : St := stpS V x 0 [] 10 (tn [1, 67, 69, 73, 76] 5) t11
    let t22 : St := stpS V x 0 [] 10 (tn [1, 66, 70, 73, 76] 5) t13
    let t23 : St := stpS V x 1 [(5, {sb := 6, res := some ⟨f_slices_Clone_GivenO.S.rs, y24⟩})] 5 (tl [1, 68, 71, 72, 75] [0, 1, 2, 3, 6, 4, 5]) t16
    let t24 : St := stpS V x 0 [] 7 (tn [1, 68, 70, 73, 75] 6) t16
    let t25 : St := stpS V x 0 [] 10 (tn [1, 68, 70, 72, 76] 6) t16
    let t26 : St := stpS V x 0 [] 10 (tn [1, 68, 69, 73, 76] 6) t17
    let t27 : St := stpS V x 0 [] 10 (tn [1, 67, 70, 73, 76] 5) t19
    let t28 : St := stpS V x 0 [] 7 (tn [1, 68, 71, 73, 75] 7) t23
    let t29 : St := stpS V x 0 [] 10 (tn [1, 68, 71, 72, 76] 7) t23
    let t30 : St := stpS V x 0 [] 10 (tn [1, 68, 70, 73, 76] 6) t24
    let t31 : St := stpS V x 1 [(8, {sb := 7, res := some ⟨f_slices_Clone_intO.S.rs, y26⟩})] 8 (tl [1, 68, 71, 74, 75] [0, 1, 2, 3, 4, 7, 5, 6]) t28
    let t32 : St := stpS V x 0 [] 10 (tn [1, 68, 71, 73, 76] 7) t28
    let t33 : St := stpS V x 0 [] 12 (tn [1, 68, 70, 73, 76, 78] 6) t30
    let t34 : St := stpS V x 0 [] 10 (tn [1, 68, 71, 74, 76] 8) t31
    let t35 : St := stpS V x 0 [] 12 (tn [1, 68, 71, 73, 76, 78] 7) t32
    let t36 : St := stpS V x 0 [] 12 (tn [1, 68, 71, 74, 76, 78] 8) t34
    let t37 : St := stpS V x 1 [(11, {sb := 8, res := some ⟨f_slices_Clone_intO.S.rs, y28⟩})] 11 (tl [1, 68, 71, 74, 77, 78] [0, 1, 2, 3, 4, 5, 8, 6, 7]) t36
    let t38 : St := stpS V x 0 [] 13 (tl [1, 71, 74, 77] [0, 1, 2, 4, 5, 6, 7, 3, 8]) t37
    let t39 : St := stpS V x 0 [] 14 (tn [1, 71, 74, 77, 79] 9) t38
    let t40 : St := stpS V x 0 [] 15 (tl [1, 74, 77] [0, 1, 2, 4, 5, 6, 7, 8, 3]) t39
    let t41 : St := stpS V x 0 [] 16 (tn [1, 74, 77, 80] 9) t40
    let t42 : St := stpS V x 0 [] 17 (tl [1, 77] [0, 1, 2, 4, 5, 6, 7, 8, 3]) t41
    let t43 : St := stpS V x 0 [] 18 (tn [1, 77, 81] 9) t42
    let t44 : St := stpS V x 0 [] 19 (tl [1] [0, 1, 2, 4, 5, 6, 7, 8, 3]) t43
    have w44 : WA P 2 (opsX x) 0 (bs 20 1048575) Φ t44 := by
      refine WA_nil (by kernel_rfl) (RAn (by kernel_rfl) ?_)
      refine Rg V_ok 1 [(2, hb 9)] az ?_
      obtain rfl := Option.some.inj H
      exact Lq (tl [2] [0, 1, 9, 3, 4, 5, 6, 7, 8])
    have w43 : WA P 2 (opsX x) 1 (bs 20 524287) Φ t43 := WAs (an (WE V_ok 0 [] 19 (tl [1] [0, 1, 2, 4, 5, 6, 7, 8, 3]) az w44) aN)
    have w42 : WA P 2 (opsX x) 2 (bs 20 262143) Φ t42 := WT V_ok [] 18 (tn [1, 77, 81] 9) az w43
    have w41 : WA P 2 (opsX x) 3 (bs 20 131071) Φ t41 := WAs (an (WE V_ok 0 [] 17 (tl [1, 77] [0, 1, 2, 4, 5, 6, 7, 8, 3]) az w42) aN)
    have w40 : WA P 2 (opsX x) 4 (bs 20 65535) Φ t40 := WT V_ok [] 16 (tn [1, 74, 77, 80] 9) az w41
    have w39 : WA P 2 (opsX x) 5 (bs 20 32767) Φ t39 := WAs (an (WE V_ok 0 [] 15 (tl [1, 74, 77] [0, 1, 2, 4, 5, 6, 7, 8, 3]) az w40) aN)
    have w38 : WA P 2 (opsX x) 6 (bs 20 16383) Φ t38 := WT V_ok [] 14 (tn [1, 71, 74, 77, 79] 9) az w39
    have w37 : WA P 2 (opsX x) 7 (bs 20 8191) Φ t37 := WAs (an (WE V_ok 0 [] 13 (tl [1, 71, 74, 77] [0, 1, 2, 4, 5, 6, 7, 3, 8]) az w38) aN)
    have w36 : WA P 2 (opsX x) 8 (bs 20 6143) Φ t36 := WAs (an (WE V_ok 1 [(11, {sb := 8, res := some ⟨f_slices_Clone_intO.S.rs, y28⟩})] 11 (tl [1, 68, 71, 74, 77, 78] [0, 1, 2, 3, 4, 5, 8, 6, 7]) (ac (f_slices_Clone_intO.rl e29) az) w37) aN)
    have w35 : WA P 2 (opsX x) 9 (bs 20 5887) Φ t35 := WAs (an (WE V_ok 1 [(8, {sb := 7, res := some ⟨f_slices_Clone_intO.S.rs, y26⟩})] 8 (tl [1, 68, 71, 74, 76, 78] [0, 1, 2, 3, 4, 7, 5, 6]) (ac (f_slices_Clone_intO.rl e27) az) w36) aN)
    have w34 : WA P 2 (opsX x) 9 (bs 20 2047) Φ t34 := WT V_ok [] 12 (tn [1, 68, 71, 74, 76, 78] 8) az w36
    have w33 : WA P 2 (opsX x) 10 (bs 20 5855) Φ t33 := WAs (an (WE V_ok 1 [(5, {sb := 6, res := some ⟨f_slices_Clone_GivenO.S.rs, y24⟩})] 5 (tl [1, 68, 71, 73, 76, 78] [0, 1, 2, 3, 6, 4, 5]) (ac (f_slices_Clone_GivenO.rl e25) az) w35) aN)
    have w32 : WA P 2 (opsX x) 10 (bs 20 1791) Φ t32 := WT V_ok [] 12 (tn [1, 68, 71, 73, 76, 78] 7) az w35
    have w31 : WA P 2 (opsX x) 10 (bs 20 1023) Φ t31 := WAs (an (WE V_ok 0 [] 10 (tn [1, 68, 71, 74, 76] 8) az w34) aN)
    have w30 : WA P 2 (opsX x) 11 (bs 20 1759) Φ t30 := WT V_ok [] 12 (tn [1, 68, 70, 73, 76, 78] 6) az w33
    have w29 : WA P 2 (opsX x) 11 (bs 20 1663) Φ t29 := WAs (an (WE V_ok 0 [] 7 (tn [1, 68, 71, 73, 76] 7) az w32) aN)
    have w28 : WA P 2 (opsX x) 11 (bs 20 767) Φ t28 := WAs (an (WE V_ok 1 [(8, {sb := 7, res := some ⟨f_slices_Clone_intO.S.rs, y26⟩})] 8 (tl [1, 68, 71, 74, 75] [0, 1, 2, 3, 4, 7, 5, 6]) (ac (f_slices_Clone_intO.rl e27) az) w31) (an (WE V_ok 0 [] 10 (tn [1, 68, 71, 73, 76] 7) az w32) aN))
    have w27 : WA P 2 (opsX x) 12 (bs 20 1755) Φ t27 := WAs (an (WE V_ok 1 [(2, {sb := 5, res := some ⟨f_slices_Clone_intO.S.rs, y22⟩})] 2 (tl [1, 68, 70, 73, 76] [0, 1, 2, 5, 3, 4]) (ac (f_slices_Clone_intO.rl e23) az) w30) aN)
    have w26 : WA P 2 (opsX x) 12 (bs 20 1743) Φ t26 := WAs (an (WE V_ok 0 [] 4 (tn [1, 68, 70, 73, 76] 6) az w30) aN)
    have w25 : WA P 2 (opsX x) 12 (bs 20 1631) Φ t25 := WAs (an (WE V_ok 1 [(5, {sb := 6, res := some ⟨f_slices_Clone_GivenO.S.rs, y24⟩})] 5 (tl [1, 68, 71, 72, 76] [0, 1, 2, 3, 6, 4, 5]) (ac (f_slices_Clone_GivenO.rl e25) az) w29) (an (WE V_ok 0 [] 7 (tn [1, 68, 70, 73, 76] 6) az w30) aN))
    have w24 : WA P 2 (opsX x) 12 (bs 20 735) Φ t24 := WAs (an (WE V_ok 1 [(5, {sb := 6, res := some ⟨f_slices_Clone_GivenO.S.rs, y24⟩})] 5 (tl [1, 68, 71, 73, 75] [0, 1, 2, 3, 6, 4, 5]) (ac (f_slices_Clone_GivenO.rl e25) az) w28) (an (WE V_ok 0 [] 10 (tn [1, 68, 70, 73, 76] 6) az w30) aN))
    have w23 : WA P 2 (opsX x) 12 (bs 20 639) Φ t23 := WAs (an (WE V_ok 0 [] 7 (tn [1, 68, 71, 73, 75] 7) az w28) (an (WE V_ok 0 [] 10 (tn [1, 68, 71, 72, 76] 7) az w29) aN))
    have w22 : WA P 2 (opsX x) 13 (bs 20 1753) Φ t22 := WAs (an (WE V_ok 0 [] 1 (tn [1, 67, 70, 73, 76] 5) az w27) aN)
    have w21 : WA P 2 (opsX x) 13 (bs 20 1739) Φ t21 := WAs (an (WE V_ok 1 [(2, {sb := 5, res := some ⟨f_slices_Clone_intO.S.rs, y22⟩})] 2 (tl [1, 68, 69, 73, 76] [0, 1, 2, 5, 3, 4]) (ac (f_slices_Clone_intO.rl e23) az) w26) (an (WE V_ok 0 [] 4 (tn [1, 67, 70, 73, 76] 5) az w27) aN))
    have w20 : WA P 2 (opsX x) 13 (bs 20 1627) Φ t20 := WAs (an (WE V_ok 1 [(2, {sb := 5, res := some ⟨f_slices_Clone_intO.S.rs, y22⟩})] 2 (tl [1, 68, 70, 72, 76] [0, 1, 2, 5, 3, 4]) (ac (f_slices_Clone_intO.rl e23) az) w25) (an (WE V_ok 0 [] 7 (tn [1, 67, 70, 73, 76] 5) az w27) aN))
    have w19 : WA P 2 (opsX x) 13 (bs 20 731) Φ t19 := WAs (an (WE V_ok 1 [(2, {sb := 5, res := some ⟨f_slices_Clone_intO.S.rs, y22⟩})] 2 (tl [1, 68, 70, 73, 75] [0, 1, 2, 5, 3, 4]) (ac (f_slices_Clone_intO.rl e23) az) w24) (an (WE V_ok 0 [] 10 (tn [1, 67, 70, 73, 76] 5) az w27) aN))
    have w18 : WA P 2 (opsX x) 13 (bs 20 1615) Φ t18 := WAs (an (WE V_ok 0 [] 4 (tn [1, 68, 70, 72, 76] 6) az w25) (an (WE V_ok 0 [] 7 (tn [1, 68, 69, 73, 76] 6) az w26) aN))
    have w17 : WA P 2 (opsX x) 13 (bs 20 719) Φ t17 := WAs (an (WE V_ok 0 [] 4 (tn [1, 68, 70, 73, 75] 6) az w24) (an (WE V_ok 0 [] 10 (tn [1, 68, 69, 73, 76] 6) az w26) aN))
    have w16 : WA P 2 (opsX x) 13 (bs 20 607) Φ t16 := WAs (an (WE V_ok 1 [(5, {sb := 6, res := some ⟨f_slices_Clone_GivenO.S.rs, y24⟩})] 5 (tl [1, 68, 71, 72, 75] [0, 1, 2, 3, 6, 4, 5]) (ac (f_slices_Clone_GivenO.rl e25) az) w23) (an (WE V_ok 0 [] 7 (tn [1, 68, 70, 73, 75] 6) az w24) (an (WE V_ok 0 [] 10 (tn [1, 68, 70, 72, 76] 6) az w25) aN)))
    have w15 : WA P 2 (opsX x) 14 (bs 20 1737) Φ t15 := WAs (an (WE V_ok 0 [] 1 (tn [1, 67, 69, 73, 76] 5) az w21) (an (WE V_ok 0 [] 4 (tn [1, 66, 70, 73, 76] 5) az w22) aN))
    have w14 : WA P 2 (opsX x) 14 (bs 20 1625) Φ t14 := WAs (an (WE V_ok 0 [] 1 (tn [1, 67, 70, 72, 76] 5) az w20) (an (WE V_ok 0 [] 7 (tn [1, 66, 70, 73, 76] 5) az w22) aN))
    have w13 : WA P 2 (opsX x) 14 (bs 20 729) Φ t13 := WAs (an (WE V_ok 0 [] 1 (tn [1, 67, 70, 73, 75] 5) az w19) (an (WE V_ok 0 [] 10 (tn [1, 66, 70, 73, 76] 5) az w22) aN))
    have w12 : WA P 2 (opsX x) 14 (bs 20 1611) Φ t12 := WAs (an (WE V_ok 1 [(2, {sb := 5, res := some ⟨f_slices_Clone_intO.S.rs, y22⟩})] 2 (tl [1, 68, 69, 72, 76] [0, 1, 2, 5, 3, 4]) (ac (f_slices_Clone_intO.rl e23) az) w18) (an (WE V_ok 0 [] 4 (tn [1, 67, 70, 72, 76] 5) az w20) (an (WE V_ok 0 [] 7 (tn [1, 67, 69, 73, 76] 5) az w21) aN)))
    have w11 : WA P 2 (opsX x) 14 (bs 20 715) Φ t11 := WAs (an (WE V_ok 1 [(2, {sb := 5, res := some ⟨f_slices_Clone_intO.S.rs, y22⟩})] 2 (tl [1, 68, 69, 73, 75] [0, 1, 2, 5, 3, 4]) (ac (f_slices_Clone_intO.rl e23) az) w17) (an (WE V_ok 0 [] 4 (tn [1, 67, 70, 73, 75] 5) az w19) (an (WE V_ok 0 [] 10 (tn [1, 67, 69, 73, 76] 5) az w21) aN)))
    have w10 : WA P 2 (opsX x) 14 (bs 20 603) Φ t10 := WAs (an (WE V_ok 1 [(2, {sb := 5, res := some ⟨f_slices_Clone_intO.S.rs, y22⟩})] 2 (tl [1, 68, 70, 72, 75] [0, 1, 2, 5, 3, 4]) (ac (f_slices_Clone_intO.rl e23) az) w16) (an (WE V_ok 0 [] 7 (tn [1, 67, 70, 73, 75] 5) az w19) (an (WE V_ok 0 [] 10 (tn [1, 67, 70, 72, 76] 5) az w20) aN)))
    have w9 : WA P 2 (opsX x) 14 (bs 20 591) Φ t9 := WAs (an (WE V_ok 0 [] 4 (tn [1, 68, 70, 72, 75] 6) az w16) (an (WE V_ok 0 [] 7 (tn [1, 68, 69, 73, 75] 6) az w17) (an (WE V_ok 0 [] 10 (tn [1, 68, 69, 72, 76] 6) az w18) aN)))
    have w8 : WA P 2 (opsX x) 15 (bs 20 1609) Φ t8 := WAs (an (WE V_ok 0 [] 1 (tn [1, 67, 69, 72, 76] 5) az w12) (an (WE V_ok 0 [] 4 (tn [1, 66, 70, 72, 76] 5) az w14) (an (WE V_ok 0 [] 7 (tn [1, 66, 69, 73, 76] 5) az w15) aN)))
    have w7 : WA P 2 (opsX x) 15 (bs 20 713) Φ t7 := WAs (an (WE V_ok 0 [] 1 (tn [1, 67, 69, 73, 75] 5) az w11) (an (WE V_ok 0 [] 4 (tn [1, 66, 70, 73, 75] 5) az w13) (an (WE V_ok 0 [] 10 (tn [1, 66, 69, 73, 76] 5) az w15) aN)))
    have w6 : WA P 2 (opsX x) 15 (bs 20 601) Φ t6 := WAs (an (WE V_ok 0 [] 1 (tn [1, 67, 70, 72, 75] 5) az w10) (an (WE V_ok 0 [] 7 (tn [1, 66, 70, 73, 75] 5) az w13) (an (WE V_ok 0 [] 10 (tn [1, 66, 70, 72, 76] 5) az w14) aN)))
    have w5 : WA P 2 (opsX x) 15 (bs 20 587) Φ t5 := WAs (an (WE V_ok 1 [(2, {sb := 5, res := some ⟨f_slices_Clone_intO.S.rs, y22⟩})] 2 (tl [1, 68, 69, 72, 75] [0, 1, 2, 5, 3, 4]) (ac (f_slices_Clone_intO.rl e23) az) w9) (an (WE V_ok 0 [] 4 (tn [1, 67, 70, 72, 75] 5) az w10) (an (WE V_ok 0 [] 7 (tn [1, 67, 69, 73, 75] 5) az w11) (an (WE V_ok 0 [] 10 (tn [1, 67, 69, 72, 76] 5) az w12) aN))))
    have w4 : WA P 2 (opsX x) 16 (bs 20 585) Φ t4 := WAs (an (WE V_ok 0 [] 1 (tn [1, 67, 69, 72, 75] 5) az w5) (an (WE V_ok 0 [] 4 (tn [1, 66, 70, 72, 75] 5) az w6) (an (WE V_ok 0 [] 7 (tn [1, 66, 69, 73, 75] 5) az w7) (an (WE V_ok 0 [] 10 (tn [1, 66, 69, 72, 76] 5) az w8) aN))))
    have w3 : WA P 2 (opsX x) 17 (bs 20 73) Φ t3 := WT V_ok [] 9 (tn [1, 66, 69, 72, 75] 5) az w4
    have w2 : WA P 2 (opsX x) 18 (bs 20 9) Φ t2 := WT V_ok [] 6 (tn [1, 66, 69, 72] 5) az w3
    have w1 : WA P 2 (opsX x) 19 (bs 20 1) Φ t1 := WT V_ok [] 3 (tn [1, 66, 69] 5) az w2
    have w0 : WA P 2 (opsX x) 20 (bs 20 0) Φ t0 := WT V_ok [] 0 (tn [1, 66] 5) az w1
    exact RA V_ok 20 (by kernel_rfl) (by kernel_rfl) (by kernel_rfl) w0
noncomputable def l3 (x2 : T26b3.T) (x3 x4 x5 x6 x7 x8 x9 : Int) (k : Nat) : Nat → Int → Int → Int → Int → Int → Int → Int → Int → List Int → List T713d.T → List Int → List Int → Int → List (List (List T1383.T)) → List T23b6.T → Option R
  | 0, _, _, _, _, _, _, _, _, _, _, _, _, _, _, _ => none
  | m + 1, p1, p2, p11, p12, p13, p14, p15, p16, p17, p18, p19, p20, p21, p22, p23 => b3 x2 x3 x4 x5 x6 x7 x8 x9 (l3 x2 x3 x4 x5 x6 x7 x8 x9 k m) k p1 p2 p11 p12 p13 p14 p15 p16 p17 p18 p19 p20 p21 p22 p23
theorem l3_ok {r x2 x3 x4 x5 x6 x7 x8 x9} (k : Nat) : ∀ (m3 : Nat) (p1 p2 p11 p12 p13 p14 p15 p16 : Int) (p17 : List Int) (p18 : List T713d.T) (p19 p20 : List Int) (p21 : Int) (p22 : List (List (List T1383.T))) (p23 : List T23b6.T), l3 x2 x3 x4 x5 x6 x7 x8 x9 k m3 p1 p2 p11 p12 p13 p14 p15 p16 p17 p18 p19 p20 p21 p22 p23 = some r → Gw P 2 (Q x2 x3 x4 x5 x6 x7 x8 x9 r) (Pb c0 175 [] m3) (s3 x2 x3 x4 x5 x6 x7 x8 x9 p1 p2 p11 p12 p13 p14 p15 p16 p17 p18 p19 p20 p21 p22 p23)
  | 0, _, _, _, _, _, _, _, _, _, _, _, _, _, _, _, H => by cases H
  | m3 + 1, p1, p2, p11, p12, p13, p14, p15, p16, p17, p18, p19, p20, p21, p22, p23, H => SU (by kernel_rfl) (b3_ok (l3_ok k m3) H)
noncomputable def b1 (x2 : T26b3.T) (x3 x4 x5 x6 x7 x8 x9 : Int) (L1 : Int → Int → Int → Int → Int → Int → Int → Int → List Int → List T23b6.T → List T713d.T → List Int → List Int → Int → List (List (List T1383.T)) → Option R) (k : Nat) (p1 p2 p11 p12 p13 p14 p15 p16 : Int) (p17 : List Int) (p18 : List T23b6.T) (p19 : List T713d.T) (p20 p21 : List Int) (p22 : Int) (p23 : List (List (List T1383.T))) : Option R :=
  if (decide (p2 < p1)) = true then
  if 0 ≤ p2 then
    if p2 < (p23.length : Int) then
      (f_slices_Clone_Conf_RuleO.f k (att (.slice (.slice T1383)) p23 p2)).bind fun y6 =>
        l2 x2 x3 x4 x5 x6 x7 x8 x9 L1 k k p2 p1 p2 (y6.1.length : Int) 0 p11 p12 p13 p14 p15 p16 p17 p18 p19 p20 p21 p22 y6.1 p23
    else none
  else none
else
  (f_slices_Clone_PeerO.f k p18).bind fun y15 =>
    l3 x2 x3 x4 x5 x6 x7 x8 x9 k k (y15.1.length : Int) 0 p11 p12 p13 p14 p15 p16 p17 p19 p20 p21 p22 p23 y15.1
theorem b1_ok {r x2 x3 x4 x5 x6 x7 x8 x9} {L1 : Int → Int → Int → Int → Int → Int → Int → Int → List Int → List T23b6.T → List T713d.T → List Int → List Int → Int → List (List (List T1383.T)) → Option R} {m1 : Nat} (hL1 : ∀ p1 p2 p11 p12 p13 p14 p15 p16 p17 p18 p19 p20 p21 p22 p23, L1 p1 p2 p11 p12 p13 p14 p15 p16 p17 p18 p19 p20 p21 p22 p23 = some r → Gw P 2 (Q x2 x3 x4 x5 x6 x7 x8 x9 r) (Pb c0 43 [] m1) (s1 x2 x3 x4 x5 x6 x7 x8 x9 p1 p2 p11 p12 p13 p14 p15 p16 p17 p18 p19 p20 p21 p22 p23)) {k p1 p2 p11 p12 p13 p14 p15 p16 p17 p18 p19 p20 p21 p22 p23} (H : b1 x2 x3 x4 x5 x6 x7 x8 x9 L1 k p1 p2 p11 p12 p13 p14 p15 p16 p17 p18 p19 p20 p21 p22 p23 = some r) : Gw P 2 (Q x2 x3 x4 x5 x6 x7 x8 x9 r) (Px c0 75 [m1]) (s1 x2 x3 x4 x5 x6 x7 x8 x9 p1 p2 p11 p12 p13 p14 p15 p16 p17 p18 p19 p20 p21 p22 p23) := by
  unfold b1 at H
  refine Rg V_ok 0 [] az ?_
  rcases of_ite H with ⟨hb3, H⟩ | ⟨hb3, H⟩
  · refine C1 hb3 ?_
    obtain ⟨n4, H⟩ := of_if H
    obtain ⟨n5, H⟩ := of_if H
    refine Rg V_ok 0 [] (ac n4 (ac n5 az)) ?_
    obtain ⟨y6, e7, H⟩ := of_bind H
    refine Rg V_ok 1 [(1, {sb := 4, res := some ⟨f_slices_Clone_Conf_RuleO.S.rs, y6⟩})] (ac (f_slices_Clone_Conf_RuleO.rl e7) az) ?_
    refine Rg V_ok 0 [] az ?_
    exact LP k (Jm (tl [1, 3, 4, 13, 14, 15, 22, 23, 24] [0, 1, 2, 4, 3]) (l2_ok hL1 k k p2 p1 p2 (y6.1.length : Int) 0 p11 p12 p13 p14 p15 p16 p17 p18 p19 p20 p21 p22 y6.1 p23 H))
  · refine C0 hb3 ?_
    obtain ⟨y15, e16, H⟩ := of_bind H
    refine Rg V_ok 1 [(2, {sb := 4, res := some ⟨f_slices_Clone_PeerO.S.rs, y15⟩})] (ac (f_slices_Clone_PeerO.rl e16) az) ?_
    refine Rg V_ok 0 [] az ?_
    exact LP k (Jm (tn [1, 47, 48] 5) (l3_ok k k (y15.1.length : Int) 0 p11 p12 p13 p14 p15 p16 p17 p19 p20 p21 p22 p23 y15.1 H))
noncomputable def l1 (x2 : T26b3.T) (x3 x4 x5 x6 x7 x8 x9 : Int) (k : Nat) : Nat → Int → Int → Int → Int → Int → Int → Int → Int → List Int → List T23b6.T → List T713d.T → List Int → List Int → Int → List (List (List T1383.T)) → Option R
  | 0, _, _, _, _, _, _, _, _, _, _, _, _, _, _, _ => none
  | m + 1, p1, p2, p11, p12, p13, p14, p15, p16, p17, p18, p19, p20, p21, p22, p23 => b1 x2 x3 x4 x5 x6 x7 x8 x9 (l1 x2 x3 x4 x5 x6 x7 x8 x9 k m) k p1 p2 p11 p12 p13 p14 p15 p16 p17 p18 p19 p20 p21 p22 p23
theorem l1_ok {r x2 x3 x4 x5 x6 x7 x8 x9} (k : Nat) : ∀ (m1 : Nat) (p1 p2 p11 p12 p13 p14 p15 p16 : Int) (p17 : List Int) (p18 : List T23b6.T) (p19 : List T713d.T) (p20 p21 : List Int) (p22 : Int) (p23 : List (List (List T1383.T))), l1 x2 x3 x4 x5 x6 x7 x8 x9 k m1 p1 p2 p11 p12 p13 p14 p15 p16 p17 p18 p19 p20 p21 p22 p23 = some r → Gw P 2 (Q x2 x3 x4 x5 x6 x7 x8 x9 r) (Pb c0 43 [] m1) (s1 x2 x3 x4 x5 x6 x7 x8 x9 p1 p2 p11 p12 p13 p14 p15 p16 p17 p18 p19 p20 p21 p22 p23)
  | 0, _, _, _, _, _, _, _, _, _, _, _, _, _, _, _, H => by cases H
  | m1 + 1, p1, p2, p11, p12, p13, p14, p15, p16, p17, p18, p19, p20, p21, p22, p23, H => SU (by kernel_rfl) (b1_ok (l1_ok k m1) H)
noncomputable def f (k : Nat) (x1 x2 : T26b3.T) (x3 x4 x5 x6 x7 x8 x9 : Int) : Option R :=
  (f_slices_Clone_ConfO.f k x1.1).bind fun y1 =>
    l1 x2 x3 x4 x5 x6 x7 x8 x9 k k (y1.1.length : Int) 0 x1.2.1 x1.2.2.1 x1.2.2.2.1 x1.2.2.2.2.1 x1.2.2.2.2.2.1 x1.2.2.2.2.2.2.1 x1.2.2.2.2.2.2.2.1 x1.2.2.2.2.2.2.2.2.1 x1.2.2.2.2.2.2.2.2.2.1 x1.2.2.2.2.2.2.2.2.2.2.1 x1.2.2.2.2.2.2.2.2.2.2.2.1 x1.2.2.2.2.2.2.2.2.2.2.2.2 y1.1
theorem f_ok {r k x1 x2 x3 x4 x5 x6 x7 x8 x9} (H : f k x1 x2 x3 x4 x5 x6 x7 x8 x9 = some r) : Gw P 2 (Q x2 x3 x4 x5 x6 x7 x8 x9 r) (Px c0 1 []) (s0 x1 x2 x3 x4 x5 x6 x7 x8 x9) := by
  unfold f at H
  refine Rg V_ok 1 [(0, hb 2)] az ?_
  obtain ⟨y1, e2, H⟩ := of_bind H
  refine Rg V_ok 1 [(2, {sb := 3, res := some ⟨f_slices_Clone_ConfO.S.rs, y1⟩})] (ac (f_slices_Clone_ConfO.rl e2) az) ?_
  refine Rg V_ok 0 [] az ?_
  exact LP k (Jm (tn [1, 13, 14, 15] 4) (l1_ok k k (y1.1.length : Int) 0 x1.2.1 x1.2.2.1 x1.2.2.2.1 x1.2.2.2.2.1 x1.2.2.2.2.2.1 x1.2.2.2.2.2.2.1 x1.2.2.2.2.2.2.2.1 x1.2.2.2.2.2.2.2.2.1 x1.2.2.2.2.2.2.2.2.2.1 x1.2.2.2.2.2.2.2.2.2.2.1 x1.2.2.2.2.2.2.2.2.2.2.2.1 x1.2.2.2.2.2.2.2.2.2.2.2.2 y1.1 H))
theorem ok {r k x1 x2 x3 x4 x5 x6 x7 x8 x9} (H : f k x1 x2 x3 x4 x5 x6 x7 x8 x9 = some r) : W P 2 c0 (s0 x1 x2 x3 x4 x5 x6 x7 x8 x9) (CallQ 2 (out x2 x3 x4 x5 x6 x7 x8 x9 r)) := of_G (f_ok H)
theorem at_ : FnAt P 32 85 c0 Go.Proofs.Tryz.f32.results := fnAt Go.Proofs.Tryz.func32 (by kernel_rfl) (by decide) (by kernel_rfl) (by kernel_rfl)
end i_control_own_776m
/-! ### function 83, (*wayfinder/control.controller).two, where it is called -/
namespace i_control_controller_two_f7e
noncomputable def c0 : Code := (Go.Proofs.Tryz.f83.body).getD .skip
noncomputable def V : Env := { tt := tt, Γ := slk [(119, f_slices_Contains_int.S)] }
theorem V_ok : EnvOk P V := { ck := tt_ck, fits := slk_cons f_slices_Contains_int.fits (slk_nil), mixed := mixed }
abbrev R := (Bool) × Unit
noncomputable def s0 (x1 x2 x3 x4 x5 x6 x7 x8 x9 x10 x11 x12 x13 x14 : Int) (x15 : List (List (List T1383.T))) (x16 : List Int) (x17 : List T23b6.T) (x18 : List T713d.T) (x19 x20 : List Int) : St := ⟨10, [(0, .cv (.one (.ptr 1 0)))], [(.box 13, [.nils, .i x1, .i x2, .i x3, .i x4, .i x5, .i x6, .nils, .nils, .nils, .nils, .nils, .i x7]), (.box 13, [.own 2, .i x8, .i x9, .i x10, .i x11, .i x12, .i x13, .own 3, .own 4, .own 5, .own 6, .own 7, .i x14]), (.buf 38 (.slice (.slice T1383)) x15, []), (.buf 3 (.int .i64) x16, []), (.buf 58 T23b6 x17, []), (.buf 93 T713d x18, []), (.buf 3 (.int .i64) x19, []), (.buf 3 (.int .i64) x20, []), (.box 1, [.ptr 1 0])]⟩
noncomputable def out (x1 x2 x3 x4 x5 x6 x7 x8 x9 x10 x11 x12 x13 x14 : Int) (x15 : List (List (List T1383.T))) (x16 : List Int) (x17 : List T23b6.T) (x18 : List T713d.T) (x19 x20 : List Int) (r : R) : St := ⟨10, [(2, .cv (.one (.bool r.1)))], [(.box 13, [.nils, .i x1, .i x2, .i x3, .i x4, .i x5, .i x6, .nils, .nils, .nils, .nils, .nils, .i x7]), (.box 13, [.own 2, .i x8, .i x9, .i x10, .i x11, .i x12, .i x13, .own 3, .own 4, .own 5, .own 6, .own 7, .i x14]), (.buf 38 (.slice (.slice T1383)) x15, []), (.buf 3 (.int .i64) x16, []), (.buf 58 T23b6 x17, []), (.buf 93 T713d x18, []), (.buf 3 (.int .i64) x19, []), (.buf 3 (.int .i64) x20, []), (.box 1, [.ptr 1 0])]⟩
abbrev Q (x1 x2 x3 x4 x5 x6 x7 x8 x9 x10 x11 x12 x13 x14 : Int) (x15 : List (List (List T1383.T))) (x16 : List Int) (x17 : List T23b6.T) (x18 : List T713d.T) (x19 x20 : List Int) (r : R) := CallQ 9 (out x1 x2 x3 x4 x5 x6 x7 x8 x9 x10 x11 x12 x13 x14 x15 x16 x17 x18 x19 x20 r)
noncomputable def f (k : Nat) (x1 x2 x3 x4 x5 x6 x7 x8 x9 x10 x11 x12 x13 x14 : Int) (x15 : List (List (List T1383.T))) (x16 : List Int) (x17 : List T23b6.T) (x18 : List T713d.T) (x19 x20 : List Int) : Option R :=
  (f_slices_Contains_int.f k [1, 2, 3] x12).bind fun y1 =>
    some (y1.1, ())
theorem f_ok {r k x1 x2 x3 x4 x5 x6 x7 x8 x9 x10 x11 x12 x13 x14 x15 x16 x17 x18 x19 x20} (H : f k x1 x2 x3 x4 x5 x6 x7 x8 x9 x10 x11 x12 x13 x14 x15 x16 x17 x18 x19 x20 = some r) : Gw P 9 (Q x1 x2 x3 x4 x5 x6 x7 x8 x9 x10 x11 x12 x13 x14 x15 x16 x17 x18 x19 x20 r) (Px c0 1 []) (s0 x1 x2 x3 x4 x5 x6 x7 x8 x9 x10 x11 x12 x13 x14 x15 x16 x17 x18 x19 x20) := by
  unfold f at H
  refine Rg V_ok 0 [] az ?_
  obtain ⟨y1, e2, H⟩ := of_bind H
  refine Rg V_ok 0 [(6, hr f_slices_Contains_int.S y1)] (ac (f_slices_Contains_int.rl e2) az) ?_
  obtain rfl := Option.some.inj H
  exact Lq (tn [2] 9)
theorem ok {r k x1 x2 x3 x4 x5 x6 x7 x8 x9 x10 x11 x12 x13 x14 x15 x16 x17 x18 x19 x20} (H : f k x1 x2 x3 x4 x5 x6 x7 x8 x9 x10 x11 x12 x13 x14 x15 x16 x17 x18 x19 x20 = some r) : W P 9 c0 (s0 x1 x2 x3 x4 x5 x6 x7 x8 x9 x10 x11 x12 x13 x14 x15 x16 x17 x18 x19 x20) (CallQ 9 (out x1 x2 x3 x4 x5 x6 x7 x8 x9 x10 x11 x12 x13 x14 x15 x16 x17 x18 x19 x20 r)) := of_G (f_ok H)
theorem at_ : FnAt P 83 10 c0 Go.Proofs.Tryz.f83.results := fnAt Go.Proofs.Tryz.func83 (by kernel_rfl) (by decide) (by kernel_rfl) (by kernel_rfl)
end i_control_controller_two_f7e
/-! ### function 82, (*wayfinder/control.controller).is$1, where it is called -/
namespace i_control_controller_is_1_29c
noncomputable def c0 : Code := (Go.Proofs.Tryz.f82.body).getD .skip
noncomputable def V : Env := { tt := tt, Γ := slk [] }
theorem V_ok : EnvOk P V := { ck := tt_ck, fits := slk_nil, mixed := mixed }
abbrev R := (Bool) × Unit
noncomputable def s0 (x1 x2 x3 x4 x5 x6 x7 x8 x9 x10 x11 x12 x13 x14 x15 : Int) (x16 : List (List (List T1383.T))) (x17 : List Int) (x18 : List T23b6.T) (x19 : List T713d.T) (x20 x21 : List Int) : St := ⟨16, [(0, .cv (.one (.i x1))), (1, .cv (.one (.ptr 8 0)))], [(.box 13, [.nils, .i x2, .i x3, .i x4, .i x5, .i x6, .i x7, .nils, .nils, .nils, .nils, .nils, .i x8]), (.box 13, [.own 2, .i x9, .i x10, .i x11, .i x12, .i x13, .i x14, .own 3, .own 4, .own 5, .own 6, .own 7, .i x15]), (.buf 38 (.slice (.slice T1383)) x16, []), (.buf 3 (.int .i64) x17, []), (.buf 58 T23b6 x18, []), (.buf 93 T713d x19, []), (.buf 3 (.int .i64) x20, []), (.buf 3 (.int .i64) x21, []), (.box 1, [.ptr 1 0])]⟩
noncomputable def out (x2 x3 x4 x5 x6 x7 x8 x9 x10 x11 x12 x13 x14 x15 : Int) (x16 : List (List (List T1383.T))) (x17 : List Int) (x18 : List T23b6.T) (x19 : List T713d.T) (x20 x21 : List Int) (r : R) : St := ⟨16, [(3, .cv (.one (.bool r.1)))], [(.box 13, [.nils, .i x2, .i x3, .i x4, .i x5, .i x6, .i x7, .nils, .nils, .nils, .nils, .nils, .i x8]), (.box 13, [.own 2, .i x9, .i x10, .i x11, .i x12, .i x13, .i x14, .own 3, .own 4, .own 5, .own 6, .own 7, .i x15]), (.buf 38 (.slice (.slice T1383)) x16, []), (.buf 3 (.int .i64) x17, []), (.buf 58 T23b6 x18, []), (.buf 93 T713d x19, []), (.buf 3 (.int .i64) x20, []), (.buf 3 (.int .i64) x21, []), (.box 1, [.ptr 1 0])]⟩
abbrev Q (x2 x3 x4 x5 x6 x7 x8 x9 x10 x11 x12 x13 x14 x15 : Int) (x16 : List (List (List T1383.T))) (x17 : List Int) (x18 : List T23b6.T) (x19 : List T713d.T) (x20 x21 : List Int) (r : R) := CallQ 9 (out x2 x3 x4 x5 x6 x7 x8 x9 x10 x11 x12 x13 x14 x15 x16 x17 x18 x19 x20 x21 r)
noncomputable def f (k : Nat) (x1 x2 x3 x4 x5 x6 x7 x8 x9 x10 x11 x12 x13 x14 x15 : Int) (x16 : List (List (List T1383.T))) (x17 : List Int) (x18 : List T23b6.T) (x19 : List T713d.T) (x20 x21 : List Int) : Option R :=
  if (decide (x1 < (0 : Int))) = true then
    some (true, ())
  else
    some ((decide (x1 ≥ (x16.length : Int))), ())
theorem f_ok {r k x1 x2 x3 x4 x5 x6 x7 x8 x9 x10 x11 x12 x13 x14 x15 x16 x17 x18 x19 x20 x21} (H : f k x1 x2 x3 x4 x5 x6 x7 x8 x9 x10 x11 x12 x13 x14 x15 x16 x17 x18 x19 x20 x21 = some r) : Gw P 9 (Q x2 x3 x4 x5 x6 x7 x8 x9 x10 x11 x12 x13 x14 x15 x16 x17 x18 x19 x20 x21 r) (Px c0 1 []) (s0 x1 x2 x3 x4 x5 x6 x7 x8 x9 x10 x11 x12 x13 x14 x15 x16 x17 x18 x19 x20 x21) := by
  unfold f at H
  refine Rg V_ok 0 [] az ?_
  rcases of_ite H with ⟨hb1, H⟩ | ⟨hb1, H⟩
  · refine Rg V_ok 0 [(1, {bv := some true})] (ac hb1 az) ?_
    obtain rfl := Option.some.inj H
    exact Lq (tn [3] 9)
  · refine Rg V_ok 0 [(1, {bv := some false})] (ac hb1 az) ?_
    obtain rfl := Option.some.inj H
    exact Lq (tn [3] 9)
theorem ok {r k x1 x2 x3 x4 x5 x6 x7 x8 x9 x10 x11 x12 x13 x14 x15 x16 x17 x18 x19 x20 x21} (H : f k x1 x2 x3 x4 x5 x6 x7 x8 x9 x10 x11 x12 x13 x14 x15 x16 x17 x18 x19 x20 x21 = some r) : W P 9 c0 (s0 x1 x2 x3 x4 x5 x6 x7 x8 x9 x10 x11 x12 x13 x14 x15 x16 x17 x18 x19 x20 x21) (CallQ 9 (out x2 x3 x4 x5 x6 x7 x8 x9 x10 x11 x12 x13 x14 x15 x16 x17 x18 x19 x20 x21 r)) := of_G (f_ok H)
theorem at_ : FnAt P 82 16 c0 Go.Proofs.Tryz.f82.results := fnAt Go.Proofs.Tryz.func82 (by kernel_rfl) (by decide) (by kernel_rfl) (by kernel_rfl)
end i_control_controller_is_1_29c
/-! ### function 120, slices.IndexFunc[[]int,int], where it is called -/
namespace i_slices_IndexFunc_int_024
noncomputable def c0 : Code := (Go.Proofs.Tryz.f120.body).getD .skip
noncomputable def V : Env := { tt := tt, Γ := slk [] }
theorem V_ok : EnvOk P V := { ck := tt_ck, fits := slk_nil, mixed := mixed }
abbrev R := (Int) × Unit
noncomputable def s0 (x1 x2 x3 x4 x5 x6 x7 x8 x9 x10 x11 x12 x13 x14 : Int) (x15 : List (List (List T1383.T))) (x16 : List Int) (x17 : List T23b6.T) (x18 : List T713d.T) (x19 x20 : List Int) : St := ⟨19, [(0, .cv (.one (.own 3))), (1, .cv (.one (.fn 82 [] [(8, 0)])))], [(.box 13, [.nils, .i x1, .i x2, .i x3, .i x4, .i x5, .i x6, .nils, .nils, .nils, .nils, .nils, .i x7]), (.box 13, [.own 2, .i x8, .i x9, .i x10, .i x11, .i x12, .i x13, .own 3, .own 4, .own 5, .own 6, .own 7, .i x14]), (.buf 38 (.slice (.slice T1383)) x15, []), (.buf 3 (.int .i64) x16, []), (.buf 58 T23b6 x17, []), (.buf 93 T713d x18, []), (.buf 3 (.int .i64) x19, []), (.buf 3 (.int .i64) x20, []), (.box 1, [.ptr 1 0])]⟩
noncomputable def out (x1 x2 x3 x4 x5 x6 x7 x8 x9 x10 x11 x12 x13 x14 : Int) (x15 : List (List (List T1383.T))) (x16 : List Int) (x17 : List T23b6.T) (x18 : List T713d.T) (x19 x20 : List Int) (r : R) : St := ⟨19, [(4, .cv (.one (.i r.1)))], [(.box 13, [.nils, .i x1, .i x2, .i x3, .i x4, .i x5, .i x6, .nils, .nils, .nils, .nils, .nils, .i x7]), (.box 13, [.own 2, .i x8, .i x9, .i x10, .i x11, .i x12, .i x13, .own 3, .own 4, .own 5, .own 6, .own 7, .i x14]), (.buf 38 (.slice (.slice T1383)) x15, []), (.buf 3 (.int .i64) x16, []), (.buf 58 T23b6 x17, []), (.buf 93 T713d x18, []), (.buf 3 (.int .i64) x19, []), (.buf 3 (.int .i64) x20, []), (.box 1, [.ptr 1 0])]⟩
abbrev Q (x1 x2 x3 x4 x5 x6 x7 x8 x9 x10 x11 x12 x13 x14 : Int) (x15 : List (List (List T1383.T))) (x16 : List Int) (x17 : List T23b6.T) (x18 : List T713d.T) (x19 x20 : List Int) (r : R) := CallQ 9 (out x1 x2 x3 x4 x5 x6 x7 x8 x9 x10 x11 x12 x13 x14 x15 x16 x17 x18 x19 x20 r)
noncomputable def s1 (x1 x2 x3 x4 x5 x6 x7 x8 x9 x10 x11 x12 x13 x14 : Int) (x15 : List (List (List T1383.T))) (x16 : List Int) (x17 : List T23b6.T) (x18 : List T713d.T) (x19 x20 : List Int) (p1 p2 : Int) : St := ⟨19, [(0, .cv (.one (.own 3))), (1, .cv (.one (.fn 82 [] [(8, 0)]))), (7, .cv (.one (.i p1))), (8, .cv (.one (.i p2)))], [(.box 13, [.nils, .i x1, .i x2, .i x3, .i x4, .i x5, .i x6, .nils, .nils, .nils, .nils, .nils, .i x7]), (.box 13, [.own 2, .i x8, .i x9, .i x10, .i x11, .i x12, .i x13, .own 3, .own 4, .own 5, .own 6, .own 7, .i x14]), (.buf 38 (.slice (.slice T1383)) x15, []), (.buf 3 (.int .i64) x16, []), (.buf 58 T23b6 x17, []), (.buf 93 T713d x18, []), (.buf 3 (.int .i64) x19, []), (.buf 3 (.int .i64) x20, []), (.box 1, [.ptr 1 0])]⟩
noncomputable def b1 (x1 x2 x3 x4 x5 x6 x7 x8 x9 x10 x11 x12 x13 x14 : Int) (x15 : List (List (List T1383.T))) (x16 : List Int) (x17 : List T23b6.T) (x18 : List T713d.T) (x19 x20 : List Int) (L1 : Int → Int → Option R) (k : Nat) (p1 p2 : Int) : Option R :=
  if (decide (p2 < p1)) = true then
  if 0 ≤ p2 then
    if p2 < (x16.length : Int) then
      (i_control_controller_is_1_29c.f k (att (.int .i64) x16 p2) x1 x2 x3 x4 x5 x6 x7 x8 x9 x10 x11 x12 x13 x14 x15 x16 x17 x18 x19 x20).bind fun y4 =>
        if y4.1 = true then
          some (p2, ())
        else
          L1 p1 (IntKind.i64.wrap (p2 + 1))
    else none
  else none
else
  some ((-1), ())
theorem b1_ok {r x1 x2 x3 x4 x5 x6 x7 x8 x9 x10 x11 x12 x13 x14 x15 x16 x17 x18 x19 x20} {L1 : Int → Int → Option R} {m1 : Nat} (hL1 : ∀ p1 p2, L1 p1 p2 = some r → Gw P 9 (Q x1 x2 x3 x4 x5 x6 x7 x8 x9 x10 x11 x12 x13 x14 x15 x16 x17 x18 x19 x20 r) (Pb c0 21 [] m1) (s1 x1 x2 x3 x4 x5 x6 x7 x8 x9 x10 x11 x12 x13 x14 x15 x16 x17 x18 x19 x20 p1 p2)) {k p1 p2} (H : b1 x1 x2 x3 x4 x5 x6 x7 x8 x9 x10 x11 x12 x13 x14 x15 x16 x17 x18 x19 x20 L1 k p1 p2 = some r) : Gw P 9 (Q x1 x2 x3 x4 x5 x6 x7 x8 x9 x10 x11 x12 x13 x14 x15 x16 x17 x18 x19 x20 r) (Px c0 37 [m1]) (s1 x1 x2 x3 x4 x5 x6 x7 x8 x9 x10 x11 x12 x13 x14 x15 x16 x17 x18 x19 x20 p1 p2) := by
  unfold b1 at H
  refine Rg V_ok 0 [] az ?_
  rcases of_ite H with ⟨hb1, H⟩ | ⟨hb1, H⟩
  · refine C1 hb1 ?_
    refine Rg V_ok 0 [] az ?_
    refine GT (tn [0, 1, 5, 7, 8] 9) (RI ?_)
    obtain ⟨n2, H⟩ := of_if H
    obtain ⟨n3, H⟩ := of_if H
    refine EV V_ok 0 [] 5 (ac n2 (ac n3 az)) ?_
    obtain ⟨y4, e5, H⟩ := of_bind H
    refine CL V_ok i_control_controller_is_1_29c.at_ (i_control_controller_is_1_29c.ok e5) ?_
    refine RN ?_
    rcases of_ite H with ⟨hb6, H⟩ | ⟨hb6, H⟩
    · refine C1 hb6 ?_
      refine Rg V_ok 0 [] az ?_
      obtain rfl := Option.some.inj H
      exact Lq (tn [4] 9)
    · refine C0 hb6 ?_
      refine Rg V_ok 0 [] az ?_
      exact Jm (tn [0, 1, 7, 8] 9) (hL1 p1 (IntKind.i64.wrap (p2 + 1)) H)
  · refine C0 hb1 ?_
    refine Rg V_ok 0 [] az ?_
    obtain rfl := Option.some.inj H
    exact Lq (tn [4] 9)
noncomputable def l1 (x1 x2 x3 x4 x5 x6 x7 x8 x9 x10 x11 x12 x13 x14 : Int) (x15 : List (List (List T1383.T))) (x16 : List Int) (x17 : List T23b6.T) (x18 : List T713d.T) (x19 x20 : List Int) (k : Nat) : Nat → Int → Int → Option R
  | 0, _, _ => none
  | m + 1, p1, p2 => b1 x1 x2 x3 x4 x5 x6 x7 x8 x9 x10 x11 x12 x13 x14 x15 x16 x17 x18 x19 x20 (l1 x1 x2 x3 x4 x5 x6 x7 x8 x9 x10 x11 x12 x13 x14 x15 x16 x17 x18 x19 x20 k m) k p1 p2
theorem l1_ok {r x1 x2 x3 x4 x5 x6 x7 x8 x9 x10 x11 x12 x13 x14 x15 x16 x17 x18 x19 x20} (k : Nat) : ∀ (m1 : Nat) (p1 : Int) (p2 : Int), l1 x1 x2 x3 x4 x5 x6 x7 x8 x9 x10 x11 x12 x13 x14 x15 x16 x17 x18 x19 x20 k m1 p1 p2 = some r → Gw P 9 (Q x1 x2 x3 x4 x5 x6 x7 x8 x9 x10 x11 x12 x13 x14 x15 x16 x17 x18 x19 x20 r) (Pb c0 21 [] m1) (s1 x1 x2 x3 x4 x5 x6 x7 x8 x9 x10 x11 x12 x13 x14 x15 x16 x17 x18 x19 x20 p1 p2)
  | 0, _, _, H => by cases H
  | m1 + 1, p1, p2, H => SU (by kernel_rfl) (b1_ok (l1_ok k m1) H)
noncomputable def f (k : Nat) (x1 x2 x3 x4 x5 x6 x7 x8 x9 x10 x11 x12 x13 x14 : Int) (x15 : List (List (List T1383.T))) (x16 : List Int) (x17 : List T23b6.T) (x18 : List T713d.T) (x19 x20 : List Int) : Option R :=
  l1 x1 x2 x3 x4 x5 x6 x7 x8 x9 x10 x11 x12 x13 x14 x15 x16 x17 x18 x19 x20 k k (x16.length : Int) 0
theorem f_ok {r k x1 x2 x3 x4 x5 x6 x7 x8 x9 x10 x11 x12 x13 x14 x15 x16 x17 x18 x19 x20} (H : f k x1 x2 x3 x4 x5 x6 x7 x8 x9 x10 x11 x12 x13 x14 x15 x16 x17 x18 x19 x20 = some r) : Gw P 9 (Q x1 x2 x3 x4 x5 x6 x7 x8 x9 x10 x11 x12 x13 x14 x15 x16 x17 x18 x19 x20 r) (Px c0 1 []) (s0 x1 x2 x3 x4 x5 x6 x7 x8 x9 x10 x11 x12 x13 x14 x15 x16 x17 x18 x19 x20) := by
  unfold f at H
  refine Rg V_ok 0 [] az ?_
  refine Rg V_ok 0 [] az ?_
  exact LP k (Jm (tn [0, 1, 7, 8] 9) (l1_ok k k (x16.length : Int) 0 H))
theorem ok {r k x1 x2 x3 x4 x5 x6 x7 x8 x9 x10 x11 x12 x13 x14 x15 x16 x17 x18 x19 x20} (H : f k x1 x2 x3 x4 x5 x6 x7 x8 x9 x10 x11 x12 x13 x14 x15 x16 x17 x18 x19 x20 = some r) : W P 9 c0 (s0 x1 x2 x3 x4 x5 x6 x7 x8 x9 x10 x11 x12 x13 x14 x15 x16 x17 x18 x19 x20) (CallQ 9 (out x1 x2 x3 x4 x5 x6 x7 x8 x9 x10 x11 x12 x13 x14 x15 x16 x17 x18 x19 x20 r)) := of_G (f_ok H)
theorem at_ : FnAt P 120 19 c0 Go.Proofs.Tryz.f120.results := fnAt Go.Proofs.Tryz.func120 (by kernel_rfl) (by decide) (by kernel_rfl) (by kernel_rfl)
end i_slices_IndexFunc_int_024
/-! ### function 84, slices.ContainsFunc[[]int,int], where it is called -/
namespace i_slices_ContainsFunc_int_024
noncomputable def c0 : Code := (Go.Proofs.Tryz.f84.body).getD .skip
noncomputable def V : Env := { tt := tt, Γ := slk [] }
theorem V_ok : EnvOk P V := { ck := tt_ck, fits := slk_nil, mixed := mixed }
abbrev R := (Bool) × Unit
noncomputable def s0 (x1 x2 x3 x4 x5 x6 x7 x8 x9 x10 x11 x12 x13 x14 : Int) (x15 : List (List (List T1383.T))) (x16 : List Int) (x17 : List T23b6.T) (x18 : List T713d.T) (x19 x20 : List Int) : St := ⟨9, [(0, .cv (.one (.own 3))), (1, .cv (.one (.fn 82 [] [(8, 0)])))], [(.box 13, [.nils, .i x1, .i x2, .i x3, .i x4, .i x5, .i x6, .nils, .nils, .nils, .nils, .nils, .i x7]), (.box 13, [.own 2, .i x8, .i x9, .i x10, .i x11, .i x12, .i x13, .own 3, .own 4, .own 5, .own 6, .own 7, .i x14]), (.buf 38 (.slice (.slice T1383)) x15, []), (.buf 3 (.int .i64) x16, []), (.buf 58 T23b6 x17, []), (.buf 93 T713d x18, []), (.buf 3 (.int .i64) x19, []), (.buf 3 (.int .i64) x20, []), (.box 1, [.ptr 1 0])]⟩
noncomputable def out (x1 x2 x3 x4 x5 x6 x7 x8 x9 x10 x11 x12 x13 x14 : Int) (x15 : List (List (List T1383.T))) (x16 : List Int) (x17 : List T23b6.T) (x18 : List T713d.T) (x19 x20 : List Int) (r : R) : St := ⟨9, [(4, .cv (.one (.bool r.1)))], [(.box 13, [.nils, .i x1, .i x2, .i x3, .i x4, .i x5, .i x6, .nils, .nils, .nils, .nils, .nils, .i x7]), (.box 13, [.own 2, .i x8, .i x9, .i x10, .i x11, .i x12, .i x13, .own 3, .own 4, .own 5, .own 6, .own 7, .i x14]), (.buf 38 (.slice (.slice T1383)) x15, []), (.buf 3 (.int .i64) x16, []), (.buf 58 T23b6 x17, []), (.buf 93 T713d x18, []), (.buf 3 (.int .i64) x19, []), (.buf 3 (.int .i64) x20, []), (.box 1, [.ptr 1 0])]⟩
abbrev Q (x1 x2 x3 x4 x5 x6 x7 x8 x9 x10 x11 x12 x13 x14 : Int) (x15 : List (List (List T1383.T))) (x16 : List Int) (x17 : List T23b6.T) (x18 : List T713d.T) (x19 x20 : List Int) (r : R) := CallQ 9 (out x1 x2 x3 x4 x5 x6 x7 x8 x9 x10 x11 x12 x13 x14 x15 x16 x17 x18 x19 x20 r)
noncomputable def f (k : Nat) (x1 x2 x3 x4 x5 x6 x7 x8 x9 x10 x11 x12 x13 x14 : Int) (x15 : List (List (List T1383.T))) (x16 : List Int) (x17 : List T23b6.T) (x18 : List T713d.T) (x19 x20 : List Int) : Option R :=
  (i_slices_IndexFunc_int_024.f k x1 x2 x3 x4 x5 x6 x7 x8 x9 x10 x11 x12 x13 x14 x15 x16 x17 x18 x19 x20).bind fun y1 =>
    some ((decide (y1.1 ≥ (0 : Int))), ())
theorem f_ok {r k x1 x2 x3 x4 x5 x6 x7 x8 x9 x10 x11 x12 x13 x14 x15 x16 x17 x18 x19 x20} (H : f k x1 x2 x3 x4 x5 x6 x7 x8 x9 x10 x11 x12 x13 x14 x15 x16 x17 x18 x19 x20 = some r) : Gw P 9 (Q x1 x2 x3 x4 x5 x6 x7 x8 x9 x10 x11 x12 x13 x14 x15 x16 x17 x18 x19 x20 r) (Px c0 1 []) (s0 x1 x2 x3 x4 x5 x6 x7 x8 x9 x10 x11 x12 x13 x14 x15 x16 x17 x18 x19 x20) := by
  unfold f at H
  refine Rg V_ok 0 [] az ?_
  refine GT (tn [0, 1] 9) (RI ?_)
  refine EV V_ok 0 [] 2 az ?_
  obtain ⟨y1, e2, H⟩ := of_bind H
  refine CL V_ok i_slices_IndexFunc_int_024.at_ (i_slices_IndexFunc_int_024.ok e2) ?_
  refine EV V_ok 0 [] 2 az ?_
  refine RN ?_
  obtain rfl := Option.some.inj H
  exact Lq (tn [4] 9)
theorem ok {r k x1 x2 x3 x4 x5 x6 x7 x8 x9 x10 x11 x12 x13 x14 x15 x16 x17 x18 x19 x20} (H : f k x1 x2 x3 x4 x5 x6 x7 x8 x9 x10 x11 x12 x13 x14 x15 x16 x17 x18 x19 x20 = some r) : W P 9 c0 (s0 x1 x2 x3 x4 x5 x6 x7 x8 x9 x10 x11 x12 x13 x14 x15 x16 x17 x18 x19 x20) (CallQ 9 (out x1 x2 x3 x4 x5 x6 x7 x8 x9 x10 x11 x12 x13 x14 x15 x16 x17 x18 x19 x20 r)) := of_G (f_ok H)
theorem at_ : FnAt P 84 9 c0 Go.Proofs.Tryz.f84.results := fnAt Go.Proofs.Tryz.func84 (by kernel_rfl) (by decide) (by kernel_rfl) (by kernel_rfl)
end i_slices_ContainsFunc_int_024
/-! ### function 33, (*wayfinder/control.controller).is, where it is called -/
namespace i_control_controller_is_559
noncomputable def c0 : Code := (Go.Proofs.Tryz.f33.body).getD .skip
noncomputable def V : Env := { tt := tt, Γ := slk [] }
theorem V_ok : EnvOk P V := { ck := tt_ck, fits := slk_nil, mixed := mixed }
abbrev R := (Bool) × Unit
noncomputable def s0 (x1 x2 x3 x4 x5 x6 x7 x8 x9 x10 x11 x12 x13 x14 : Int) (x15 : List (List (List T1383.T))) (x16 : List Int) (x17 : List T23b6.T) (x18 : List T713d.T) (x19 x20 : List Int) : St := ⟨57, [(0, .cv (.one (.ptr 1 0)))], [(.box 13, [.nils, .i x1, .i x2, .i x3, .i x4, .i x5, .i x6, .nils, .nils, .nils, .nils, .nils, .i x7]), (.box 13, [.own 2, .i x8, .i x9, .i x10, .i x11, .i x12, .i x13, .own 3, .own 4, .own 5, .own 6, .own 7, .i x14]), (.buf 38 (.slice (.slice T1383)) x15, []), (.buf 3 (.int .i64) x16, []), (.buf 58 T23b6 x17, []), (.buf 93 T713d x18, []), (.buf 3 (.int .i64) x19, []), (.buf 3 (.int .i64) x20, [])]⟩
noncomputable def out (x1 x2 x3 x4 x5 x6 x7 x8 x9 x10 x11 x12 x13 x14 : Int) (x15 : List (List (List T1383.T))) (x16 : List Int) (x17 : List T23b6.T) (x18 : List T713d.T) (x19 x20 : List Int) (r : R) : St := ⟨57, [(2, .cv (.one (.bool r.1)))], [(.box 13, [.nils, .i x1, .i x2, .i x3, .i x4, .i x5, .i x6, .nils, .nils, .nils, .nils, .nils, .i x7]), (.box 13, [.own 2, .i x8, .i x9, .i x10, .i x11, .i x12, .i x13, .own 3, .own 4, .own 5, .own 6, .own 7, .i x14]), (.buf 38 (.slice (.slice T1383)) x15, []), (.buf 3 (.int .i64) x16, []), (.buf 58 T23b6 x17, []), (.buf 93 T713d x18, []), (.buf 3 (.int .i64) x19, []), (.buf 3 (.int .i64) x20, [])]⟩
abbrev Q (x1 x2 x3 x4 x5 x6 x7 x8 x9 x10 x11 x12 x13 x14 : Int) (x15 : List (List (List T1383.T))) (x16 : List Int) (x17 : List T23b6.T) (x18 : List T713d.T) (x19 x20 : List Int) (r : R) := CallQ 8 (out x1 x2 x3 x4 x5 x6 x7 x8 x9 x10 x11 x12 x13 x14 x15 x16 x17 x18 x19 x20 r)
noncomputable def s1 (x1 x2 x3 x4 x5 x6 x7 x8 x9 x10 x11 x12 x13 x14 : Int) (x15 : List (List (List T1383.T))) (x16 : List Int) (x17 : List T23b6.T) (x18 : List T713d.T) (x19 x20 : List Int) (p1 : Bool) : St := ⟨57, [(1, .cv (.one (.ptr 8 0))), (3, .cv (.one (.fn 82 [] [(8, 0)]))), (4, .cv (.one (.bool p1)))], [(.box 13, [.nils, .i x1, .i x2, .i x3, .i x4, .i x5, .i x6, .nils, .nils, .nils, .nils, .nils, .i x7]), (.box 13, [.own 2, .i x8, .i x9, .i x10, .i x11, .i x12, .i x13, .own 3, .own 4, .own 5, .own 6, .own 7, .i x14]), (.buf 38 (.slice (.slice T1383)) x15, []), (.buf 3 (.int .i64) x16, []), (.buf 58 T23b6 x17, []), (.buf 93 T713d x18, []), (.buf 3 (.int .i64) x19, []), (.buf 3 (.int .i64) x20, []), (.box 1, [.ptr 1 0])]⟩
noncomputable def j1 (x1 x2 x3 x4 x5 x6 x7 x8 x9 x10 x11 x12 x13 x14 : Int) (x15 : List (List (List T1383.T))) (x16 : List Int) (x17 : List T23b6.T) (x18 : List T713d.T) (x19 x20 : List Int) (k : Nat) (p1 : Bool) : Option R :=
  if p1 = true then
  (i_control_controller_is_1_29c.f k x8 x1 x2 x3 x4 x5 x6 x7 x8 x9 x10 x11 x12 x13 x14 x15 x16 x17 x18 x19 x20).bind fun y6 =>
    if (!y6.1) = true then
      (i_slices_ContainsFunc_int_024.f k x1 x2 x3 x4 x5 x6 x7 x8 x9 x10 x11 x12 x13 x14 x15 x16 x17 x18 x19 x20).bind fun y9 =>
        if (!y9.1) = true then
          some ((decide ((x17.length : Int) ≤ (100 : Int))), ())
        else
          some (false, ())
    else
      some (false, ())
else
  some (false, ())
theorem j1_ok {r x1 x2 x3 x4 x5 x6 x7 x8 x9 x10 x11 x12 x13 x14 x15 x16 x17 x18 x19 x20} {k p1} (H : j1 x1 x2 x3 x4 x5 x6 x7 x8 x9 x10 x11 x12 x13 x14 x15 x16 x17 x18 x19 x20 k p1 = some r) : Gw P 8 (Q x1 x2 x3 x4 x5 x6 x7 x8 x9 x10 x11 x12 x13 x14 x15 x16 x17 x18 x19 x20 r) (Px c0 15 []) (s1 x1 x2 x3 x4 x5 x6 x7 x8 x9 x10 x11 x12 x13 x14 x15 x16 x17 x18 x19 x20 p1) := by
  unfold j1 at H
  refine GT (tn [1, 3, 4] 9) (RI ?_)
  refine EV V_ok 0 [] 2 az ?_
  rcases of_ite H with ⟨hb5, H⟩ | ⟨hb5, H⟩
  · refine FXO 28 hb5 ?_
    refine EV V_ok 0 [] 6 az ?_
    obtain ⟨y6, e7, H⟩ := of_bind H
    refine CL V_ok i_control_controller_is_1_29c.at_ (i_control_controller_is_1_29c.ok e7) ?_
    refine EV V_ok 0 [] 3 az ?_
    rcases of_ite H with ⟨hb8, H⟩ | ⟨hb8, H⟩
    · refine FXO 38 hb8 ?_
      refine EV V_ok 0 [] 6 az ?_
      obtain ⟨y9, e10, H⟩ := of_bind H
      refine CL V_ok i_slices_ContainsFunc_int_024.at_ (i_slices_ContainsFunc_int_024.ok e10) ?_
      refine EV V_ok 0 [] 3 az ?_
      rcases of_ite H with ⟨hb11, H⟩ | ⟨hb11, H⟩
      · refine FXO 48 hb11 ?_
        refine EV V_ok 0 [] 9 az ?_
        refine RN ?_
        obtain rfl := Option.some.inj H
        exact Lq (tn [2] 8)
      · refine FXO 48 hb11 ?_
        refine EV V_ok 0 [] 9 az ?_
        refine RN ?_
        obtain rfl := Option.some.inj H
        exact Lq (tn [2] 8)
    · refine FXO 38 hb8 ?_
      refine EV V_ok 0 [] 10 az ?_
      refine EV V_ok 0 [] 9 az ?_
      refine RN ?_
      obtain rfl := Option.some.inj H
      exact Lq (tn [2] 8)
  · refine FXO 28 hb5 ?_
    refine EV V_ok 0 [] 10 az ?_
    refine EV V_ok 0 [] 10 az ?_
    refine EV V_ok 0 [] 9 az ?_
    refine RN ?_
    obtain rfl := Option.some.inj H
    exact Lq (tn [2] 8)
noncomputable def f (k : Nat) (x1 x2 x3 x4 x5 x6 x7 x8 x9 x10 x11 x12 x13 x14 : Int) (x15 : List (List (List T1383.T))) (x16 : List Int) (x17 : List T23b6.T) (x18 : List T713d.T) (x19 x20 : List Int) : Option R :=
  if (x9 == (-1 : Int)) = true then
    (i_control_controller_two_f7e.f k x1 x2 x3 x4 x5 x6 x7 x8 x9 x10 x11 x12 x13 x14 x15 x16 x17 x18 x19 x20).bind fun y2 =>
      if (!y2.1) = true then
        j1 x1 x2 x3 x4 x5 x6 x7 x8 x9 x10 x11 x12 x13 x14 x15 x16 x17 x18 x19 x20 k true
      else
        (i_control_controller_is_1_29c.f k x9 x1 x2 x3 x4 x5 x6 x7 x8 x9 x10 x11 x12 x13 x14 x15 x16 x17 x18 x19 x20).bind fun y12 =>
          j1 x1 x2 x3 x4 x5 x6 x7 x8 x9 x10 x11 x12 x13 x14 x15 x16 x17 x18 x19 x20 k (!y12.1)
  else
    (i_control_controller_is_1_29c.f k x9 x1 x2 x3 x4 x5 x6 x7 x8 x9 x10 x11 x12 x13 x14 x15 x16 x17 x18 x19 x20).bind fun y14 =>
      j1 x1 x2 x3 x4 x5 x6 x7 x8 x9 x10 x11 x12 x13 x14 x15 x16 x17 x18 x19 x20 k (!y14.1)
theorem f_ok {r k x1 x2 x3 x4 x5 x6 x7 x8 x9 x10 x11 x12 x13 x14 x15 x16 x17 x18 x19 x20} (H : f k x1 x2 x3 x4 x5 x6 x7 x8 x9 x10 x11 x12 x13 x14 x15 x16 x17 x18 x19 x20 = some r) : Gw P 8 (Q x1 x2 x3 x4 x5 x6 x7 x8 x9 x10 x11 x12 x13 x14 x15 x16 x17 x18 x19 x20 r) (Px c0 1 []) (s0 x1 x2 x3 x4 x5 x6 x7 x8 x9 x10 x11 x12 x13 x14 x15 x16 x17 x18 x19 x20) := by
  unfold f at H
  refine Rg V_ok 1 [(0, hb 8)] az ?_
  refine Rg V_ok 0 [] az ?_
  refine GT (tn [1, 3] 9) (RI ?_)
  refine EV V_ok 0 [] 7 az ?_
  rcases of_ite H with ⟨hb1, H⟩ | ⟨hb1, H⟩
  · refine FXO 12 hb1 ?_
    refine EV V_ok 0 [] 1 az ?_
    obtain ⟨y2, e3, H⟩ := of_bind H
    refine CL V_ok i_control_controller_two_f7e.at_ (i_control_controller_two_f7e.ok e3) ?_
    refine EV V_ok 0 [] 3 az ?_
    rcases of_ite H with ⟨hb4, H⟩ | ⟨hb4, H⟩
    · refine FXO 17 hb4 ?_
      refine EV V_ok 0 [] 10 az ?_
      refine RN ?_
      exact Jm (tn [1, 3, 4] 9) (j1_ok H)
    · refine FXO 17 hb4 ?_
      refine EV V_ok 0 [] 6 az ?_
      obtain ⟨y12, e13, H⟩ := of_bind H
      refine CL V_ok i_control_controller_is_1_29c.at_ (i_control_controller_is_1_29c.ok e13) ?_
      refine EV V_ok 0 [] 3 az ?_
      refine RN ?_
      exact Jm (tn [1, 3, 4] 9) (j1_ok H)
  · refine FXO 12 hb1 ?_
    refine EV V_ok 0 [] 5 az ?_
    refine EV V_ok 0 [] 6 az ?_
    obtain ⟨y14, e15, H⟩ := of_bind H
    refine CL V_ok i_control_controller_is_1_29c.at_ (i_control_controller_is_1_29c.ok e15) ?_
    refine EV V_ok 0 [] 3 az ?_
    refine RN ?_
    exact Jm (tn [1, 3, 4] 9) (j1_ok H)
theorem ok {r k x1 x2 x3 x4 x5 x6 x7 x8 x9 x10 x11 x12 x13 x14 x15 x16 x17 x18 x19 x20} (H : f k x1 x2 x3 x4 x5 x6 x7 x8 x9 x10 x11 x12 x13 x14 x15 x16 x17 x18 x19 x20 = some r) : W P 8 c0 (s0 x1 x2 x3 x4 x5 x6 x7 x8 x9 x10 x11 x12 x13 x14 x15 x16 x17 x18 x19 x20) (CallQ 8 (out x1 x2 x3 x4 x5 x6 x7 x8 x9 x10 x11 x12 x13 x14 x15 x16 x17 x18 x19 x20 r)) := of_G (f_ok H)
theorem at_ : FnAt P 33 57 c0 Go.Proofs.Tryz.f33.results := fnAt Go.Proofs.Tryz.func33 (by kernel_rfl) (by decide) (by kernel_rfl) (by kernel_rfl)
end i_control_controller_is_559
/-! ### function 83, (*wayfinder/control.controller).two, where it is called -/
namespace i_control_controller_two_234
noncomputable def c0 : Code := (Go.Proofs.Tryz.f83.body).getD .skip
noncomputable def V : Env := { tt := tt, Γ := slk [(119, f_slices_Contains_int.S)] }
theorem V_ok : EnvOk P V := { ck := tt_ck, fits := slk_cons f_slices_Contains_int.fits (slk_nil), mixed := mixed }
abbrev R := (Bool) × Unit
noncomputable def s0 (x1 x2 x3 x4 x5 x6 x7 x8 x9 x10 x11 x12 x13 x14 : Int) (x15 : T4414.T) (x16 : List (List (List T1383.T))) (x17 : List Int) (x18 : List T23b6.T) (x19 : List T713d.T) (x20 x21 : List Int) (x22 : T4414.T) : St := ⟨10, [(0, .cv (.one (.ptr 1 0)))], [(.box 13, [.nils, .i x1, .i x2, .i x3, .i x4, .i x5, .i x6, .nils, .nils, .nils, .nils, .nils, .i x7]), (.box 13, [.own 3, .i x8, .i x9, .i x10, .i x11, .i x12, .i x13, .own 4, .own 5, .own 6, .own 7, .own 8, .i x14]), (.box 10, (encC .any T4414 x15)), (.buf 38 (.slice (.slice T1383)) x16, []), (.buf 3 (.int .i64) x17, []), (.buf 58 T23b6 x18, []), (.buf 93 T713d x19, []), (.buf 3 (.int .i64) x20, []), (.buf 3 (.int .i64) x21, []), (.box 10, (encC .any T4414 x22))]⟩
noncomputable def out (x1 x2 x3 x4 x5 x6 x7 x8 x9 x10 x11 x12 x13 x14 : Int) (x15 : T4414.T) (x16 : List (List (List T1383.T))) (x17 : List Int) (x18 : List T23b6.T) (x19 : List T713d.T) (x20 x21 : List Int) (x22 : T4414.T) (r : R) : St := ⟨10, [(2, .cv (.one (.bool r.1)))], [(.box 13, [.nils, .i x1, .i x2, .i x3, .i x4, .i x5, .i x6, .nils, .nils, .nils, .nils, .nils, .i x7]), (.box 13, [.own 3, .i x8, .i x9, .i x10, .i x11, .i x12, .i x13, .own 4, .own 5, .own 6, .own 7, .own 8, .i x14]), (.box 10, (encC .any T4414 x15)), (.buf 38 (.slice (.slice T1383)) x16, []), (.buf 3 (.int .i64) x17, []), (.buf 58 T23b6 x18, []), (.buf 93 T713d x19, []), (.buf 3 (.int .i64) x20, []), (.buf 3 (.int .i64) x21, []), (.box 10, (encC .any T4414 x22))]⟩
abbrev Q (x1 x2 x3 x4 x5 x6 x7 x8 x9 x10 x11 x12 x13 x14 : Int) (x15 : T4414.T) (x16 : List (List (List T1383.T))) (x17 : List Int) (x18 : List T23b6.T) (x19 : List T713d.T) (x20 x21 : List Int) (x22 : T4414.T) (r : R) := CallQ 10 (out x1 x2 x3 x4 x5 x6 x7 x8 x9 x10 x11 x12 x13 x14 x15 x16 x17 x18 x19 x20 x21 x22 r)
noncomputable def f (k : Nat) (x1 x2 x3 x4 x5 x6 x7 x8 x9 x10 x11 x12 x13 x14 : Int) (x15 : T4414.T) (x16 : List (List (List T1383.T))) (x17 : List Int) (x18 : List T23b6.T) (x19 : List T713d.T) (x20 x21 : List Int) (x22 : T4414.T) : Option R :=
  (f_slices_Contains_int.f k [1, 2, 3] x12).bind fun y1 =>
    some (y1.1, ())
theorem f_ok {r k x1 x2 x3 x4 x5 x6 x7 x8 x9 x10 x11 x12 x13 x14 x15 x16 x17 x18 x19 x20 x21 x22} (H : f k x1 x2 x3 x4 x5 x6 x7 x8 x9 x10 x11 x12 x13 x14 x15 x16 x17 x18 x19 x20 x21 x22 = some r) : Gw P 10 (Q x1 x2 x3 x4 x5 x6 x7 x8 x9 x10 x11 x12 x13 x14 x15 x16 x17 x18 x19 x20 x21 x22 r) (Px c0 1 []) (s0 x1 x2 x3 x4 x5 x6 x7 x8 x9 x10 x11 x12 x13 x14 x15 x16 x17 x18 x19 x20 x21 x22) := by
  unfold f at H
  refine Rg V_ok 0 [] az ?_
  obtain ⟨y1, e2, H⟩ := of_bind H
  refine Rg V_ok 0 [(6, hr f_slices_Contains_int.S y1)] (ac (f_slices_Contains_int.rl e2) az) ?_
  obtain rfl := Option.some.inj H
  exact Lq (tn [2] 10)
theorem ok {r k x1 x2 x3 x4 x5 x6 x7 x8 x9 x10 x11 x12 x13 x14 x15 x16 x17 x18 x19 x20 x21 x22} (H : f k x1 x2 x3 x4 x5 x6 x7 x8 x9 x10 x11 x12 x13 x14 x15 x16 x17 x18 x19 x20 x21 x22 = some r) : W P 10 c0 (s0 x1 x2 x3 x4 x5 x6 x7 x8 x9 x10 x11 x12 x13 x14 x15 x16 x17 x18 x19 x20 x21 x22) (CallQ 10 (out x1 x2 x3 x4 x5 x6 x7 x8 x9 x10 x11 x12 x13 x14 x15 x16 x17 x18 x19 x20 x21 x22 r)) := of_G (f_ok H)
theorem at_ : FnAt P 83 10 c0 Go.Proofs.Tryz.f83.results := fnAt Go.Proofs.Tryz.func83 (by kernel_rfl) (by decide) (by kernel_rfl) (by kernel_rfl)
end i_control_controller_two_234
/-! ### function 111, (*wayfinder/control.controller).live$1, where it is called -/
namespace i_control_controller_live_1_90e
noncomputable def c0 : Code := (Go.Proofs.Tryz.f111.body).getD .skip
noncomputable def V : Env := { tt := tt, Γ := slk [] }
theorem V_ok : EnvOk P V := { ck := tt_ck, fits := slk_nil, mixed := mixed }
abbrev R := (Int) × Unit
noncomputable def s0 (x1 x2 : T814c.T) (x3 x4 x5 x6 x7 x8 x9 x10 x11 x12 x13 x14 x15 x16 : Int) (x17 : T4414.T) (x18 : List (List (List T1383.T))) (x19 : List Int) (x20 : List T23b6.T) (x21 : List T713d.T) (x22 x23 : List Int) (x24 : T4414.T) (x25 : List T814c.T) : St := ⟨17, [(0, .cv (.agg [.i x1.1, .sl T1383 x1.2 .any])), (1, .cv (.agg [.i x2.1, .sl T1383 x2.2 .any]))], [(.box 13, [.nils, .i x3, .i x4, .i x5, .i x6, .i x7, .i x8, .nils, .nils, .nils, .nils, .nils, .i x9]), (.box 13, [.own 3, .i x10, .i x11, .i x12, .i x13, .i x14, .i x15, .own 4, .own 5, .own 6, .own 7, .own 8, .i x16]), (.box 10, (encC .any T4414 x17)), (.buf 38 (.slice (.slice T1383)) x18, []), (.buf 3 (.int .i64) x19, []), (.buf 58 T23b6 x20, []), (.buf 93 T713d x21, []), (.buf 3 (.int .i64) x22, []), (.buf 3 (.int .i64) x23, []), (.box 10, (encC .any T4414 x24)), (.buf 100 T814c x25, [])]⟩
noncomputable def out (x3 x4 x5 x6 x7 x8 x9 x10 x11 x12 x13 x14 x15 x16 : Int) (x17 : T4414.T) (x18 : List (List (List T1383.T))) (x19 : List Int) (x20 : List T23b6.T) (x21 : List T713d.T) (x22 x23 : List Int) (x24 : T4414.T) (x25 : List T814c.T) (r : R) : St := ⟨17, [(4, .cv (.one (.i r.1)))], [(.box 13, [.nils, .i x3, .i x4, .i x5, .i x6, .i x7, .i x8, .nils, .nils, .nils, .nils, .nils, .i x9]), (.box 13, [.own 3, .i x10, .i x11, .i x12, .i x13, .i x14, .i x15, .own 4, .own 5, .own 6, .own 7, .own 8, .i x16]), (.box 10, (encC .any T4414 x17)), (.buf 38 (.slice (.slice T1383)) x18, []), (.buf 3 (.int .i64) x19, []), (.buf 58 T23b6 x20, []), (.buf 93 T713d x21, []), (.buf 3 (.int .i64) x22, []), (.buf 3 (.int .i64) x23, []), (.box 10, (encC .any T4414 x24)), (.buf 100 T814c x25, [])]⟩
abbrev Q (x3 x4 x5 x6 x7 x8 x9 x10 x11 x12 x13 x14 x15 x16 : Int) (x17 : T4414.T) (x18 : List (List (List T1383.T))) (x19 : List Int) (x20 : List T23b6.T) (x21 : List T713d.T) (x22 x23 : List Int) (x24 : T4414.T) (x25 : List T814c.T) (r : R) := CallQ 11 (out x3 x4 x5 x6 x7 x8 x9 x10 x11 x12 x13 x14 x15 x16 x17 x18 x19 x20 x21 x22 x23 x24 x25 r)
noncomputable def f (k : Nat) (x1 x2 : T814c.T) (x3 x4 x5 x6 x7 x8 x9 x10 x11 x12 x13 x14 x15 x16 : Int) (x17 : T4414.T) (x18 : List (List (List T1383.T))) (x19 : List Int) (x20 : List T23b6.T) (x21 : List T713d.T) (x22 x23 : List Int) (x24 : T4414.T) (x25 : List T814c.T) : Option R :=
  if (decide (x1.1 < x2.1)) = true then
    some ((-1), ())
  else
    if (decide (x1.1 > x2.1)) = true then
      some ((1 : Int), ())
    else
      some ((0 : Int), ())
theorem f_ok {r k x1 x2 x3 x4 x5 x6 x7 x8 x9 x10 x11 x12 x13 x14 x15 x16 x17 x18 x19 x20 x21 x22 x23 x24 x25} (H : f k x1 x2 x3 x4 x5 x6 x7 x8 x9 x10 x11 x12 x13 x14 x15 x16 x17 x18 x19 x20 x21 x22 x23 x24 x25 = some r) : Gw P 11 (Q x3 x4 x5 x6 x7 x8 x9 x10 x11 x12 x13 x14 x15 x16 x17 x18 x19 x20 x21 x22 x23 x24 x25 r) (Px c0 1 []) (s0 x1 x2 x3 x4 x5 x6 x7 x8 x9 x10 x11 x12 x13 x14 x15 x16 x17 x18 x19 x20 x21 x22 x23 x24 x25) := by
  unfold f at H
  refine Rg V_ok 2 [(0, hb 11), (1, hb 12)] az ?_
  refine Rg V_ok 0 [] az ?_
  rcases of_ite H with ⟨hb1, H⟩ | ⟨hb1, H⟩
  · refine C1 hb1 ?_
    refine Rg V_ok 0 [] az ?_
    obtain rfl := Option.some.inj H
    exact Lq (tn [4] 11)
  · refine C0 hb1 ?_
    refine Rg V_ok 0 [] az ?_
    rcases of_ite H with ⟨hb2, H⟩ | ⟨hb2, H⟩
    · refine C1 hb2 ?_
      refine Rg V_ok 0 [] az ?_
      obtain rfl := Option.some.inj H
      exact Lq (tn [4] 11)
    · refine C0 hb2 ?_
      refine Rg V_ok 0 [] az ?_
      obtain rfl := Option.some.inj H
      exact Lq (tn [4] 11)
theorem ok {r k x1 x2 x3 x4 x5 x6 x7 x8 x9 x10 x11 x12 x13 x14 x15 x16 x17 x18 x19 x20 x21 x22 x23 x24 x25} (H : f k x1 x2 x3 x4 x5 x6 x7 x8 x9 x10 x11 x12 x13 x14 x15 x16 x17 x18 x19 x20 x21 x22 x23 x24 x25 = some r) : W P 11 c0 (s0 x1 x2 x3 x4 x5 x6 x7 x8 x9 x10 x11 x12 x13 x14 x15 x16 x17 x18 x19 x20 x21 x22 x23 x24 x25) (CallQ 11 (out x3 x4 x5 x6 x7 x8 x9 x10 x11 x12 x13 x14 x15 x16 x17 x18 x19 x20 x21 x22 x23 x24 x25 r)) := of_G (f_ok H)
theorem at_ : FnAt P 111 17 c0 Go.Proofs.Tryz.f111.results := fnAt Go.Proofs.Tryz.func111 (by kernel_rfl) (by decide) (by kernel_rfl) (by kernel_rfl)
end i_control_controller_live_1_90e
/-! ### function 160, slices.insertionSortCmpFunc[wayfinder/api.Ver], where it is called -/
namespace i_slices_insertionSortCmpFunc_Ver_6b1
noncomputable def c0 : Code := (Go.Proofs.Tryz.f160.body).getD .skip
noncomputable def V : Env := { tt := tt, Γ := slk [] }
theorem V_ok : EnvOk P V := { ck := tt_ck, fits := slk_nil, mixed := mixed }
abbrev R := (List T814c.T) × Unit
noncomputable def s0 (x1 x2 x3 x4 x5 x6 x7 x8 x9 x10 x11 x12 x13 x14 x15 x16 : Int) (x17 : T4414.T) (x18 : List (List (List T1383.T))) (x19 : List Int) (x20 : List T23b6.T) (x21 : List T713d.T) (x22 x23 : List Int) (x24 : T4414.T) (x25 : List T814c.T) : St := ⟨53, [(0, .cv (.one (.own 10))), (1, .cv (.one (.i x1))), (2, .cv (.one (.i x2))), (3, .cv (.one (.fn 111 [] [])))], [(.box 13, [.nils, .i x3, .i x4, .i x5, .i x6, .i x7, .i x8, .nils, .nils, .nils, .nils, .nils, .i x9]), (.box 13, [.own 3, .i x10, .i x11, .i x12, .i x13, .i x14, .i x15, .own 4, .own 5, .own 6, .own 7, .own 8, .i x16]), (.box 10, (encC .any T4414 x17)), (.buf 38 (.slice (.slice T1383)) x18, []), (.buf 3 (.int .i64) x19, []), (.buf 58 T23b6 x20, []), (.buf 93 T713d x21, []), (.buf 3 (.int .i64) x22, []), (.buf 3 (.int .i64) x23, []), (.box 10, (encC .any T4414 x24)), (.buf 100 T814c x25, [])]⟩
noncomputable def out (x3 x4 x5 x6 x7 x8 x9 x10 x11 x12 x13 x14 x15 x16 : Int) (x17 : T4414.T) (x18 : List (List (List T1383.T))) (x19 : List Int) (x20 : List T23b6.T) (x21 : List T713d.T) (x22 x23 : List Int) (x24 : T4414.T) (r : R) : St := ⟨53, [], [(.box 13, [.nils, .i x3, .i x4, .i x5, .i x6, .i x7, .i x8, .nils, .nils, .nils, .nils, .nils, .i x9]), (.box 13, [.own 3, .i x10, .i x11, .i x12, .i x13, .i x14, .i x15, .own 4, .own 5, .own 6, .own 7, .own 8, .i x16]), (.box 10, (encC .any T4414 x17)), (.buf 38 (.slice (.slice T1383)) x18, []), (.buf 3 (.int .i64) x19, []), (.buf 58 T23b6 x20, []), (.buf 93 T713d x21, []), (.buf 3 (.int .i64) x22, []), (.buf 3 (.int .i64) x23, []), (.box 10, (encC .any T4414 x24)), (.buf 100 T814c r.1, [])]⟩
abbrev Q (x3 x4 x5 x6 x7 x8 x9 x10 x11 x12 x13 x14 x15 x16 : Int) (x17 : T4414.T) (x18 : List (List (List T1383.T))) (x19 : List Int) (x20 : List T23b6.T) (x21 : List T713d.T) (x22 x23 : List Int) (x24 : T4414.T) (r : R) := CallQ 11 (out x3 x4 x5 x6 x7 x8 x9 x10 x11 x12 x13 x14 x15 x16 x17 x18 x19 x20 x21 x22 x23 x24 r)
noncomputable def s1 (x1 x2 x3 x4 x5 x6 x7 x8 x9 x10 x11 x12 x13 x14 x15 x16 : Int) (x17 : T4414.T) (x18 : List (List (List T1383.T))) (x19 : List Int) (x20 : List T23b6.T) (x21 : List T713d.T) (x22 x23 : List Int) (x24 : T4414.T) (p3 : Int) (p26 : List T814c.T) : St := ⟨53, [(0, .cv (.one (.own 10))), (1, .cv (.one (.i x1))), (2, .cv (.one (.i x2))), (3, .cv (.one (.fn 111 [] []))), (8, .cv (.one (.i p3)))], [(.box 13, [.nils, .i x3, .i x4, .i x5, .i x6, .i x7, .i x8, .nils, .nils, .nils, .nils, .nils, .i x9]), (.box 13, [.own 3, .i x10, .i x11, .i x12, .i x13, .i x14, .i x15, .own 4, .own 5, .own 6, .own 7, .own 8, .i x16]), (.box 10, (encC .any T4414 x17)), (.buf 38 (.slice (.slice T1383)) x18, []), (.buf 3 (.int .i64) x19, []), (.buf 58 T23b6 x20, []), (.buf 93 T713d x21, []), (.buf 3 (.int .i64) x22, []), (.buf 3 (.int .i64) x23, []), (.box 10, (encC .any T4414 x24)), (.buf 100 T814c p26, [])]⟩
noncomputable def s2 (x1 x2 x3 x4 x5 x6 x7 x8 x9 x10 x11 x12 x13 x14 x15 x16 : Int) (x17 : T4414.T) (x18 : List (List (List T1383.T))) (x19 : List Int) (x20 : List T23b6.T) (x21 : List T713d.T) (x22 x23 : List Int) (x24 : T4414.T) (p3 p4 : Int) (p27 : List T814c.T) : St := ⟨53, [(0, .cv (.one (.own 10))), (1, .cv (.one (.i x1))), (2, .cv (.one (.i x2))), (3, .cv (.one (.fn 111 [] []))), (8, .cv (.one (.i p3))), (9, .cv (.one (.i p4)))], [(.box 13, [.nils, .i x3, .i x4, .i x5, .i x6, .i x7, .i x8, .nils, .nils, .nils, .nils, .nils, .i x9]), (.box 13, [.own 3, .i x10, .i x11, .i x12, .i x13, .i x14, .i x15, .own 4, .own 5, .own 6, .own 7, .own 8, .i x16]), (.box 10, (encC .any T4414 x17)), (.buf 38 (.slice (.slice T1383)) x18, []), (.buf 3 (.int .i64) x19, []), (.buf 58 T23b6 x20, []), (.buf 93 T713d x21, []), (.buf 3 (.int .i64) x22, []), (.buf 3 (.int .i64) x23, []), (.box 10, (encC .any T4414 x24)), (.buf 100 T814c p27, [])]⟩
noncomputable def s3 (x1 x2 x3 x4 x5 x6 x7 x8 x9 x10 x11 x12 x13 x14 x15 x16 : Int) (x17 : T4414.T) (x18 : List (List (List T1383.T))) (x19 : List Int) (x20 : List T23b6.T) (x21 : List T713d.T) (x22 x23 : List Int) (x24 : T4414.T) (p3 p4 : Int) (p5 : Bool) (p28 : List T814c.T) : St := ⟨53, [(0, .cv (.one (.own 10))), (1, .cv (.one (.i x1))), (2, .cv (.one (.i x2))), (3, .cv (.one (.fn 111 [] []))), (8, .cv (.one (.i p3))), (9, .cv (.one (.i p4))), (34, .cv (.one (.bool p5)))], [(.box 13, [.nils, .i x3, .i x4, .i x5, .i x6, .i x7, .i x8, .nils, .nils, .nils, .nils, .nils, .i x9]), (.box 13, [.own 3, .i x10, .i x11, .i x12, .i x13, .i x14, .i x15, .own 4, .own 5, .own 6, .own 7, .own 8, .i x16]), (.box 10, (encC .any T4414 x17)), (.buf 38 (.slice (.slice T1383)) x18, []), (.buf 3 (.int .i64) x19, []), (.buf 58 T23b6 x20, []), (.buf 93 T713d x21, []), (.buf 3 (.int .i64) x22, []), (.buf 3 (.int .i64) x23, []), (.box 10, (encC .any T4414 x24)), (.buf 100 T814c p28, [])]⟩
noncomputable def j3 (x1 x2 x3 x4 x5 x6 x7 x8 x9 x10 x11 x12 x13 x14 x15 x16 : Int) (x17 : T4414.T) (x18 : List (List (List T1383.T))) (x19 : List Int) (x20 : List T23b6.T) (x21 : List T713d.T) (x22 x23 : List Int) (x24 : T4414.T) (L1 : Int → List T814c.T → Option R) (L2 : Int → Int → List T814c.T → Option R) (k : Nat) (p3 p4 : Int) (p5 : Bool) (p28 : List T814c.T) : Option R :=
  if p5 = true then
  if 0 ≤ (IntKind.i64.wrap (p4 - 1)) then
    if (IntKind.i64.wrap (p4 - 1)) < (p28.length : Int) then
      if 0 ≤ p4 then
        if p4 < (p28.length : Int) then
          if (IntKind.i64.wrap (p4 - 1)) < ((p28.set p4.toNat (att T814c p28 (IntKind.i64.wrap (p4 - 1)))).length : Int) then
            L2 p3 (IntKind.i64.wrap (p4 - 1)) ((p28.set p4.toNat (att T814c p28 (IntKind.i64.wrap (p4 - 1)))).set (IntKind.i64.wrap (p4 - 1)).toNat (att T814c p28 p4))
          else none
        else none
      else none
    else none
  else none
else
  L1 (IntKind.i64.wrap (p3 + 1)) p28
theorem j3_ok {r x1 x2 x3 x4 x5 x6 x7 x8 x9 x10 x11 x12 x13 x14 x15 x16 x17 x18 x19 x20 x21 x22 x23 x24} {L1 : Int → List T814c.T → Option R} {m1 : Nat} (hL1 : ∀ p3 p26, L1 p3 p26 = some r → Gw P 11 (Q x3 x4 x5 x6 x7 x8 x9 x10 x11 x12 x13 x14 x15 x16 x17 x18 x19 x20 x21 x22 x23 x24 r) (Pb c0 5 [] m1) (s1 x1 x2 x3 x4 x5 x6 x7 x8 x9 x10 x11 x12 x13 x14 x15 x16 x17 x18 x19 x20 x21 x22 x23 x24 p3 p26)) {L2 : Int → Int → List T814c.T → Option R} {m2 : Nat} (hL2 : ∀ p3 p4 p27, L2 p3 p4 p27 = some r → Gw P 11 (Q x3 x4 x5 x6 x7 x8 x9 x10 x11 x12 x13 x14 x15 x16 x17 x18 x19 x20 x21 x22 x23 x24 r) (Pb c0 329 [m1] m2) (s2 x1 x2 x3 x4 x5 x6 x7 x8 x9 x10 x11 x12 x13 x14 x15 x16 x17 x18 x19 x20 x21 x22 x23 x24 p3 p4 p27)) {k p3 p4 p5 p28} (H : j3 x1 x2 x3 x4 x5 x6 x7 x8 x9 x10 x11 x12 x13 x14 x15 x16 x17 x18 x19 x20 x21 x22 x23 x24 L1 L2 k p3 p4 p5 p28 = some r) : Gw P 11 (Q x3 x4 x5 x6 x7 x8 x9 x10 x11 x12 x13 x14 x15 x16 x17 x18 x19 x20 x21 x22 x23 x24 r) (Px c0 3145 [m1, m2]) (s3 x1 x2 x3 x4 x5 x6 x7 x8 x9 x10 x11 x12 x13 x14 x15 x16 x17 x18 x19 x20 x21 x22 x23 x24 p3 p4 p5 p28) := by
  unfold j3 at H
  rcases of_ite H with ⟨hb9, H⟩ | ⟨hb9, H⟩
  · refine C1 hb9 ?_
    obtain ⟨n10, H⟩ := of_if H
    obtain ⟨n11, H⟩ := of_if H
    obtain ⟨n12, H⟩ := of_if H
    obtain ⟨n13, H⟩ := of_if H
    obtain ⟨n14, H⟩ := of_if H
    refine Rg V_ok 0 [] (ac n10 (ac n11 (ac n12 (ac n13 (ac n12 (ac n13 (ac n10 (ac n14 az)))))))) ?_
    refine Rg V_ok 0 [] az ?_
    exact Jm (tn [0, 1, 2, 3, 8, 9] 11) (hL2 p3 (IntKind.i64.wrap (p4 - 1)) ((p28.set p4.toNat (att T814c p28 (IntKind.i64.wrap (p4 - 1)))).set (IntKind.i64.wrap (p4 - 1)).toNat (att T814c p28 p4)) H)
  · refine C0 hb9 ?_
    refine Rg V_ok 0 [] az ?_
    exact Jm (tn [0, 1, 2, 3, 8] 11) (hL1 (IntKind.i64.wrap (p3 + 1)) p28 H)
noncomputable def b2 (x1 x2 x3 x4 x5 x6 x7 x8 x9 x10 x11 x12 x13 x14 x15 x16 : Int) (x17 : T4414.T) (x18 : List (List (List T1383.T))) (x19 : List Int) (x20 : List T23b6.T) (x21 : List T713d.T) (x22 x23 : List Int) (x24 : T4414.T) (L1 : Int → List T814c.T → Option R) (L2 : Int → Int → List T814c.T → Option R) (k : Nat) (p3 p4 : Int) (p27 : List T814c.T) : Option R :=
  if (decide (p4 > x1)) = true then
  if 0 ≤ p4 then
    if p4 < (p27.length : Int) then
      if 0 ≤ (IntKind.i64.wrap (p4 - 1)) then
        if (IntKind.i64.wrap (p4 - 1)) < (p27.length : Int) then
          (i_control_controller_live_1_90e.f k (att T814c p27 p4) (att T814c p27 (IntKind.i64.wrap (p4 - 1))) x3 x4 x5 x6 x7 x8 x9 x10 x11 x12 x13 x14 x15 x16 x17 x18 x19 x20 x21 x22 x23 x24 p27).bind fun y7 =>
            j3 x1 x2 x3 x4 x5 x6 x7 x8 x9 x10 x11 x12 x13 x14 x15 x16 x17 x18 x19 x20 x21 x22 x23 x24 L1 L2 k p3 p4 (decide (y7.1 < (0 : Int))) p27
        else none
      else none
    else none
  else none
else
  j3 x1 x2 x3 x4 x5 x6 x7 x8 x9 x10 x11 x12 x13 x14 x15 x16 x17 x18 x19 x20 x21 x22 x23 x24 L1 L2 k p3 p4 false p27
theorem b2_ok {r x1 x2 x3 x4 x5 x6 x7 x8 x9 x10 x11 x12 x13 x14 x15 x16 x17 x18 x19 x20 x21 x22 x23 x24} {L1 : Int → List T814c.T → Option R} {m1 : Nat} (hL1 : ∀ p3 p26, L1 p3 p26 = some r → Gw P 11 (Q x3 x4 x5 x6 x7 x8 x9 x10 x11 x12 x13 x14 x15 x16 x17 x18 x19 x20 x21 x22 x23 x24 r) (Pb c0 5 [] m1) (s1 x1 x2 x3 x4 x5 x6 x7 x8 x9 x10 x11 x12 x13 x14 x15 x16 x17 x18 x19 x20 x21 x22 x23 x24 p3 p26)) {L2 : Int → Int → List T814c.T → Option R} {m2 : Nat} (hL2 : ∀ p3 p4 p27, L2 p3 p4 p27 = some r → Gw P 11 (Q x3 x4 x5 x6 x7 x8 x9 x10 x11 x12 x13 x14 x15 x16 x17 x18 x19 x20 x21 x22 x23 x24 r) (Pb c0 329 [m1] m2) (s2 x1 x2 x3 x4 x5 x6 x7 x8 x9 x10 x11 x12 x13 x14 x15 x16 x17 x18 x19 x20 x21 x22 x23 x24 p3 p4 p27)) {k p3 p4 p27} (H : b2 x1 x2 x3 x4 x5 x6 x7 x8 x9 x10 x11 x12 x13 x14 x15 x16 x17 x18 x19 x20 x21 x22 x23 x24 L1 L2 k p3 p4 p27 = some r) : Gw P 11 (Q x3 x4 x5 x6 x7 x8 x9 x10 x11 x12 x13 x14 x15 x16 x17 x18 x19 x20 x21 x22 x23 x24 r) (Px c0 585 [m1, m2]) (s2 x1 x2 x3 x4 x5 x6 x7 x8 x9 x10 x11 x12 x13 x14 x15 x16 x17 x18 x19 x20 x21 x22 x23 x24 p3 p4 p27) := by
  unfold b2 at H
  rcases of_ite H with ⟨hb2, H⟩ | ⟨hb2, H⟩
  · obtain ⟨n3, H⟩ := of_if H
    obtain ⟨n4, H⟩ := of_if H
    obtain ⟨n5, H⟩ := of_if H
    obtain ⟨n6, H⟩ := of_if H
    obtain ⟨y7, e8, H⟩ := of_bind H
    let x : Nx := (Px c0 2121 [m1, m2])
    let t0 : St := ⟨53, [(0, .cv (.one (.own 10))), (1, .cv (.one (.i x1))), (2, .cv (.one (.i x2))), (3, .cv (.one (.fn 111 [] []))), (8, .cv (.one (.i p3))), (9, .cv (.one (.i p4)))], [(.box 13, [.nils, .i x3, .i x4, .i x5, .i x6, .i x7, .i x8, .nils, .nils, .nils, .nils, .nils, .i x9]), (.box 13, [.own 3, .i x10, .i x11, .i x12, .i x13, .i x14, .i x15, .own 4, .own 5, .own 6, .own 7, .own 8, .i x16]), (.box 10, (encC .any T4414 x17)), (.buf 38 (.slice (.slice T1383)) x18, []), (.buf 3 (.int .i64) x19, []), (.buf 58 T23b6 x20, []), (.buf 93 T713d x21, []), (.buf 3 (.int .i64) x22, []), (.buf 3 (.int .i64) x23, []), (.box 10, (encC .any T4414 x24)), (.buf 100 T814c p27, [])]⟩
    refine Jm (x' := x) (τ := t0) (tn [0, 1, 2, 3, 8, 9] 11) ?_
    let Φ := phiX P 11 (Q x3 x4 x5 x6 x7 x8 x9 x10 x11 x12 x13 x14 x15 x16 x17 x18 x19 x20 x21 x22 x23 x24 r) x
    let t1 : St := stpS V x 0 [] 0 (tn [0, 1, 2, 3, 8, 9, 18] 11) t0
    let t2 : St := stpS V x 0 [] 1 (tn [0, 1, 2, 3, 8, 9, 18, 19] 11) t1
    let t3 : St := stpS V x 0 [] 2 (tn [0, 1, 2, 3, 8, 9, 20] 11) t2
    let t4 : St := stpS V x 0 [(3, {bv := some true})] 3 (tn [0, 1, 2, 3, 8, 9, 21] 11) t3
    let t5 : St := stpS V x 0 [] 4 (tn [0, 1, 2, 3, 8, 9, 21, 22] 11) t4
    let t6 : St := stpS V x 0 [] 5 (tn [0, 1, 2, 3, 8, 9, 21, 22, 23] 11) t5
    let t7 : St := stpS V x 0 [] 6 (tn [0, 1, 2, 3, 8, 9, 21, 22, 23, 24] 11) t6
    let t8 : St := stpS V x 0 [] 9 (tn [0, 1, 2, 3, 8, 9, 21, 22, 23, 24, 27] 11) t7
    let t9 : St := stpS V x 0 [] 10 (tn [0, 1, 2, 3, 8, 9, 21, 22, 23, 24, 27, 28] 11) t8
    let t10 : St := stpS V x 0 [] 7 (tn [0, 1, 2, 3, 8, 9, 21, 22, 25, 27, 28] 11) t9
    let t11 : St := stpS V x 0 [] 11 (tn [0, 1, 2, 3, 8, 9, 21, 22, 23, 24, 27, 29] 11) t9
    let t12 : St := stpS V x 0 [] 8 (tn [0, 1, 2, 3, 8, 9, 21, 22, 26, 27, 28] 11) t10
    let t13 : St := stpS V x 0 [] 11 (tn [0, 1, 2, 3, 8, 9, 21, 22, 25, 27, 29] 11) t10
    let t14 : St := stpS V x 0 [] 12 (tn [0, 1, 2, 3, 8, 9, 21, 22, 23, 24, 30] 11) t11
    let t15 : St := stpS V x 0 [] 11 (tn [0, 1, 2, 3, 8, 9, 21, 22, 26, 27, 29] 11) t12
    let t16 : St := stpS V x 0 [] 12 (tn [0, 1, 2, 3, 8, 9, 21, 22, 25, 30] 11) t13
    let t17 : St := stpS V x 0 [] 13 (tn [0, 1, 2, 3, 8, 9, 21, 22, 23, 24, 31] 11) t14
    let t18 : St := stpS V x 0 [] 12 (tn [0, 1, 2, 3, 8, 9, 21, 22, 26, 30] 11) t15
    let t19 : St := stpS V x 0 [] 13 (tn [0, 1, 2, 3, 8, 9, 21, 22, 25, 31] 11) t16
    let t20 : St := stpS V x 0 [] 13 (tn [0, 1, 2, 3, 8, 9, 21, 22, 26, 31] 11) t18
    let t21 : St := clT V.tt x 14 Go.Proofs.Tryz.f111.results (tn [0, 1, 2, 3, 8, 9, 21, 32] 11) t20 (i_control_controller_live_1_90e.out x3 x4 x5 x6 x7 x8 x9 x10 x11 x12 x13 x14 x15 x16 x17 x18 x19 x20 x21 x22 x23 x24 p27 y7)
    let t22 : St := stpS V x 0 [] 15 (tn [0, 1, 2, 3, 8, 9, 21, 33] 11) t21
    let t23 : St := stpS V x 0 [] 16 (tn [0, 1, 2, 3, 8, 9, 34] 11) t22
    have w23 : WA P 11 (opsX x) 0 (bs 17 131071) Φ t23 := by
      refine WA_nil (by kernel_rfl) (RAn (by kernel_rfl) ?_)
      exact Jm (tn [0, 1, 2, 3, 8, 9, 34] 11) (j3_ok hL1 hL2 H)
    have w22 : WA P 11 (opsX x) 1 (bs 17 65535) Φ t22 := WAs (an (WE V_ok 0 [] 16 (tn [0, 1, 2, 3, 8, 9, 34] 11) az w23) aN)
    have w21 : WA P 11 (opsX x) 2 (bs 17 32767) Φ t21 := WAs (an (WE V_ok 0 [] 15 (tn [0, 1, 2, 3, 8, 9, 21, 33] 11) az w22) aN)
    have w20 : WA P 11 (opsX x) 3 (bs 17 16383) Φ t20 := WAs (an (WC V_ok 14 (tn [0, 1, 2, 3, 8, 9, 21, 32] 11) i_control_controller_live_1_90e.at_ (i_control_controller_live_1_90e.ok e8) w21) aN)
    have w19 : WA P 11 (opsX x) 4 (bs 17 16127) Φ t19 := WAs (an (WE V_ok 0 [] 8 (tn [0, 1, 2, 3, 8, 9, 21, 22, 26, 31] 11) az w20) aN)
    have w18 : WA P 11 (opsX x) 4 (bs 17 8191) Φ t18 := WAs (an (WE V_ok 0 [] 13 (tn [0, 1, 2, 3, 8, 9, 21, 22, 26, 31] 11) az w20) aN)
    have w17 : WA P 11 (opsX x) 5 (bs 17 15999) Φ t17 := WAs (an (WE V_ok 0 [] 7 (tn [0, 1, 2, 3, 8, 9, 21, 22, 25, 31] 11) (ac n3 (ac n4 az)) w19) aN)
    have w16 : WA P 11 (opsX x) 5 (bs 17 7935) Φ t16 := WAs (an (WE V_ok 0 [] 8 (tn [0, 1, 2, 3, 8, 9, 21, 22, 26, 30] 11) az w18) (an (WE V_ok 0 [] 13 (tn [0, 1, 2, 3, 8, 9, 21, 22, 25, 31] 11) az w19) aN))
    have w15 : WA P 11 (opsX x) 5 (bs 17 4095) Φ t15 := WAs (an (WE V_ok 0 [] 12 (tn [0, 1, 2, 3, 8, 9, 21, 22, 26, 30] 11) (ac n5 (ac n6 az)) w18) aN)
    have w14 : WA P 11 (opsX x) 6 (bs 17 7807) Φ t14 := WAs (an (WE V_ok 0 [] 7 (tn [0, 1, 2, 3, 8, 9, 21, 22, 25, 30] 11) (ac n3 (ac n4 az)) w16) (an (WE V_ok 0 [] 13 (tn [0, 1, 2, 3, 8, 9, 21, 22, 23, 24, 31] 11) az w17) aN))
    have w13 : WA P 11 (opsX x) 6 (bs 17 3839) Φ t13 := WAs (an (WE V_ok 0 [] 8 (tn [0, 1, 2, 3, 8, 9, 21, 22, 26, 27, 29] 11) az w15) (an (WE V_ok 0 [] 12 (tn [0, 1, 2, 3, 8, 9, 21, 22, 25, 30] 11) (ac n5 (ac n6 az)) w16) aN))
    have w12 : WA P 11 (opsX x) 6 (bs 17 2047) Φ t12 := WAs (an (WE V_ok 0 [] 11 (tn [0, 1, 2, 3, 8, 9, 21, 22, 26, 27, 29] 11) az w15) aN)
    have w11 : WA P 11 (opsX x) 7 (bs 17 3711) Φ t11 := WAs (an (WE V_ok 0 [] 7 (tn [0, 1, 2, 3, 8, 9, 21, 22, 25, 27, 29] 11) (ac n3 (ac n4 az)) w13) (an (WE V_ok 0 [] 12 (tn [0, 1, 2, 3, 8, 9, 21, 22, 23, 24, 30] 11) (ac n5 (ac n6 az)) w14) aN))
    have w10 : WA P 11 (opsX x) 7 (bs 17 1791) Φ t10 := WAs (an (WE V_ok 0 [] 8 (tn [0, 1, 2, 3, 8, 9, 21, 22, 26, 27, 28] 11) az w12) (an (WE V_ok 0 [] 11 (tn [0, 1, 2, 3, 8, 9, 21, 22, 25, 27, 29] 11) az w13) aN))
    have w9 : WA P 11 (opsX x) 8 (bs 17 1663) Φ t9 := WAs (an (WE V_ok 0 [] 7 (tn [0, 1, 2, 3, 8, 9, 21, 22, 25, 27, 28] 11) (ac n3 (ac n4 az)) w10) (an (WE V_ok 0 [] 11 (tn [0, 1, 2, 3, 8, 9, 21, 22, 23, 24, 27, 29] 11) az w11) aN))
    have w8 : WA P 11 (opsX x) 9 (bs 17 639) Φ t8 := WT V_ok [] 10 (tn [0, 1, 2, 3, 8, 9, 21, 22, 23, 24, 27, 28] 11) az w9
    have w7 : WA P 11 (opsX x) 10 (bs 17 127) Φ t7 := WT V_ok [] 9 (tn [0, 1, 2, 3, 8, 9, 21, 22, 23, 24, 27] 11) az w8
    have w6 : WA P 11 (opsX x) 11 (bs 17 63) Φ t6 := WT V_ok [] 6 (tn [0, 1, 2, 3, 8, 9, 21, 22, 23, 24] 11) az w7
    have w5 : WA P 11 (opsX x) 12 (bs 17 31) Φ t5 := WT V_ok [] 5 (tn [0, 1, 2, 3, 8, 9, 21, 22, 23] 11) az w6
    have w4 : WA P 11 (opsX x) 13 (bs 17 15) Φ t4 := WT V_ok [] 4 (tn [0, 1, 2, 3, 8, 9, 21, 22] 11) az w5
    have w3 : WA P 11 (opsX x) 14 (bs 17 7) Φ t3 := WT V_ok [(3, {bv := some true})] 3 (tn [0, 1, 2, 3, 8, 9, 21] 11) (ac hb2 az) w4
    have w2 : WA P 11 (opsX x) 15 (bs 17 3) Φ t2 := WAs (an (WE V_ok 0 [] 2 (tn [0, 1, 2, 3, 8, 9, 20] 11) az w3) aN)
    have w1 : WA P 11 (opsX x) 16 (bs 17 1) Φ t1 := WT V_ok [] 1 (tn [0, 1, 2, 3, 8, 9, 18, 19] 11) az w2
    have w0 : WA P 11 (opsX x) 17 (bs 17 0) Φ t0 := WT V_ok [] 0 (tn [0, 1, 2, 3, 8, 9, 18] 11) az w1
    exact RA V_ok 17 (by kernel_rfl) (by kernel_rfl) (by kernel_rfl) w0
  · let x : Nx := (Px c0 2121 [m1, m2])
    let t0 : St := ⟨53, [(0, .cv (.one (.own 10))), (1, .cv (.one (.i x1))), (2, .cv (.one (.i x2))), (3, .cv (.one (.fn 111 [] []))), (8, .cv (.one (.i p3))), (9, .cv (.one (.i p4)))], [(.box 13, [.nils, .i x3, .i x4, .i x5, .i x6, .i x7, .i x8, .nils, .nils, .nils, .nils, .nils, .i x9]), (.box 13, [.own 3, .i x10, .i x11, .i x12, .i x13, .i x14, .i x15, .own 4, .own 5, .own 6, .own 7, .own 8, .i x16]), (.box 10, (encC .any T4414 x17)), (.buf 38 (.slice (.slice T1383)) x18, []), (.buf 3 (.int .i64) x19, []), (.buf 58 T23b6 x20, []), (.buf 93 T713d x21, []), (.buf 3 (.int .i64) x22, []), (.buf 3 (.int .i64) x23, []), (.box 10, (encC .any T4414 x24)), (.buf 100 T814c p27, [])]⟩
    refine Jm (x' := x) (τ := t0) (tn [0, 1, 2, 3, 8, 9] 11) ?_
    let Φ := phiX P 11 (Q x3 x4 x5 x6 x7 x8 x9 x10 x11 x12 x13 x14 x15 x16 x17 x18 x19 x20 x21 x22 x23 x24 r) x
    let t1 : St := stpS V x 0 [] 0 (tn [0, 1, 2, 3, 8, 9, 18] 11) t0
    let t2 : St := stpS V x 0 [] 1 (tn [0, 1, 2, 3, 8, 9, 18, 19] 11) t1
    let t3 : St := stpS V x 0 [] 2 (tn [0, 1, 2, 3, 8, 9, 20] 11) t2
    let t4 : St := stpS V x 0 [(3, {bv := some false})] 3 (tn [0, 1, 2, 3, 8, 9, 21] 11) t3
    let t5 : St := stpS V x 0 [] 4 (tn [0, 1, 2, 3, 8, 9, 21, 22] 11) t4
    let t6 : St := stpS V x 0 [] 5 (tn [0, 1, 2, 3, 8, 9, 21, 22, 23] 11) t5
    let t7 : St := stpS V x 0 [] 6 (tn [0, 1, 2, 3, 8, 9, 21, 22, 23, 24] 11) t6
    let t8 : St := stpS V x 0 [] 9 (tn [0, 1, 2, 3, 8, 9, 21, 22, 23, 24, 27] 11) t7
    let t9 : St := stpS V x 0 [] 10 (tn [0, 1, 2, 3, 8, 9, 21, 22, 23, 24, 27, 28] 11) t8
    let t10 : St := stpS V x 0 [] 7 (tn [0, 1, 2, 3, 8, 9, 21, 22, 25, 27, 28] 11) t9
    let t11 : St := stpS V x 0 [] 11 (tn [0, 1, 2, 3, 8, 9, 21, 22, 23, 24, 27, 29] 11) t9
    let t12 : St := stpS V x 0 [] 8 (tn [0, 1, 2, 3, 8, 9, 21, 22, 26, 27, 28] 11) t10
    let t13 : St := stpS V x 0 [] 11 (tn [0, 1, 2, 3, 8, 9, 21, 22, 25, 27, 29] 11) t10
    let t14 : St := stpS V x 0 [] 12 (tn [0, 1, 2, 3, 8, 9, 21, 22, 23, 24, 30] 11) t11
    let t15 : St := stpS V x 0 [] 11 (tn [0, 1, 2, 3, 8, 9, 21, 22, 26, 27, 29] 11) t12
    let t16 : St := stpS V x 0 [] 12 (tn [0, 1, 2, 3, 8, 9, 21, 22, 25, 30] 11) t13
    let t17 : St := stpS V x 0 [] 13 (tn [0, 1, 2, 3, 8, 9, 21, 22, 23, 24, 31] 11) t14
    let t18 : St := stpS V x 0 [] 12 (tn [0, 1, 2, 3, 8, 9, 21, 22, 26, 30] 11) t15
    let t19 : St := stpS V x 0 [] 13 (tn [0, 1, 2, 3, 8, 9, 21, 22, 25, 31] 11) t16
    let t20 : St := stpS V x 0 [] 13 (tn [0, 1, 2, 3, 8, 9, 21, 22, 26, 31] 11) t18
    let t21 : St := stpS V x 0 [] 14 (tn [0, 1, 2, 3, 8, 9, 21, 32] 11) t20
    let t22 : St := stpS V x 0 [] 15 (tn [0, 1, 2, 3, 8, 9, 21, 33] 11) t21
    let t23 : St := stpS V x 0 [] 16 (tn [0, 1, 2, 3, 8, 9, 34] 11) t22
    have w23 : WA P 11 (opsX x) 0 (bs 17 131071) Φ t23 := by
      refine WA_nil (by kernel_rfl) (RAn (by kernel_rfl) ?_)
      exact Jm (tn [0, 1, 2, 3, 8, 9, 34] 11) (j3_ok hL1 hL2 H)
    have w22 : WA P 11 (opsX x) 1 (bs 17 65535) Φ t22 := WAs (an (WE V_ok 0 [] 16 (tn [0, 1, 2, 3, 8, 9, 34] 11) az w23) aN)
    have w21 : WA P 11 (opsX x) 2 (bs 17 32767) Φ t21 := WAs (an (WE V_ok 0 [] 15 (tn [0, 1, 2, 3, 8, 9, 21, 33] 11) az w22) aN)
    have w20 : WA P 11 (opsX x) 3 (bs 17 16383) Φ t20 := WAs (an (WE V_ok 0 [] 14 (tn [0, 1, 2, 3, 8, 9, 21, 32] 11) az w21) aN)
    have w19 : WA P 11 (opsX x) 4 (bs 17 16127) Φ t19 := WAs (an (WE V_ok 0 [] 8 (tn [0, 1, 2, 3, 8, 9, 21, 22, 26, 31] 11) az w20) aN)
    have w18 : WA P 11 (opsX x) 4 (bs 17 8191) Φ t18 := WAs (an (WE V_ok 0 [] 13 (tn [0, 1, 2, 3, 8, 9, 21, 22, 26, 31] 11) az w20) aN)
    have w17 : WA P 11 (opsX x) 5 (bs 17 15999) Φ t17 := WAs (an (WE V_ok 0 [] 7 (tn [0, 1, 2, 3, 8, 9, 21, 22, 25, 31] 11) az w19) aN)
    have w16 : WA P 11 (opsX x) 5 (bs 17 7935) Φ t16 := WAs (an (WE V_ok 0 [] 8 (tn [0, 1, 2, 3, 8, 9, 21, 22, 26, 30] 11) az w18) (an (WE V_ok 0 [] 13 (tn [0, 1, 2, 3, 8, 9, 21, 22, 25, 31] 11) az w19) aN))
    have w15 : WA P 11 (opsX x) 5 (bs 17 4095) Φ t15 := WAs (an (WE V_ok 0 [] 12 (tn [0, 1, 2, 3, 8, 9, 21, 22, 26, 30] 11) az w18) aN)
    have w14 : WA P 11 (opsX x) 6 (bs 17 7807) Φ t14 := WAs (an (WE V_ok 0 [] 7 (tn [0, 1, 2, 3, 8, 9, 21, 22, 25, 30] 11) az w16) (an (WE V_ok 0 [] 13 (tn [0, 1, 2, 3, 8, 9, 21, 22, 23, 24, 31] 11) az w17) aN))
    have w13 : WA P 11 (opsX x) 6 (bs 17 3839) Φ t13 := WAs (an (WE V_ok 0 [] 8 (tn [0, 1, 2, 3, 8, 9, 21, 22, 26, 27, 29] 11) az w15) (an (WE V_ok 0 [] 12 (tn [0, 1, 2, 3, 8, 9, 21, 22, 25, 30] 11) az w16) aN))
    have w12 : WA P 11 (opsX x) 6 (bs 17 2047) Φ t12 := WAs (an (WE V_ok 0 [] 11 (tn [0, 1, 2, 3, 8, 9, 21, 22, 26, 27, 29] 11) az w15) aN)
    have w11 : WA P 11 (opsX x) 7 (bs 17 3711) Φ t11 := WAs (an (WE V_ok 0 [] 7 (tn [0, 1, 2, 3, 8, 9, 21, 22, 25, 27, 29] 11) az w13) (an (WE V_ok 0 [] 12 (tn [0, 1, 2, 3, 8, 9, 21, 22, 23, 24, 30] 11) az w14) aN))
    have w10 : WA P 11 (opsX x) 7 (bs 17 1791) Φ t10 := WAs (an (WE V_ok 0 [] 8 (tn [0, 1, 2, 3, 8, 9, 21, 22, 26, 27, 28] 11) az w12) (an (WE V_ok 0 [] 11 (tn [0, 1, 2, 3, 8, 9, 21, 22, 25, 27, 29] 11) az w13) aN))
    have w9 : WA P 11 (opsX x) 8 (bs 17 1663) Φ t9 := WAs (an (WE V_ok 0 [] 7 (tn [0, 1, 2, 3, 8, 9, 21, 22, 25, 27, 28] 11) az w10) (an (WE V_ok 0 [] 11 (tn [0, 1, 2, 3, 8, 9, 21, 22, 23, 24, 27, 29] 11) az w11) aN))
    have w8 : WA P 11 (opsX x) 9 (bs 17 639) Φ t8 := WT V_ok [] 10 (tn [0, 1, 2, 3, 8, 9, 21, 22, 23, 24, 27, 28] 11) az w9
    have w7 : WA P 11 (opsX x) 10 (bs 17 127) Φ t7 := WT V_ok [] 9 (tn [0, 1, 2, 3, 8, 9, 21, 22, 23, 24, 27] 11) az w8
    have w6 : WA P 11 (opsX x) 11 (bs 17 63) Φ t6 := WT V_ok [] 6 (tn [0, 1, 2, 3, 8, 9, 21, 22, 23, 24] 11) az w7
    have w5 : WA P 11 (opsX x) 12 (bs 17 31) Φ t5 := WT V_ok [] 5 (tn [0, 1, 2, 3, 8, 9, 21, 22, 23] 11) az w6
    have w4 : WA P 11 (opsX x) 13 (bs 17 15) Φ t4 := WT V_ok [] 4 (tn [0, 1, 2, 3, 8, 9, 21, 22] 11) az w5
    have w3 : WA P 11 (opsX x) 14 (bs 17 7) Φ t3 := WT V_ok [(3, {bv := some false})] 3 (tn [0, 1, 2, 3, 8, 9, 21] 11) (ac hb2 az) w4
    have w2 : WA P 11 (opsX x) 15 (bs 17 3) Φ t2 := WAs (an (WE V_ok 0 [] 2 (tn [0, 1, 2, 3, 8, 9, 20] 11) az w3) aN)
    have w1 : WA P 11 (opsX x) 16 (bs 17 1) Φ t1 := WT V_ok [] 1 (tn [0, 1, 2, 3, 8, 9, 18, 19] 11) az w2
    have w0 : WA P 11 (opsX x) 17 (bs 17 0) Φ t0 := WT V_ok [] 0 (tn [0, 1, 2, 3, 8, 9, 18] 11) az w1
    exact RA V_ok 17 (by kernel_rfl) (by kernel_rfl) (by kernel_rfl) w0
noncomputable def l2 (x1 x2 x3 x4 x5 x6 x7 x8 x9 x10 x11 x12 x13 x14 x15 x16 : Int) (x17 : T4414.T) (x18 : List (List (List T1383.T))) (x19 : List Int) (x20 : List T23b6.T) (x21 : List T713d.T) (x22 x23 : List Int) (x24 : T4414.T) (L1 : Int → List T814c.T → Option R) (k : Nat) : Nat → Int → Int → List T814c.T → Option R
  | 0, _, _, _ => none
  | m + 1, p3, p4, p27 => b2 x1 x2 x3 x4 x5 x6 x7 x8 x9 x10 x11 x12 x13 x14 x15 x16 x17 x18 x19 x20 x21 x22 x23 x24 L1 (l2 x1 x2 x3 x4 x5 x6 x7 x8 x9 x10 x11 x12 x13 x14 x15 x16 x17 x18 x19 x20 x21 x22 x23 x24 L1 k m) k p3 p4 p27
theorem l2_ok {r x1 x2 x3 x4 x5 x6 x7 x8 x9 x10 x11 x12 x13 x14 x15 x16 x17 x18 x19 x20 x21 x22 x23 x24} {L1 : Int → List T814c.T → Option R} {m1 : Nat} (hL1 : ∀ p3 p26, L1 p3 p26 = some r → Gw P 11 (Q x3 x4 x5 x6 x7 x8 x9 x10 x11 x12 x13 x14 x15 x16 x17 x18 x19 x20 x21 x22 x23 x24 r) (Pb c0 5 [] m1) (s1 x1 x2 x3 x4 x5 x6 x7 x8 x9 x10 x11 x12 x13 x14 x15 x16 x17 x18 x19 x20 x21 x22 x23 x24 p3 p26)) (k : Nat) : ∀ (m2 : Nat) (p3 p4 : Int) (p27 : List T814c.T), l2 x1 x2 x3 x4 x5 x6 x7 x8 x9 x10 x11 x12 x13 x14 x15 x16 x17 x18 x19 x20 x21 x22 x23 x24 L1 k m2 p3 p4 p27 = some r → Gw P 11 (Q x3 x4 x5 x6 x7 x8 x9 x10 x11 x12 x13 x14 x15 x16 x17 x18 x19 x20 x21 x22 x23 x24 r) (Pb c0 329 [m1] m2) (s2 x1 x2 x3 x4 x5 x6 x7 x8 x9 x10 x11 x12 x13 x14 x15 x16 x17 x18 x19 x20 x21 x22 x23 x24 p3 p4 p27)
  | 0, _, _, _, H => by cases H
  | m2 + 1, p3, p4, p27, H => SU (by kernel_rfl) (b2_ok hL1 (l2_ok hL1 k m2) H)
noncomputable def b1 (x1 x2 x3 x4 x5 x6 x7 x8 x9 x10 x11 x12 x13 x14 x15 x16 : Int) (x17 : T4414.T) (x18 : List (List (List T1383.T))) (x19 : List Int) (x20 : List T23b6.T) (x21 : List T713d.T) (x22 x23 : List Int) (x24 : T4414.T) (L1 : Int → List T814c.T → Option R) (k : Nat) (p3 : Int) (p26 : List T814c.T) : Option R :=
  if (decide (p3 < x2)) = true then
  l2 x1 x2 x3 x4 x5 x6 x7 x8 x9 x10 x11 x12 x13 x14 x15 x16 x17 x18 x19 x20 x21 x22 x23 x24 L1 k k p3 p3 p26
else
  some (p26, ())
theorem b1_ok {r x1 x2 x3 x4 x5 x6 x7 x8 x9 x10 x11 x12 x13 x14 x15 x16 x17 x18 x19 x20 x21 x22 x23 x24} {L1 : Int → List T814c.T → Option R} {m1 : Nat} (hL1 : ∀ p3 p26, L1 p3 p26 = some r → Gw P 11 (Q x3 x4 x5 x6 x7 x8 x9 x10 x11 x12 x13 x14 x15 x16 x17 x18 x19 x20 x21 x22 x23 x24 r) (Pb c0 5 [] m1) (s1 x1 x2 x3 x4 x5 x6 x7 x8 x9 x10 x11 x12 x13 x14 x15 x16 x17 x18 x19 x20 x21 x22 x23 x24 p3 p26)) {k p3 p26} (H : b1 x1 x2 x3 x4 x5 x6 x7 x8 x9 x10 x11 x12 x13 x14 x15 x16 x17 x18 x19 x20 x21 x22 x23 x24 L1 k p3 p26 = some r) : Gw P 11 (Q x3 x4 x5 x6 x7 x8 x9 x10 x11 x12 x13 x14 x15 x16 x17 x18 x19 x20 x21 x22 x23 x24 r) (Px c0 9 [m1]) (s1 x1 x2 x3 x4 x5 x6 x7 x8 x9 x10 x11 x12 x13 x14 x15 x16 x17 x18 x19 x20 x21 x22 x23 x24 p3 p26) := by
  unfold b1 at H
  refine Rg V_ok 0 [] az ?_
  rcases of_ite H with ⟨hb1, H⟩ | ⟨hb1, H⟩
  · refine C1 hb1 ?_
    refine Rg V_ok 0 [] az ?_
    exact LP k (Jm (tn [0, 1, 2, 3, 8, 9] 11) (l2_ok hL1 k k p3 p3 p26 H))
  · refine C0 hb1 ?_
    obtain rfl := Option.some.inj H
    exact Lq (tn [] 11)
noncomputable def l1 (x1 x2 x3 x4 x5 x6 x7 x8 x9 x10 x11 x12 x13 x14 x15 x16 : Int) (x17 : T4414.T) (x18 : List (List (List T1383.T))) (x19 : List Int) (x20 : List T23b6.T) (x21 : List T713d.T) (x22 x23 : List Int) (x24 : T4414.T) (k : Nat) : Nat → Int → List T814c.T → Option R
  | 0, _, _ => none
  | m + 1, p3, p26 => b1 x1 x2 x3 x4 x5 x6 x7 x8 x9 x10 x11 x12 x13 x14 x15 x16 x17 x18 x19 x20 x21 x22 x23 x24 (l1 x1 x2 x3 x4 x5 x6 x7 x8 x9 x10 x11 x12 x13 x14 x15 x16 x17 x18 x19 x20 x21 x22 x23 x24 k m) k p3 p26
theorem l1_ok {r x1 x2 x3 x4 x5 x6 x7 x8 x9 x10 x11 x12 x13 x14 x15 x16 x17 x18 x19 x20 x21 x22 x23 x24} (k : Nat) : ∀ (m1 : Nat) (p3 : Int) (p26 : List T814c.T), l1 x1 x2 x3 x4 x5 x6 x7 x8 x9 x10 x11 x12 x13 x14 x15 x16 x17 x18 x19 x20 x21 x22 x23 x24 k m1 p3 p26 = some r → Gw P 11 (Q x3 x4 x5 x6 x7 x8 x9 x10 x11 x12 x13 x14 x15 x16 x17 x18 x19 x20 x21 x22 x23 x24 r) (Pb c0 5 [] m1) (s1 x1 x2 x3 x4 x5 x6 x7 x8 x9 x10 x11 x12 x13 x14 x15 x16 x17 x18 x19 x20 x21 x22 x23 x24 p3 p26)
  | 0, _, _, H => by cases H
  | m1 + 1, p3, p26, H => SU (by kernel_rfl) (b1_ok (l1_ok k m1) H)
noncomputable def f (k : Nat) (x1 x2 x3 x4 x5 x6 x7 x8 x9 x10 x11 x12 x13 x14 x15 x16 : Int) (x17 : T4414.T) (x18 : List (List (List T1383.T))) (x19 : List Int) (x20 : List T23b6.T) (x21 : List T713d.T) (x22 x23 : List Int) (x24 : T4414.T) (x25 : List T814c.T) : Option R :=
  l1 x1 x2 x3 x4 x5 x6 x7 x8 x9 x10 x11 x12 x13 x14 x15 x16 x17 x18 x19 x20 x21 x22 x23 x24 k k (IntKind.i64.wrap (x1 + 1)) x25
theorem f_ok {r k x1 x2 x3 x4 x5 x6 x7 x8 x9 x10 x11 x12 x13 x14 x15 x16 x17 x18 x19 x20 x21 x22 x23 x24 x25} (H : f k x1 x2 x3 x4 x5 x6 x7 x8 x9 x10 x11 x12 x13 x14 x15 x16 x17 x18 x19 x20 x21 x22 x23 x24 x25 = some r) : Gw P 11 (Q x3 x4 x5 x6 x7 x8 x9 x10 x11 x12 x13 x14 x15 x16 x17 x18 x19 x20 x21 x22 x23 x24 r) (Px c0 1 []) (s0 x1 x2 x3 x4 x5 x6 x7 x8 x9 x10 x11 x12 x13 x14 x15 x16 x17 x18 x19 x20 x21 x22 x23 x24 x25) := by
  unfold f at H
  refine Rg V_ok 0 [] az ?_
  exact LP k (Jm (tn [0, 1, 2, 3, 8] 11) (l1_ok k k (IntKind.i64.wrap (x1 + 1)) x25 H))
theorem ok {r k x1 x2 x3 x4 x5 x6 x7 x8 x9 x10 x11 x12 x13 x14 x15 x16 x17 x18 x19 x20 x21 x22 x23 x24 x25} (H : f k x1 x2 x3 x4 x5 x6 x7 x8 x9 x10 x11 x12 x13 x14 x15 x16 x17 x18 x19 x20 x21 x22 x23 x24 x25 = some r) : W P 11 c0 (s0 x1 x2 x3 x4 x5 x6 x7 x8 x9 x10 x11 x12 x13 x14 x15 x16 x17 x18 x19 x20 x21 x22 x23 x24 x25) (CallQ 11 (out x3 x4 x5 x6 x7 x8 x9 x10 x11 x12 x13 x14 x15 x16 x17 x18 x19 x20 x21 x22 x23 x24 r)) := of_G (f_ok H)
theorem at_ : FnAt P 160 53 c0 Go.Proofs.Tryz.f160.results := fnAt Go.Proofs.Tryz.func160 (by kernel_rfl) (by decide) (by kernel_rfl) (by kernel_rfl)
end i_slices_insertionSortCmpFunc_Ver_6b1
/-! ### function 149, slices.stableCmpFunc[wayfinder/api.Ver], where it is called -/
namespace i_slices_stableCmpFunc_Ver_dbc
noncomputable def c0 : Code := (Go.Proofs.Tryz.f149.body).getD .skip
noncomputable def V : Env := { tt := tt, Γ := slk [] }
theorem V_ok : EnvOk P V := { ck := tt_ck, fits := slk_nil, mixed := mixed }
abbrev R := (List T814c.T) × Unit
noncomputable def s0 (x1 x2 x3 x4 x5 x6 x7 x8 x9 x10 x11 x12 x13 x14 x15 : Int) (x16 : T4414.T) (x17 : List (List (List T1383.T))) (x18 : List Int) (x19 : List T23b6.T) (x20 : List T713d.T) (x21 x22 : List Int) (x23 : T4414.T) (x24 : List T814c.T) : St := ⟨63, [(0, .cv (.one (.own 10))), (1, .cv (.one (.i x1))), (2, .cv (.one (.fn 111 [] [])))], [(.box 13, [.nils, .i x2, .i x3, .i x4, .i x5, .i x6, .i x7, .nils, .nils, .nils, .nils, .nils, .i x8]), (.box 13, [.own 3, .i x9, .i x10, .i x11, .i x12, .i x13, .i x14, .own 4, .own 5, .own 6, .own 7, .own 8, .i x15]), (.box 10, (encC .any T4414 x16)), (.buf 38 (.slice (.slice T1383)) x17, []), (.buf 3 (.int .i64) x18, []), (.buf 58 T23b6 x19, []), (.buf 93 T713d x20, []), (.buf 3 (.int .i64) x21, []), (.buf 3 (.int .i64) x22, []), (.box 10, (encC .any T4414 x23)), (.buf 100 T814c x24, [])]⟩
noncomputable def out (x2 x3 x4 x5 x6 x7 x8 x9 x10 x11 x12 x13 x14 x15 : Int) (x16 : T4414.T) (x17 : List (List (List T1383.T))) (x18 : List Int) (x19 : List T23b6.T) (x20 : List T713d.T) (x21 x22 : List Int) (x23 : T4414.T) (r : R) : St := ⟨63, [], [(.box 13, [.nils, .i x2, .i x3, .i x4, .i x5, .i x6, .i x7, .nils, .nils, .nils, .nils, .nils, .i x8]), (.box 13, [.own 3, .i x9, .i x10, .i x11, .i x12, .i x13, .i x14, .own 4, .own 5, .own 6, .own 7, .own 8, .i x15]), (.box 10, (encC .any T4414 x16)), (.buf 38 (.slice (.slice T1383)) x17, []), (.buf 3 (.int .i64) x18, []), (.buf 58 T23b6 x19, []), (.buf 93 T713d x20, []), (.buf 3 (.int .i64) x21, []), (.buf 3 (.int .i64) x22, []), (.box 10, (encC .any T4414 x23)), (.buf 100 T814c r.1, [])]⟩
abbrev Q (x2 x3 x4 x5 x6 x7 x8 x9 x10 x11 x12 x13 x14 x15 : Int) (x16 : T4414.T) (x17 : List (List (List T1383.T))) (x18 : List Int) (x19 : List T23b6.T) (x20 : List T713d.T) (x21 x22 : List Int) (x23 : T4414.T) (r : R) := CallQ 11 (out x2 x3 x4 x5 x6 x7 x8 x9 x10 x11 x12 x13 x14 x15 x16 x17 x18 x19 x20 x21 x22 x23 r)
noncomputable def s1 (x1 x2 x3 x4 x5 x6 x7 x8 x9 x10 x11 x12 x13 x14 x15 : Int) (x16 : T4414.T) (x17 : List (List (List T1383.T))) (x18 : List Int) (x19 : List T23b6.T) (x20 : List T713d.T) (x21 x22 : List Int) (x23 : T4414.T) (p2 p3 p4 : Int) (p27 : List T814c.T) : St := ⟨63, [(0, .cv (.one (.own 10))), (1, .cv (.one (.i x1))), (2, .cv (.one (.fn 111 [] []))), (6, .cv (.one (.i p2))), (7, .cv (.one (.i p3))), (8, .cv (.one (.i p4)))], [(.box 13, [.nils, .i x2, .i x3, .i x4, .i x5, .i x6, .i x7, .nils, .nils, .nils, .nils, .nils, .i x8]), (.box 13, [.own 3, .i x9, .i x10, .i x11, .i x12, .i x13, .i x14, .own 4, .own 5, .own 6, .own 7, .own 8, .i x15]), (.box 10, (encC .any T4414 x16)), (.buf 38 (.slice (.slice T1383)) x17, []), (.buf 3 (.int .i64) x18, []), (.buf 58 T23b6 x19, []), (.buf 93 T713d x20, []), (.buf 3 (.int .i64) x21, []), (.buf 3 (.int .i64) x22, []), (.box 10, (encC .any T4414 x23)), (.buf 100 T814c p27, [])]⟩
noncomputable def s2 (x1 x2 x3 x4 x5 x6 x7 x8 x9 x10 x11 x12 x13 x14 x15 : Int) (x16 : T4414.T) (x17 : List (List (List T1383.T))) (x18 : List Int) (x19 : List T23b6.T) (x20 : List T713d.T) (x21 x22 : List Int) (x23 : T4414.T) (p2 : Int) (p25 : List T814c.T) : St := ⟨63, [(0, .cv (.one (.own 10))), (1, .cv (.one (.i x1))), (2, .cv (.one (.fn 111 [] []))), (6, .cv (.one (.i p2)))], [(.box 13, [.nils, .i x2, .i x3, .i x4, .i x5, .i x6, .i x7, .nils, .nils, .nils, .nils, .nils, .i x8]), (.box 13, [.own 3, .i x9, .i x10, .i x11, .i x12, .i x13, .i x14, .own 4, .own 5, .own 6, .own 7, .own 8, .i x15]), (.box 10, (encC .any T4414 x16)), (.buf 38 (.slice (.slice T1383)) x17, []), (.buf 3 (.int .i64) x18, []), (.buf 58 T23b6 x19, []), (.buf 93 T713d x20, []), (.buf 3 (.int .i64) x21, []), (.buf 3 (.int .i64) x22, []), (.box 10, (encC .any T4414 x23)), (.buf 100 T814c p25, [])]⟩
noncomputable def s3 (x1 x2 x3 x4 x5 x6 x7 x8 x9 x10 x11 x12 x13 x14 x15 : Int) (x16 : T4414.T) (x17 : List (List (List T1383.T))) (x18 : List Int) (x19 : List T23b6.T) (x20 : List T713d.T) (x21 x22 : List Int) (x23 : T4414.T) (p2 p3 p4 : Int) (p27 : List T814c.T) : St := ⟨63, [(0, .cv (.one (.own 10))), (1, .cv (.one (.i x1))), (2, .cv (.one (.fn 111 [] []))), (6, .cv (.one (.i p2))), (7, .cv (.one (.i p3))), (8, .cv (.one (.i p4)))], [(.box 13, [.nils, .i x2, .i x3, .i x4, .i x5, .i x6, .i x7, .nils, .nils, .nils, .nils, .nils, .i x8]), (.box 13, [.own 3, .i x9, .i x10, .i x11, .i x12, .i x13, .i x14, .own 4, .own 5, .own 6, .own 7, .own 8, .i x15]), (.box 10, (encC .any T4414 x16)), (.buf 38 (.slice (.slice T1383)) x17, []), (.buf 3 (.int .i64) x18, []), (.buf 58 T23b6 x19, []), (.buf 93 T713d x20, []), (.buf 3 (.int .i64) x21, []), (.buf 3 (.int .i64) x22, []), (.box 10, (encC .any T4414 x23)), (.buf 100 T814c p27, [])]⟩
noncomputable def b3 (x1 x2 x3 x4 x5 x6 x7 x8 x9 x10 x11 x12 x13 x14 x15 : Int) (x16 : T4414.T) (x17 : List (List (List T1383.T))) (x18 : List Int) (x19 : List T23b6.T) (x20 : List T713d.T) (x21 x22 : List Int) (x23 : T4414.T) (L2 : Int → List T814c.T → Option R) (L3 : Int → Int → Int → List T814c.T → Option R) (k : Nat) (p2 p3 p4 : Int) (p27 : List T814c.T) : Option R :=
  if (decide (p4 ≤ x1)) = true then
  none
else
  if (decide ((IntKind.i64.wrap (p3 + p2)) < x1)) = true then
    none
  else
    L2 (IntKind.i64.wrap (p2 * 2)) p27
theorem b3_ok {r x1 x2 x3 x4 x5 x6 x7 x8 x9 x10 x11 x12 x13 x14 x15 x16 x17 x18 x19 x20 x21 x22 x23} {L2 : Int → List T814c.T → Option R} {m2 : Nat} (hL2 : ∀ p2 p25, L2 p2 p25 = some r → Gw P 11 (Q x2 x3 x4 x5 x6 x7 x8 x9 x10 x11 x12 x13 x14 x15 x16 x17 x18 x19 x20 x21 x22 x23 r) (Pb c0 47 [] m2) (s2 x1 x2 x3 x4 x5 x6 x7 x8 x9 x10 x11 x12 x13 x14 x15 x16 x17 x18 x19 x20 x21 x22 x23 p2 p25)) {L3 : Int → Int → Int → List T814c.T → Option R} {m3 : Nat} (hL3 : ∀ p2 p3 p4 p27, L3 p2 p3 p4 p27 = some r → Gw P 11 (Q x2 x3 x4 x5 x6 x7 x8 x9 x10 x11 x12 x13 x14 x15 x16 x17 x18 x19 x20 x21 x22 x23 r) (Pb c0 2383 [m2] m3) (s3 x1 x2 x3 x4 x5 x6 x7 x8 x9 x10 x11 x12 x13 x14 x15 x16 x17 x18 x19 x20 x21 x22 x23 p2 p3 p4 p27)) {k p2 p3 p4 p27} (H : b3 x1 x2 x3 x4 x5 x6 x7 x8 x9 x10 x11 x12 x13 x14 x15 x16 x17 x18 x19 x20 x21 x22 x23 L2 L3 k p2 p3 p4 p27 = some r) : Gw P 11 (Q x2 x3 x4 x5 x6 x7 x8 x9 x10 x11 x12 x13 x14 x15 x16 x17 x18 x19 x20 x21 x22 x23 r) (Px c0 4431 [m2, m3]) (s3 x1 x2 x3 x4 x5 x6 x7 x8 x9 x10 x11 x12 x13 x14 x15 x16 x17 x18 x19 x20 x21 x22 x23 p2 p3 p4 p27) := by
  unfold b3 at H
  refine Rg V_ok 0 [] az ?_
  rcases of_ite H with ⟨hb7, H⟩ | ⟨hb7, H⟩
  · refine C1 hb7 ?_
    cases H
  · refine C0 hb7 ?_
    refine Rg V_ok 0 [] az ?_
    refine Rg V_ok 0 [] az ?_
    rcases of_ite H with ⟨hb8, H⟩ | ⟨hb8, H⟩
    · refine C1 hb8 ?_
      cases H
    · refine C0 hb8 ?_
      refine Rg V_ok 0 [] az ?_
      exact Jm (tn [0, 1, 2, 6] 11) (hL2 (IntKind.i64.wrap (p2 * 2)) p27 H)
noncomputable def l3 (x1 x2 x3 x4 x5 x6 x7 x8 x9 x10 x11 x12 x13 x14 x15 : Int) (x16 : T4414.T) (x17 : List (List (List T1383.T))) (x18 : List Int) (x19 : List T23b6.T) (x20 : List T713d.T) (x21 x22 : List Int) (x23 : T4414.T) (L2 : Int → List T814c.T → Option R) (k : Nat) : Nat → Int → Int → Int → List T814c.T → Option R
  | 0, _, _, _, _ => none
  | m + 1, p2, p3, p4, p27 => b3 x1 x2 x3 x4 x5 x6 x7 x8 x9 x10 x11 x12 x13 x14 x15 x16 x17 x18 x19 x20 x21 x22 x23 L2 (l3 x1 x2 x3 x4 x5 x6 x7 x8 x9 x10 x11 x12 x13 x14 x15 x16 x17 x18 x19 x20 x21 x22 x23 L2 k m) k p2 p3 p4 p27
theorem l3_ok {r x1 x2 x3 x4 x5 x6 x7 x8 x9 x10 x11 x12 x13 x14 x15 x16 x17 x18 x19 x20 x21 x22 x23} {L2 : Int → List T814c.T → Option R} {m2 : Nat} (hL2 : ∀ p2 p25, L2 p2 p25 = some r → Gw P 11 (Q x2 x3 x4 x5 x6 x7 x8 x9 x10 x11 x12 x13 x14 x15 x16 x17 x18 x19 x20 x21 x22 x23 r) (Pb c0 47 [] m2) (s2 x1 x2 x3 x4 x5 x6 x7 x8 x9 x10 x11 x12 x13 x14 x15 x16 x17 x18 x19 x20 x21 x22 x23 p2 p25)) (k : Nat) : ∀ (m3 : Nat) (p2 p3 p4 : Int) (p27 : List T814c.T), l3 x1 x2 x3 x4 x5 x6 x7 x8 x9 x10 x11 x12 x13 x14 x15 x16 x17 x18 x19 x20 x21 x22 x23 L2 k m3 p2 p3 p4 p27 = some r → Gw P 11 (Q x2 x3 x4 x5 x6 x7 x8 x9 x10 x11 x12 x13 x14 x15 x16 x17 x18 x19 x20 x21 x22 x23 r) (Pb c0 2383 [m2] m3) (s3 x1 x2 x3 x4 x5 x6 x7 x8 x9 x10 x11 x12 x13 x14 x15 x16 x17 x18 x19 x20 x21 x22 x23 p2 p3 p4 p27)
  | 0, _, _, _, _, H => by cases H
  | m3 + 1, p2, p3, p4, p27, H => SU (by kernel_rfl) (b3_ok hL2 (l3_ok hL2 k m3) H)
noncomputable def b2 (x1 x2 x3 x4 x5 x6 x7 x8 x9 x10 x11 x12 x13 x14 x15 : Int) (x16 : T4414.T) (x17 : List (List (List T1383.T))) (x18 : List Int) (x19 : List T23b6.T) (x20 : List T713d.T) (x21 x22 : List Int) (x23 : T4414.T) (L2 : Int → List T814c.T → Option R) (k : Nat) (p2 : Int) (p25 : List T814c.T) : Option R :=
  if (decide (p2 < x1)) = true then
  l3 x1 x2 x3 x4 x5 x6 x7 x8 x9 x10 x11 x12 x13 x14 x15 x16 x17 x18 x19 x20 x21 x22 x23 L2 k k p2 0 (IntKind.i64.wrap (2 * p2)) p25
else
  some (p25, ())
theorem b2_ok {r x1 x2 x3 x4 x5 x6 x7 x8 x9 x10 x11 x12 x13 x14 x15 x16 x17 x18 x19 x20 x21 x22 x23} {L2 : Int → List T814c.T → Option R} {m2 : Nat} (hL2 : ∀ p2 p25, L2 p2 p25 = some r → Gw P 11 (Q x2 x3 x4 x5 x6 x7 x8 x9 x10 x11 x12 x13 x14 x15 x16 x17 x18 x19 x20 x21 x22 x23 r) (Pb c0 47 [] m2) (s2 x1 x2 x3 x4 x5 x6 x7 x8 x9 x10 x11 x12 x13 x14 x15 x16 x17 x18 x19 x20 x21 x22 x23 p2 p25)) {k p2 p25} (H : b2 x1 x2 x3 x4 x5 x6 x7 x8 x9 x10 x11 x12 x13 x14 x15 x16 x17 x18 x19 x20 x21 x22 x23 L2 k p2 p25 = some r) : Gw P 11 (Q x2 x3 x4 x5 x6 x7 x8 x9 x10 x11 x12 x13 x14 x15 x16 x17 x18 x19 x20 x21 x22 x23 r) (Px c0 79 [m2]) (s2 x1 x2 x3 x4 x5 x6 x7 x8 x9 x10 x11 x12 x13 x14 x15 x16 x17 x18 x19 x20 x21 x22 x23 p2 p25) := by
  unfold b2 at H
  refine Rg V_ok 0 [] az ?_
  rcases of_ite H with ⟨hb6, H⟩ | ⟨hb6, H⟩
  · refine C1 hb6 ?_
    refine Rg V_ok 0 [] az ?_
    exact LP k (Jm (tn [0, 1, 2, 6, 7, 8] 11) (l3_ok hL2 k k p2 0 (IntKind.i64.wrap (2 * p2)) p25 H))
  · refine C0 hb6 ?_
    obtain rfl := Option.some.inj H
    exact Lq (tn [] 11)
noncomputable def l2 (x1 x2 x3 x4 x5 x6 x7 x8 x9 x10 x11 x12 x13 x14 x15 : Int) (x16 : T4414.T) (x17 : List (List (List T1383.T))) (x18 : List Int) (x19 : List T23b6.T) (x20 : List T713d.T) (x21 x22 : List Int) (x23 : T4414.T) (k : Nat) : Nat → Int → List T814c.T → Option R
  | 0, _, _ => none
  | m + 1, p2, p25 => b2 x1 x2 x3 x4 x5 x6 x7 x8 x9 x10 x11 x12 x13 x14 x15 x16 x17 x18 x19 x20 x21 x22 x23 (l2 x1 x2 x3 x4 x5 x6 x7 x8 x9 x10 x11 x12 x13 x14 x15 x16 x17 x18 x19 x20 x21 x22 x23 k m) k p2 p25
theorem l2_ok {r x1 x2 x3 x4 x5 x6 x7 x8 x9 x10 x11 x12 x13 x14 x15 x16 x17 x18 x19 x20 x21 x22 x23} (k : Nat) : ∀ (m2 : Nat) (p2 : Int) (p25 : List T814c.T), l2 x1 x2 x3 x4 x5 x6 x7 x8 x9 x10 x11 x12 x13 x14 x15 x16 x17 x18 x19 x20 x21 x22 x23 k m2 p2 p25 = some r → Gw P 11 (Q x2 x3 x4 x5 x6 x7 x8 x9 x10 x11 x12 x13 x14 x15 x16 x17 x18 x19 x20 x21 x22 x23 r) (Pb c0 47 [] m2) (s2 x1 x2 x3 x4 x5 x6 x7 x8 x9 x10 x11 x12 x13 x14 x15 x16 x17 x18 x19 x20 x21 x22 x23 p2 p25)
  | 0, _, _, H => by cases H
  | m2 + 1, p2, p25, H => SU (by kernel_rfl) (b2_ok (l2_ok k m2) H)
noncomputable def b1 (x1 x2 x3 x4 x5 x6 x7 x8 x9 x10 x11 x12 x13 x14 x15 : Int) (x16 : T4414.T) (x17 : List (List (List T1383.T))) (x18 : List Int) (x19 : List T23b6.T) (x20 : List T713d.T) (x21 x22 : List Int) (x23 : T4414.T) (L1 : Int → Int → Int → List T814c.T → Option R) (k : Nat) (p2 p3 p4 : Int) (p27 : List T814c.T) : Option R :=
  if (decide (p4 ≤ x1)) = true then
  (i_slices_insertionSortCmpFunc_Ver_6b1.f k p3 p4 x2 x3 x4 x5 x6 x7 x8 x9 x10 x11 x12 x13 x14 x15 x16 x17 x18 x19 x20 x21 x22 x23 p27).bind fun y2 =>
    L1 p2 p4 (IntKind.i64.wrap (p4 + p2)) y2.1
else
  (i_slices_insertionSortCmpFunc_Ver_6b1.f k p3 x1 x2 x3 x4 x5 x6 x7 x8 x9 x10 x11 x12 x13 x14 x15 x16 x17 x18 x19 x20 x21 x22 x23 p27).bind fun y4 =>
    l2 x1 x2 x3 x4 x5 x6 x7 x8 x9 x10 x11 x12 x13 x14 x15 x16 x17 x18 x19 x20 x21 x22 x23 k k p2 y4.1
theorem b1_ok {r x1 x2 x3 x4 x5 x6 x7 x8 x9 x10 x11 x12 x13 x14 x15 x16 x17 x18 x19 x20 x21 x22 x23} {L1 : Int → Int → Int → List T814c.T → Option R} {m1 : Nat} (hL1 : ∀ p2 p3 p4 p27, L1 p2 p3 p4 p27 = some r → Gw P 11 (Q x2 x3 x4 x5 x6 x7 x8 x9 x10 x11 x12 x13 x14 x15 x16 x17 x18 x19 x20 x21 x22 x23 r) (Pb c0 19 [] m1) (s1 x1 x2 x3 x4 x5 x6 x7 x8 x9 x10 x11 x12 x13 x14 x15 x16 x17 x18 x19 x20 x21 x22 x23 p2 p3 p4 p27)) {k p2 p3 p4 p27} (H : b1 x1 x2 x3 x4 x5 x6 x7 x8 x9 x10 x11 x12 x13 x14 x15 x16 x17 x18 x19 x20 x21 x22 x23 L1 k p2 p3 p4 p27 = some r) : Gw P 11 (Q x2 x3 x4 x5 x6 x7 x8 x9 x10 x11 x12 x13 x14 x15 x16 x17 x18 x19 x20 x21 x22 x23 r) (Px c0 35 [m1]) (s1 x1 x2 x3 x4 x5 x6 x7 x8 x9 x10 x11 x12 x13 x14 x15 x16 x17 x18 x19 x20 x21 x22 x23 p2 p3 p4 p27) := by
  unfold b1 at H
  refine Rg V_ok 0 [] az ?_
  rcases of_ite H with ⟨hb1, H⟩ | ⟨hb1, H⟩
  · refine C1 hb1 ?_
    refine GT (tn [0, 1, 2, 6, 7, 8] 11) (RI ?_)
    refine EV V_ok 0 [] 4 az ?_
    obtain ⟨y2, e3, H⟩ := of_bind H
    refine CL V_ok i_slices_insertionSortCmpFunc_Ver_6b1.at_ (i_slices_insertionSortCmpFunc_Ver_6b1.ok e3) ?_
    refine RN ?_
    refine Rg V_ok 0 [] az ?_
    refine Rg V_ok 0 [] az ?_
    exact Jm (tn [0, 1, 2, 6, 7, 8] 11) (hL1 p2 p4 (IntKind.i64.wrap (p4 + p2)) y2.1 H)
  · refine C0 hb1 ?_
    refine GT (tn [0, 1, 2, 6, 7] 11) (RI ?_)
    refine EV V_ok 0 [] 4 az ?_
    obtain ⟨y4, e5, H⟩ := of_bind H
    refine CL V_ok i_slices_insertionSortCmpFunc_Ver_6b1.at_ (i_slices_insertionSortCmpFunc_Ver_6b1.ok e5) ?_
    refine RN ?_
    exact LP k (Jm (tn [0, 1, 2, 6] 11) (l2_ok k k p2 y4.1 H))
noncomputable def l1 (x1 x2 x3 x4 x5 x6 x7 x8 x9 x10 x11 x12 x13 x14 x15 : Int) (x16 : T4414.T) (x17 : List (List (List T1383.T))) (x18 : List Int) (x19 : List T23b6.T) (x20 : List T713d.T) (x21 x22 : List Int) (x23 : T4414.T) (k : Nat) : Nat → Int → Int → Int → List T814c.T → Option R
  | 0, _, _, _, _ => none
  | m + 1, p2, p3, p4, p27 => b1 x1 x2 x3 x4 x5 x6 x7 x8 x9 x10 x11 x12 x13 x14 x15 x16 x17 x18 x19 x20 x21 x22 x23 (l1 x1 x2 x3 x4 x5 x6 x7 x8 x9 x10 x11 x12 x13 x14 x15 x16 x17 x18 x19 x20 x21 x22 x23 k m) k p2 p3 p4 p27
theorem l1_ok {r x1 x2 x3 x4 x5 x6 x7 x8 x9 x10 x11 x12 x13 x14 x15 x16 x17 x18 x19 x20 x21 x22 x23} (k : Nat) : ∀ (m1 : Nat) (p2 p3 p4 : Int) (p27 : List T814c.T), l1 x1 x2 x3 x4 x5 x6 x7 x8 x9 x10 x11 x12 x13 x14 x15 x16 x17 x18 x19 x20 x21 x22 x23 k m1 p2 p3 p4 p27 = some r → Gw P 11 (Q x2 x3 x4 x5 x6 x7 x8 x9 x10 x11 x12 x13 x14 x15 x16 x17 x18 x19 x20 x21 x22 x23 r) (Pb c0 19 [] m1) (s1 x1 x2 x3 x4 x5 x6 x7 x8 x9 x10 x11 x12 x13 x14 x15 x16 x17 x18 x19 x20 x21 x22 x23 p2 p3 p4 p27)
  | 0, _, _, _, _, H => by cases H
  | m1 + 1, p2, p3, p4, p27, H => SU (by kernel_rfl) (b1_ok (l1_ok k m1) H)
noncomputable def f (k : Nat) (x1 x2 x3 x4 x5 x6 x7 x8 x9 x10 x11 x12 x13 x14 x15 : Int) (x16 : T4414.T) (x17 : List (List (List T1383.T))) (x18 : List Int) (x19 : List T23b6.T) (x20 : List T713d.T) (x21 x22 : List Int) (x23 : T4414.T) (x24 : List T814c.T) : Option R :=
  l1 x1 x2 x3 x4 x5 x6 x7 x8 x9 x10 x11 x12 x13 x14 x15 x16 x17 x18 x19 x20 x21 x22 x23 k k 20 0 20 x24
theorem f_ok {r k x1 x2 x3 x4 x5 x6 x7 x8 x9 x10 x11 x12 x13 x14 x15 x16 x17 x18 x19 x20 x21 x22 x23 x24} (H : f k x1 x2 x3 x4 x5 x6 x7 x8 x9 x10 x11 x12 x13 x14 x15 x16 x17 x18 x19 x20 x21 x22 x23 x24 = some r) : Gw P 11 (Q x2 x3 x4 x5 x6 x7 x8 x9 x10 x11 x12 x13 x14 x15 x16 x17 x18 x19 x20 x21 x22 x23 r) (Px c0 1 []) (s0 x1 x2 x3 x4 x5 x6 x7 x8 x9 x10 x11 x12 x13 x14 x15 x16 x17 x18 x19 x20 x21 x22 x23 x24) := by
  unfold f at H
  refine Rg V_ok 0 [] az ?_
  refine Rg V_ok 0 [] az ?_
  exact LP k (Jm (tn [0, 1, 2, 6, 7, 8] 11) (l1_ok k k 20 0 20 x24 H))
theorem ok {r k x1 x2 x3 x4 x5 x6 x7 x8 x9 x10 x11 x12 x13 x14 x15 x16 x17 x18 x19 x20 x21 x22 x23 x24} (H : f k x1 x2 x3 x4 x5 x6 x7 x8 x9 x10 x11 x12 x13 x14 x15 x16 x17 x18 x19 x20 x21 x22 x23 x24 = some r) : W P 11 c0 (s0 x1 x2 x3 x4 x5 x6 x7 x8 x9 x10 x11 x12 x13 x14 x15 x16 x17 x18 x19 x20 x21 x22 x23 x24) (CallQ 11 (out x2 x3 x4 x5 x6 x7 x8 x9 x10 x11 x12 x13 x14 x15 x16 x17 x18 x19 x20 x21 x22 x23 r)) := of_G (f_ok H)
theorem at_ : FnAt P 149 63 c0 Go.Proofs.Tryz.f149.results := fnAt Go.Proofs.Tryz.func149 (by kernel_rfl) (by decide) (by kernel_rfl) (by kernel_rfl)
end i_slices_stableCmpFunc_Ver_dbc
/-! ### function 110, slices.SortStableFunc[[]wayfinder/api.Ver,wayfinder/api.Ver], where it is called -/
namespace i_slices_SortStableFunc_Ver_18c
noncomputable def c0 : Code := (Go.Proofs.Tryz.f110.body).getD .skip
noncomputable def V : Env := { tt := tt, Γ := slk [] }
theorem V_ok : EnvOk P V := { ck := tt_ck, fits := slk_nil, mixed := mixed }
abbrev R := (List T814c.T) × Unit
noncomputable def s0 (x1 x2 x3 x4 x5 x6 x7 x8 x9 x10 x11 x12 x13 x14 : Int) (x15 : T4414.T) (x16 : List (List (List T1383.T))) (x17 : List Int) (x18 : List T23b6.T) (x19 : List T713d.T) (x20 x21 : List Int) (x22 : T4414.T) (x23 : List T814c.T) : St := ⟨9, [(0, .cv (.one (.own 10))), (1, .cv (.one (.fn 111 [] [])))], [(.box 13, [.nils, .i x1, .i x2, .i x3, .i x4, .i x5, .i x6, .nils, .nils, .nils, .nils, .nils, .i x7]), (.box 13, [.own 3, .i x8, .i x9, .i x10, .i x11, .i x12, .i x13, .own 4, .own 5, .own 6, .own 7, .own 8, .i x14]), (.box 10, (encC .any T4414 x15)), (.buf 38 (.slice (.slice T1383)) x16, []), (.buf 3 (.int .i64) x17, []), (.buf 58 T23b6 x18, []), (.buf 93 T713d x19, []), (.buf 3 (.int .i64) x20, []), (.buf 3 (.int .i64) x21, []), (.box 10, (encC .any T4414 x22)), (.buf 100 T814c x23, [])]⟩
noncomputable def out (x1 x2 x3 x4 x5 x6 x7 x8 x9 x10 x11 x12 x13 x14 : Int) (x15 : T4414.T) (x16 : List (List (List T1383.T))) (x17 : List Int) (x18 : List T23b6.T) (x19 : List T713d.T) (x20 x21 : List Int) (x22 : T4414.T) (r : R) : St := ⟨9, [], [(.box 13, [.nils, .i x1, .i x2, .i x3, .i x4, .i x5, .i x6, .nils, .nils, .nils, .nils, .nils, .i x7]), (.box 13, [.own 3, .i x8, .i x9, .i x10, .i x11, .i x12, .i x13, .own 4, .own 5, .own 6, .own 7, .own 8, .i x14]), (.box 10, (encC .any T4414 x15)), (.buf 38 (.slice (.slice T1383)) x16, []), (.buf 3 (.int .i64) x17, []), (.buf 58 T23b6 x18, []), (.buf 93 T713d x19, []), (.buf 3 (.int .i64) x20, []), (.buf 3 (.int .i64) x21, []), (.box 10, (encC .any T4414 x22)), (.buf 100 T814c r.1, [])]⟩
abbrev Q (x1 x2 x3 x4 x5 x6 x7 x8 x9 x10 x11 x12 x13 x14 : Int) (x15 : T4414.T) (x16 : List (List (List T1383.T))) (x17 : List Int) (x18 : List T23b6.T) (x19 : List T713d.T) (x20 x21 : List Int) (x22 : T4414.T) (r : R) := CallQ 11 (out x1 x2 x3 x4 x5 x6 x7 x8 x9 x10 x11 x12 x13 x14 x15 x16 x17 x18 x19 x20 x21 x22 r)
noncomputable def f (k : Nat) (x1 x2 x3 x4 x5 x6 x7 x8 x9 x10 x11 x12 x13 x14 : Int) (x15 : T4414.T) (x16 : List (List (List T1383.T))) (x17 : List Int) (x18 : List T23b6.T) (x19 : List T713d.T) (x20 x21 : List Int) (x22 : T4414.T) (x23 : List T814c.T) : Option R :=
  (i_slices_stableCmpFunc_Ver_dbc.f k (x23.length : Int) x1 x2 x3 x4 x5 x6 x7 x8 x9 x10 x11 x12 x13 x14 x15 x16 x17 x18 x19 x20 x21 x22 x23).bind fun y1 =>
    some (y1.1, ())
theorem f_ok {r k x1 x2 x3 x4 x5 x6 x7 x8 x9 x10 x11 x12 x13 x14 x15 x16 x17 x18 x19 x20 x21 x22 x23} (H : f k x1 x2 x3 x4 x5 x6 x7 x8 x9 x10 x11 x12 x13 x14 x15 x16 x17 x18 x19 x20 x21 x22 x23 = some r) : Gw P 11 (Q x1 x2 x3 x4 x5 x6 x7 x8 x9 x10 x11 x12 x13 x14 x15 x16 x17 x18 x19 x20 x21 x22 r) (Px c0 1 []) (s0 x1 x2 x3 x4 x5 x6 x7 x8 x9 x10 x11 x12 x13 x14 x15 x16 x17 x18 x19 x20 x21 x22 x23) := by
  unfold f at H
  refine GT (tn [0, 1] 11) (RI ?_)
  refine EV V_ok 0 [] 4 az ?_
  obtain ⟨y1, e2, H⟩ := of_bind H
  refine CL V_ok i_slices_stableCmpFunc_Ver_dbc.at_ (i_slices_stableCmpFunc_Ver_dbc.ok e2) ?_
  refine RN ?_
  obtain rfl := Option.some.inj H
  exact Lq (tn [] 11)
theorem ok {r k x1 x2 x3 x4 x5 x6 x7 x8 x9 x10 x11 x12 x13 x14 x15 x16 x17 x18 x19 x20 x21 x22 x23} (H : f k x1 x2 x3 x4 x5 x6 x7 x8 x9 x10 x11 x12 x13 x14 x15 x16 x17 x18 x19 x20 x21 x22 x23 = some r) : W P 11 c0 (s0 x1 x2 x3 x4 x5 x6 x7 x8 x9 x10 x11 x12 x13 x14 x15 x16 x17 x18 x19 x20 x21 x22 x23) (CallQ 11 (out x1 x2 x3 x4 x5 x6 x7 x8 x9 x10 x11 x12 x13 x14 x15 x16 x17 x18 x19 x20 x21 x22 r)) := of_G (f_ok H)
theorem at_ : FnAt P 110 9 c0 Go.Proofs.Tryz.f110.results := fnAt Go.Proofs.Tryz.func110 (by kernel_rfl) (by decide) (by kernel_rfl) (by kernel_rfl)
end i_slices_SortStableFunc_Ver_18c
/-! ### function 112, (*wayfinder/control.controller).flips, where it is called -/
namespace i_control_controller_flips_854
noncomputable def c0 : Code := (Go.Proofs.Tryz.f112.body).getD .skip
noncomputable def V : Env := { tt := tt, Γ := slk [] }
theorem V_ok : EnvOk P V := { ck := tt_ck, fits := slk_nil, mixed := mixed }
abbrev R := (Bool) × Unit
noncomputable def s0 (x1 x2 x3 x4 x5 x6 x7 x8 x9 x10 x11 x12 x13 x14 : Int) (x15 : T4414.T) (x16 : List (List (List T1383.T))) (x17 : List Int) (x18 : List T23b6.T) (x19 : List T713d.T) (x20 x21 : List Int) (x22 : T4414.T) (x23 : List T814c.T) : St := ⟨17, [(0, .cv (.one (.ptr 1 0)))], [(.box 13, [.nils, .i x1, .i x2, .i x3, .i x4, .i x5, .i x6, .nils, .nils, .nils, .nils, .nils, .i x7]), (.box 13, [.own 3, .i x8, .i x9, .i x10, .i x11, .i x12, .i x13, .own 4, .own 5, .own 6, .own 7, .own 8, .i x14]), (.box 10, (encC .any T4414 x15)), (.buf 38 (.slice (.slice T1383)) x16, []), (.buf 3 (.int .i64) x17, []), (.buf 58 T23b6 x18, []), (.buf 93 T713d x19, []), (.buf 3 (.int .i64) x20, []), (.buf 3 (.int .i64) x21, []), (.box 10, (encC .any T4414 x22)), (.buf 100 T814c x23, [])]⟩
noncomputable def out (x1 x2 x3 x4 x5 x6 x7 x8 x9 x10 x11 x12 x13 x14 : Int) (x15 : T4414.T) (x16 : List (List (List T1383.T))) (x17 : List Int) (x18 : List T23b6.T) (x19 : List T713d.T) (x20 x21 : List Int) (x22 : T4414.T) (x23 : List T814c.T) (r : R) : St := ⟨17, [(2, .cv (.one (.bool r.1)))], [(.box 13, [.nils, .i x1, .i x2, .i x3, .i x4, .i x5, .i x6, .nils, .nils, .nils, .nils, .nils, .i x7]), (.box 13, [.own 3, .i x8, .i x9, .i x10, .i x11, .i x12, .i x13, .own 4, .own 5, .own 6, .own 7, .own 8, .i x14]), (.box 10, (encC .any T4414 x15)), (.buf 38 (.slice (.slice T1383)) x16, []), (.buf 3 (.int .i64) x17, []), (.buf 58 T23b6 x18, []), (.buf 93 T713d x19, []), (.buf 3 (.int .i64) x20, []), (.buf 3 (.int .i64) x21, []), (.box 10, (encC .any T4414 x22)), (.buf 100 T814c x23, [])]⟩
abbrev Q (x1 x2 x3 x4 x5 x6 x7 x8 x9 x10 x11 x12 x13 x14 : Int) (x15 : T4414.T) (x16 : List (List (List T1383.T))) (x17 : List Int) (x18 : List T23b6.T) (x19 : List T713d.T) (x20 x21 : List Int) (x22 : T4414.T) (x23 : List T814c.T) (r : R) := CallQ 11 (out x1 x2 x3 x4 x5 x6 x7 x8 x9 x10 x11 x12 x13 x14 x15 x16 x17 x18 x19 x20 x21 x22 x23 r)
noncomputable def f (k : Nat) (x1 x2 x3 x4 x5 x6 x7 x8 x9 x10 x11 x12 x13 x14 : Int) (x15 : T4414.T) (x16 : List (List (List T1383.T))) (x17 : List Int) (x18 : List T23b6.T) (x19 : List T713d.T) (x20 x21 : List Int) (x22 : T4414.T) (x23 : List T814c.T) : Option R :=
  if (x12 == (2 : Int)) = true then
    some (true, ())
  else
    some ((x12 == (3 : Int)), ())
theorem f_ok {r k x1 x2 x3 x4 x5 x6 x7 x8 x9 x10 x11 x12 x13 x14 x15 x16 x17 x18 x19 x20 x21 x22 x23} (H : f k x1 x2 x3 x4 x5 x6 x7 x8 x9 x10 x11 x12 x13 x14 x15 x16 x17 x18 x19 x20 x21 x22 x23 = some r) : Gw P 11 (Q x1 x2 x3 x4 x5 x6 x7 x8 x9 x10 x11 x12 x13 x14 x15 x16 x17 x18 x19 x20 x21 x22 x23 r) (Px c0 1 []) (s0 x1 x2 x3 x4 x5 x6 x7 x8 x9 x10 x11 x12 x13 x14 x15 x16 x17 x18 x19 x20 x21 x22 x23) := by
  unfold f at H
  refine Rg V_ok 0 [] az ?_
  rcases of_ite H with ⟨hb1, H⟩ | ⟨hb1, H⟩
  · refine Rg V_ok 0 [(5, {bv := some true})] (ac hb1 az) ?_
    obtain rfl := Option.some.inj H
    exact Lq (tn [2] 11)
  · refine Rg V_ok 0 [(5, {bv := some false})] (ac hb1 az) ?_
    obtain rfl := Option.some.inj H
    exact Lq (tn [2] 11)
theorem ok {r k x1 x2 x3 x4 x5 x6 x7 x8 x9 x10 x11 x12 x13 x14 x15 x16 x17 x18 x19 x20 x21 x22 x23} (H : f k x1 x2 x3 x4 x5 x6 x7 x8 x9 x10 x11 x12 x13 x14 x15 x16 x17 x18 x19 x20 x21 x22 x23 = some r) : W P 11 c0 (s0 x1 x2 x3 x4 x5 x6 x7 x8 x9 x10 x11 x12 x13 x14 x15 x16 x17 x18 x19 x20 x21 x22 x23) (CallQ 11 (out x1 x2 x3 x4 x5 x6 x7 x8 x9 x10 x11 x12 x13 x14 x15 x16 x17 x18 x19 x20 x21 x22 x23 r)) := of_G (f_ok H)
theorem at_ : FnAt P 112 17 c0 Go.Proofs.Tryz.f112.results := fnAt Go.Proofs.Tryz.func112 (by kernel_rfl) (by decide) (by kernel_rfl) (by kernel_rfl)
end i_control_controller_flips_854
/-! ### function 112, (*wayfinder/control.controller).flips, where it is called -/
namespace i_control_controller_flips_234
noncomputable def c0 : Code := (Go.Proofs.Tryz.f112.body).getD .skip
noncomputable def V : Env := { tt := tt, Γ := slk [] }
theorem V_ok : EnvOk P V := { ck := tt_ck, fits := slk_nil, mixed := mixed }
abbrev R := (Bool) × Unit
noncomputable def s0 (x1 x2 x3 x4 x5 x6 x7 x8 x9 x10 x11 x12 x13 x14 : Int) (x15 : T4414.T) (x16 : List (List (List T1383.T))) (x17 : List Int) (x18 : List T23b6.T) (x19 : List T713d.T) (x20 x21 : List Int) (x22 : T4414.T) : St := ⟨17, [(0, .cv (.one (.ptr 1 0)))], [(.box 13, [.nils, .i x1, .i x2, .i x3, .i x4, .i x5, .i x6, .nils, .nils, .nils, .nils, .nils, .i x7]), (.box 13, [.own 3, .i x8, .i x9, .i x10, .i x11, .i x12, .i x13, .own 4, .own 5, .own 6, .own 7, .own 8, .i x14]), (.box 10, (encC .any T4414 x15)), (.buf 38 (.slice (.slice T1383)) x16, []), (.buf 3 (.int .i64) x17, []), (.buf 58 T23b6 x18, []), (.buf 93 T713d x19, []), (.buf 3 (.int .i64) x20, []), (.buf 3 (.int .i64) x21, []), (.box 10, (encC .any T4414 x22))]⟩
noncomputable def out (x1 x2 x3 x4 x5 x6 x7 x8 x9 x10 x11 x12 x13 x14 : Int) (x15 : T4414.T) (x16 : List (List (List T1383.T))) (x17 : List Int) (x18 : List T23b6.T) (x19 : List T713d.T) (x20 x21 : List Int) (x22 : T4414.T) (r : R) : St := ⟨17, [(2, .cv (.one (.bool r.1)))], [(.box 13, [.nils, .i x1, .i x2, .i x3, .i x4, .i x5, .i x6, .nils, .nils, .nils, .nils, .nils, .i x7]), (.box 13, [.own 3, .i x8, .i x9, .i x10, .i x11, .i x12, .i x13, .own 4, .own 5, .own 6, .own 7, .own 8, .i x14]), (.box 10, (encC .any T4414 x15)), (.buf 38 (.slice (.slice T1383)) x16, []), (.buf 3 (.int .i64) x17, []), (.buf 58 T23b6 x18, []), (.buf 93 T713d x19, []), (.buf 3 (.int .i64) x20, []), (.buf 3 (.int .i64) x21, []), (.box 10, (encC .any T4414 x22))]⟩
abbrev Q (x1 x2 x3 x4 x5 x6 x7 x8 x9 x10 x11 x12 x13 x14 : Int) (x15 : T4414.T) (x16 : List (List (List T1383.T))) (x17 : List Int) (x18 : List T23b6.T) (x19 : List T713d.T) (x20 x21 : List Int) (x22 : T4414.T) (r : R) := CallQ 10 (out x1 x2 x3 x4 x5 x6 x7 x8 x9 x10 x11 x12 x13 x14 x15 x16 x17 x18 x19 x20 x21 x22 r)
noncomputable def f (k : Nat) (x1 x2 x3 x4 x5 x6 x7 x8 x9 x10 x11 x12 x13 x14 : Int) (x15 : T4414.T) (x16 : List (List (List T1383.T))) (x17 : List Int) (x18 : List T23b6.T) (x19 : List T713d.T) (x20 x21 : List Int) (x22 : T4414.T) : Option R :=
  if (x12 == (2 : Int)) = true then
    some (true, ())
  else
    some ((x12 == (3 : Int)), ())
theorem f_ok {r k x1 x2 x3 x4 x5 x6 x7 x8 x9 x10 x11 x12 x13 x14 x15 x16 x17 x18 x19 x20 x21 x22} (H : f k x1 x2 x3 x4 x5 x6 x7 x8 x9 x10 x11 x12 x13 x14 x15 x16 x17 x18 x19 x20 x21 x22 = some r) : Gw P 10 (Q x1 x2 x3 x4 x5 x6 x7 x8 x9 x10 x11 x12 x13 x14 x15 x16 x17 x18 x19 x20 x21 x22 r) (Px c0 1 []) (s0 x1 x2 x3 x4 x5 x6 x7 x8 x9 x10 x11 x12 x13 x14 x15 x16 x17 x18 x19 x20 x21 x22) := by
  unfold f at H
  refine Rg V_ok 0 [] az ?_
  rcases of_ite H with ⟨hb1, H⟩ | ⟨hb1, H⟩
  · refine Rg V_ok 0 [(5, {bv := some true})] (ac hb1 az) ?_
    obtain rfl := Option.some.inj H
    exact Lq (tn [2] 10)
  · refine Rg V_ok 0 [(5, {bv := some false})] (ac hb1 az) ?_
    obtain rfl := Option.some.inj H
    exact Lq (tn [2] 10)
theorem ok {r k x1 x2 x3 x4 x5 x6 x7 x8 x9 x10 x11 x12 x13 x14 x15 x16 x17 x18 x19 x20 x21 x22} (H : f k x1 x2 x3 x4 x5 x6 x7 x8 x9 x10 x11 x12 x13 x14 x15 x16 x17 x18 x19 x20 x21 x22 = some r) : W P 10 c0 (s0 x1 x2 x3 x4 x5 x6 x7 x8 x9 x10 x11 x12 x13 x14 x15 x16 x17 x18 x19 x20 x21 x22) (CallQ 10 (out x1 x2 x3 x4 x5 x6 x7 x8 x9 x10 x11 x12 x13 x14 x15 x16 x17 x18 x19 x20 x21 x22 r)) := of_G (f_ok H)
theorem at_ : FnAt P 112 17 c0 Go.Proofs.Tryz.f112.results := fnAt Go.Proofs.Tryz.func112 (by kernel_rfl) (by decide) (by kernel_rfl) (by kernel_rfl)
end i_control_controller_flips_234
/-! ### function 59, (*wayfinder/control.controller).live, where it is called -/
namespace i_control_controller_live_eda
noncomputable def c0 : Code := (Go.Proofs.Tryz.f59.body).getD .skip
noncomputable def V : Env := { tt := tt, Γ := slk [(44, f_conf_At.S)] }
theorem V_ok : EnvOk P V := { ck := tt_ck, fits := slk_cons f_conf_At.fits (slk_nil), mixed := mixed }
abbrev R := (List T814c.T) × (Int) × Unit
noncomputable def s0 (x1 x2 x3 x4 x5 x6 x7 x8 x9 x10 x11 x12 x13 x14 x15 : Int) (x16 : T4414.T) (x17 : List (List (List T1383.T))) (x18 : List Int) (x19 : List T23b6.T) (x20 : List T713d.T) (x21 x22 : List Int) (x23 : T4414.T) : St := ⟨70, [(0, .cv (.one (.ptr 1 0))), (1, .cv (.one (.i x1)))], [(.box 13, [.nils, .i x2, .i x3, .i x4, .i x5, .i x6, .i x7, .nils, .nils, .nils, .nils, .nils, .i x8]), (.box 13, [.own 3, .i x9, .i x10, .i x11, .i x12, .i x13, .i x14, .own 4, .own 5, .own 6, .own 7, .own 8, .i x15]), (.box 10, (encC .any T4414 x16)), (.buf 38 (.slice (.slice T1383)) x17, []), (.buf 3 (.int .i64) x18, []), (.buf 58 T23b6 x19, []), (.buf 93 T713d x20, []), (.buf 3 (.int .i64) x21, []), (.buf 3 (.int .i64) x22, []), (.box 10, (encC .any T4414 x23))]⟩
noncomputable def out (x2 x3 x4 x5 x6 x7 x8 x9 x10 x11 x12 x13 x14 x15 : Int) (x16 : T4414.T) (x17 : List (List (List T1383.T))) (x18 : List Int) (x19 : List T23b6.T) (x20 : List T713d.T) (x21 x22 : List Int) (x23 : T4414.T) (r : R) : St := ⟨70, [(4, .cv (.one (.sl T814c r.1 .any))), (5, .cv (.one (.i r.2.1)))], [(.box 13, [.nils, .i x2, .i x3, .i x4, .i x5, .i x6, .i x7, .nils, .nils, .nils, .nils, .nils, .i x8]), (.box 13, [.own 3, .i x9, .i x10, .i x11, .i x12, .i x13, .i x14, .own 4, .own 5, .own 6, .own 7, .own 8, .i x15]), (.box 10, (encC .any T4414 x16)), (.buf 38 (.slice (.slice T1383)) x17, []), (.buf 3 (.int .i64) x18, []), (.buf 58 T23b6 x19, []), (.buf 93 T713d x20, []), (.buf 3 (.int .i64) x21, []), (.buf 3 (.int .i64) x22, []), (.box 10, (encC .any T4414 x23))]⟩
abbrev Q (x2 x3 x4 x5 x6 x7 x8 x9 x10 x11 x12 x13 x14 x15 : Int) (x16 : T4414.T) (x17 : List (List (List T1383.T))) (x18 : List Int) (x19 : List T23b6.T) (x20 : List T713d.T) (x21 x22 : List Int) (x23 : T4414.T) (r : R) := CallQ 10 (out x2 x3 x4 x5 x6 x7 x8 x9 x10 x11 x12 x13 x14 x15 x16 x17 x18 x19 x20 x21 x22 x23 r)
noncomputable def s2 (x2 x3 x4 x5 x6 x7 x8 x9 x10 x11 x12 x13 x14 x15 : Int) (x16 : T4414.T) (x17 : List (List (List T1383.T))) (x18 : List Int) (x19 : List T23b6.T) (x20 : List T713d.T) (x21 x22 : List Int) (x23 : T4414.T) (p24 : List T814c.T) : St := ⟨70, [(0, .cv (.one (.ptr 1 0))), (6, .cv (.one (.own 10))), (7, .cv (.one (.i x11)))], [(.box 13, [.nils, .i x2, .i x3, .i x4, .i x5, .i x6, .i x7, .nils, .nils, .nils, .nils, .nils, .i x8]), (.box 13, [.own 3, .i x9, .i x10, .i x11, .i x12, .i x13, .i x14, .own 4, .own 5, .own 6, .own 7, .own 8, .i x15]), (.box 10, (encC .any T4414 x16)), (.buf 38 (.slice (.slice T1383)) x17, []), (.buf 3 (.int .i64) x18, []), (.buf 58 T23b6 x19, []), (.buf 93 T713d x20, []), (.buf 3 (.int .i64) x21, []), (.buf 3 (.int .i64) x22, []), (.box 10, (encC .any T4414 x23)), (.buf 100 T814c p24, [])]⟩
noncomputable def s4 (x2 x3 x4 x5 x6 x7 x8 x9 x10 x11 x12 x13 x14 x15 : Int) (x16 : T4414.T) (x17 : List (List (List T1383.T))) (x18 : List Int) (x19 : List T23b6.T) (x20 : List T713d.T) (x21 x22 : List Int) (x23 : T4414.T) (p2 : Bool) (p25 : List T814c.T) : St := ⟨70, [(0, .cv (.one (.ptr 1 0))), (6, .cv (.one (.own 10))), (7, .cv (.one (.i x11))), (62, .cv (.one (.bool p2)))], [(.box 13, [.nils, .i x2, .i x3, .i x4, .i x5, .i x6, .i x7, .nils, .nils, .nils, .nils, .nils, .i x8]), (.box 13, [.own 3, .i x9, .i x10, .i x11, .i x12, .i x13, .i x14, .own 4, .own 5, .own 6, .own 7, .own 8, .i x15]), (.box 10, (encC .any T4414 x16)), (.buf 38 (.slice (.slice T1383)) x17, []), (.buf 3 (.int .i64) x18, []), (.buf 58 T23b6 x19, []), (.buf 93 T713d x20, []), (.buf 3 (.int .i64) x21, []), (.buf 3 (.int .i64) x22, []), (.box 10, (encC .any T4414 x23)), (.buf 100 T814c p25, [])]⟩
noncomputable def s6 (x2 x3 x4 x5 x6 x7 x8 x9 x10 x11 x12 x13 x14 x15 : Int) (x16 : T4414.T) (x17 : List (List (List T1383.T))) (x18 : List Int) (x19 : List T23b6.T) (x20 : List T713d.T) (x21 x22 : List Int) (x23 : T4414.T) (p23 : List T814c.T) : St := ⟨70, [(0, .cv (.one (.ptr 1 0))), (6, .cv (.one (.own 10)))], [(.box 13, [.nils, .i x2, .i x3, .i x4, .i x5, .i x6, .i x7, .nils, .nils, .nils, .nils, .nils, .i x8]), (.box 13, [.own 3, .i x9, .i x10, .i x11, .i x12, .i x13, .i x14, .own 4, .own 5, .own 6, .own 7, .own 8, .i x15]), (.box 10, (encC .any T4414 x16)), (.buf 38 (.slice (.slice T1383)) x17, []), (.buf 3 (.int .i64) x18, []), (.buf 58 T23b6 x19, []), (.buf 93 T713d x20, []), (.buf 3 (.int .i64) x21, []), (.buf 3 (.int .i64) x22, []), (.box 10, (encC .any T4414 x23)), (.buf 100 T814c p23, [])]⟩
noncomputable def s1 (x2 x3 x4 x5 x6 x7 x8 x9 x10 x11 x12 x13 x14 x15 : Int) (x16 : T4414.T) (x17 : List (List (List T1383.T))) (x18 : List Int) (x19 : List T23b6.T) (x20 : List T713d.T) (x21 x22 : List Int) (x23 : T4414.T) (p1 : Int) (p24 : List T814c.T) : St := ⟨70, [(6, .cv (.one (.own 10))), (7, .cv (.one (.i p1)))], [(.box 13, [.nils, .i x2, .i x3, .i x4, .i x5, .i x6, .i x7, .nils, .nils, .nils, .nils, .nils, .i x8]), (.box 13, [.own 3, .i x9, .i x10, .i x11, .i x12, .i x13, .i x14, .own 4, .own 5, .own 6, .own 7, .own 8, .i x15]), (.box 10, (encC .any T4414 x16)), (.buf 38 (.slice (.slice T1383)) x17, []), (.buf 3 (.int .i64) x18, []), (.buf 58 T23b6 x19, []), (.buf 93 T713d x20, []), (.buf 3 (.int .i64) x21, []), (.buf 3 (.int .i64) x22, []), (.box 10, (encC .any T4414 x23)), (.buf 100 T814c p24, [])]⟩
noncomputable def j1 (x2 x3 x4 x5 x6 x7 x8 x9 x10 x11 x12 x13 x14 x15 : Int) (x16 : T4414.T) (x17 : List (List (List T1383.T))) (x18 : List Int) (x19 : List T23b6.T) (x20 : List T713d.T) (x21 x22 : List Int) (x23 : T4414.T) (k : Nat) (p1 : Int) (p24 : List T814c.T) : Option R :=
  some (p24, (p1, ()))
theorem j1_ok {r x2 x3 x4 x5 x6 x7 x8 x9 x10 x11 x12 x13 x14 x15 x16 x17 x18 x19 x20 x21 x22 x23} {k p1 p24} (H : j1 x2 x3 x4 x5 x6 x7 x8 x9 x10 x11 x12 x13 x14 x15 x16 x17 x18 x19 x20 x21 x22 x23 k p1 p24 = some r) : Gw P 10 (Q x2 x3 x4 x5 x6 x7 x8 x9 x10 x11 x12 x13 x14 x15 x16 x17 x18 x19 x20 x21 x22 x23 r) (Px c0 31 []) (s1 x2 x3 x4 x5 x6 x7 x8 x9 x10 x11 x12 x13 x14 x15 x16 x17 x18 x19 x20 x21 x22 x23 p1 p24) := by
  unfold j1 at H
  refine Rg V_ok 0 [] az ?_
  obtain rfl := Option.some.inj H
  exact Lq {fz := [10], gr := 0, ad := [], live := [4, 5], src := [some 0, some 1, some 2, some 3, some 4, some 5, some 6, some 7, some 8, some 9]}
noncomputable def j6 (x2 x3 x4 x5 x6 x7 x8 x9 x10 x11 x12 x13 x14 x15 : Int) (x16 : T4414.T) (x17 : List (List (List T1383.T))) (x18 : List Int) (x19 : List T23b6.T) (x20 : List T713d.T) (x21 x22 : List Int) (x23 : T4414.T) (k : Nat) (p23 : List T814c.T) : Option R :=
  j1 x2 x3 x4 x5 x6 x7 x8 x9 x10 x11 x12 x13 x14 x15 x16 x17 x18 x19 x20 x21 x22 x23 k x12 p23
theorem j6_ok {r x2 x3 x4 x5 x6 x7 x8 x9 x10 x11 x12 x13 x14 x15 x16 x17 x18 x19 x20 x21 x22 x23} {k p23} (H : j6 x2 x3 x4 x5 x6 x7 x8 x9 x10 x11 x12 x13 x14 x15 x16 x17 x18 x19 x20 x21 x22 x23 k p23 = some r) : Gw P 10 (Q x2 x3 x4 x5 x6 x7 x8 x9 x10 x11 x12 x13 x14 x15 x16 x17 x18 x19 x20 x21 x22 x23 r) (Px c0 87 []) (s6 x2 x3 x4 x5 x6 x7 x8 x9 x10 x11 x12 x13 x14 x15 x16 x17 x18 x19 x20 x21 x22 x23 p23) := by
  unfold j6 at H
  refine Rg V_ok 0 [] az ?_
  exact Jm (tn [6, 7] 11) (j1_ok H)
noncomputable def j4 (x2 x3 x4 x5 x6 x7 x8 x9 x10 x11 x12 x13 x14 x15 : Int) (x16 : T4414.T) (x17 : List (List (List T1383.T))) (x18 : List Int) (x19 : List T23b6.T) (x20 : List T713d.T) (x21 x22 : List Int) (x23 : T4414.T) (k : Nat) (p2 : Bool) (p25 : List T814c.T) : Option R :=
  if p2 = true then
  j6 x2 x3 x4 x5 x6 x7 x8 x9 x10 x11 x12 x13 x14 x15 x16 x17 x18 x19 x20 x21 x22 x23 k p25
else
  j1 x2 x3 x4 x5 x6 x7 x8 x9 x10 x11 x12 x13 x14 x15 x16 x17 x18 x19 x20 x21 x22 x23 k x11 p25
theorem j4_ok {r x2 x3 x4 x5 x6 x7 x8 x9 x10 x11 x12 x13 x14 x15 x16 x17 x18 x19 x20 x21 x22 x23} {k p2 p25} (H : j4 x2 x3 x4 x5 x6 x7 x8 x9 x10 x11 x12 x13 x14 x15 x16 x17 x18 x19 x20 x21 x22 x23 k p2 p25 = some r) : Gw P 10 (Q x2 x3 x4 x5 x6 x7 x8 x9 x10 x11 x12 x13 x14 x15 x16 x17 x18 x19 x20 x21 x22 x23 r) (Px c0 55 []) (s4 x2 x3 x4 x5 x6 x7 x8 x9 x10 x11 x12 x13 x14 x15 x16 x17 x18 x19 x20 x21 x22 x23 p2 p25) := by
  unfold j4 at H
  rcases of_ite H with ⟨hb16, H⟩ | ⟨hb16, H⟩
  · refine C1 hb16 ?_
    exact Jm (tn [0, 6] 11) (j6_ok H)
  · refine C0 hb16 ?_
    exact Jm (tn [6, 7] 11) (j1_ok H)
noncomputable def j2 (x2 x3 x4 x5 x6 x7 x8 x9 x10 x11 x12 x13 x14 x15 : Int) (x16 : T4414.T) (x17 : List (List (List T1383.T))) (x18 : List Int) (x19 : List T23b6.T) (x20 : List T713d.T) (x21 x22 : List Int) (x23 : T4414.T) (k : Nat) (p24 : List T814c.T) : Option R :=
  (i_control_controller_flips_854.f k x2 x3 x4 x5 x6 x7 x8 x9 x10 x11 x12 x13 x14 x15 x16 x17 x18 x19 x20 x21 x22 x23 p24).bind fun y14 =>
  j4 x2 x3 x4 x5 x6 x7 x8 x9 x10 x11 x12 x13 x14 x15 x16 x17 x18 x19 x20 x21 x22 x23 k y14.1 p24
theorem j2_ok {r x2 x3 x4 x5 x6 x7 x8 x9 x10 x11 x12 x13 x14 x15 x16 x17 x18 x19 x20 x21 x22 x23} {k p24} (H : j2 x2 x3 x4 x5 x6 x7 x8 x9 x10 x11 x12 x13 x14 x15 x16 x17 x18 x19 x20 x21 x22 x23 k p24 = some r) : Gw P 10 (Q x2 x3 x4 x5 x6 x7 x8 x9 x10 x11 x12 x13 x14 x15 x16 x17 x18 x19 x20 x21 x22 x23 r) (Px c0 15 []) (s2 x2 x3 x4 x5 x6 x7 x8 x9 x10 x11 x12 x13 x14 x15 x16 x17 x18 x19 x20 x21 x22 x23 p24) := by
  unfold j2 at H
  refine GT (tn [0, 6, 7] 11) (RI ?_)
  refine EV V_ok 0 [] 1 az ?_
  obtain ⟨y14, e15, H⟩ := of_bind H
  refine CL V_ok i_control_controller_flips_854.at_ (i_control_controller_flips_854.ok e15) ?_
  refine RN ?_
  exact Jm (tn [0, 6, 7, 62] 11) (j4_ok H)
noncomputable def s3 (x2 x3 x4 x5 x6 x7 x8 x9 x10 x11 x12 x13 x14 x15 : Int) (x16 : T4414.T) (x17 : List (List (List T1383.T))) (x18 : List Int) (x19 : List T23b6.T) (x20 : List T713d.T) (x21 x22 : List Int) (x23 : T4414.T) (p1 : List T814c.T) : St := ⟨70, [(0, .cv (.one (.ptr 1 0))), (6, .cv (.one (.sl T814c p1 .full))), (7, .cv (.one (.i x11)))], [(.box 13, [.nils, .i x2, .i x3, .i x4, .i x5, .i x6, .i x7, .nils, .nils, .nils, .nils, .nils, .i x8]), (.box 13, [.own 3, .i x9, .i x10, .i x11, .i x12, .i x13, .i x14, .own 4, .own 5, .own 6, .own 7, .own 8, .i x15]), (.box 10, (encC .any T4414 x16)), (.buf 38 (.slice (.slice T1383)) x17, []), (.buf 3 (.int .i64) x18, []), (.buf 58 T23b6 x19, []), (.buf 93 T713d x20, []), (.buf 3 (.int .i64) x21, []), (.buf 3 (.int .i64) x22, []), (.box 10, (encC .any T4414 x23))]⟩
noncomputable def s5 (x2 x3 x4 x5 x6 x7 x8 x9 x10 x11 x12 x13 x14 x15 : Int) (x16 : T4414.T) (x17 : List (List (List T1383.T))) (x18 : List Int) (x19 : List T23b6.T) (x20 : List T713d.T) (x21 x22 : List Int) (x23 : T4414.T) (p1 : List T814c.T) (p3 : Bool) : St := ⟨70, [(0, .cv (.one (.ptr 1 0))), (6, .cv (.one (.sl T814c p1 .full))), (7, .cv (.one (.i x11))), (62, .cv (.one (.bool p3)))], [(.box 13, [.nils, .i x2, .i x3, .i x4, .i x5, .i x6, .i x7, .nils, .nils, .nils, .nils, .nils, .i x8]), (.box 13, [.own 3, .i x9, .i x10, .i x11, .i x12, .i x13, .i x14, .own 4, .own 5, .own 6, .own 7, .own 8, .i x15]), (.box 10, (encC .any T4414 x16)), (.buf 38 (.slice (.slice T1383)) x17, []), (.buf 3 (.int .i64) x18, []), (.buf 58 T23b6 x19, []), (.buf 93 T713d x20, []), (.buf 3 (.int .i64) x21, []), (.buf 3 (.int .i64) x22, []), (.box 10, (encC .any T4414 x23))]⟩
noncomputable def s7 (x2 x3 x4 x5 x6 x7 x8 x9 x10 x11 x12 x13 x14 x15 : Int) (x16 : T4414.T) (x17 : List (List (List T1383.T))) (x18 : List Int) (x19 : List T23b6.T) (x20 : List T713d.T) (x21 x22 : List Int) (x23 : T4414.T) (p1 : List T814c.T) : St := ⟨70, [(0, .cv (.one (.ptr 1 0))), (6, .cv (.one (.sl T814c p1 .full)))], [(.box 13, [.nils, .i x2, .i x3, .i x4, .i x5, .i x6, .i x7, .nils, .nils, .nils, .nils, .nils, .i x8]), (.box 13, [.own 3, .i x9, .i x10, .i x11, .i x12, .i x13, .i x14, .own 4, .own 5, .own 6, .own 7, .own 8, .i x15]), (.box 10, (encC .any T4414 x16)), (.buf 38 (.slice (.slice T1383)) x17, []), (.buf 3 (.int .i64) x18, []), (.buf 58 T23b6 x19, []), (.buf 93 T713d x20, []), (.buf 3 (.int .i64) x21, []), (.buf 3 (.int .i64) x22, []), (.box 10, (encC .any T4414 x23))]⟩
noncomputable def s8 (x2 x3 x4 x5 x6 x7 x8 x9 x10 x11 x12 x13 x14 x15 : Int) (x16 : T4414.T) (x17 : List (List (List T1383.T))) (x18 : List Int) (x19 : List T23b6.T) (x20 : List T713d.T) (x21 x22 : List Int) (x23 : T4414.T) (p1 : List T814c.T) (p2 : Int) : St := ⟨70, [(6, .cv (.one (.sl T814c p1 .full))), (7, .cv (.one (.i p2)))], [(.box 13, [.nils, .i x2, .i x3, .i x4, .i x5, .i x6, .i x7, .nils, .nils, .nils, .nils, .nils, .i x8]), (.box 13, [.own 3, .i x9, .i x10, .i x11, .i x12, .i x13, .i x14, .own 4, .own 5, .own 6, .own 7, .own 8, .i x15]), (.box 10, (encC .any T4414 x16)), (.buf 38 (.slice (.slice T1383)) x17, []), (.buf 3 (.int .i64) x18, []), (.buf 58 T23b6 x19, []), (.buf 93 T713d x20, []), (.buf 3 (.int .i64) x21, []), (.buf 3 (.int .i64) x22, []), (.box 10, (encC .any T4414 x23))]⟩
noncomputable def j8 (x2 x3 x4 x5 x6 x7 x8 x9 x10 x11 x12 x13 x14 x15 : Int) (x16 : T4414.T) (x17 : List (List (List T1383.T))) (x18 : List Int) (x19 : List T23b6.T) (x20 : List T713d.T) (x21 x22 : List Int) (x23 : T4414.T) (k : Nat) (p1 : List T814c.T) (p2 : Int) : Option R :=
  some (p1, (p2, ()))
theorem j8_ok {r x2 x3 x4 x5 x6 x7 x8 x9 x10 x11 x12 x13 x14 x15 x16 x17 x18 x19 x20 x21 x22 x23} {k p1 p2} (H : j8 x2 x3 x4 x5 x6 x7 x8 x9 x10 x11 x12 x13 x14 x15 x16 x17 x18 x19 x20 x21 x22 x23 k p1 p2 = some r) : Gw P 10 (Q x2 x3 x4 x5 x6 x7 x8 x9 x10 x11 x12 x13 x14 x15 x16 x17 x18 x19 x20 x21 x22 x23 r) (Px c0 31 []) (s8 x2 x3 x4 x5 x6 x7 x8 x9 x10 x11 x12 x13 x14 x15 x16 x17 x18 x19 x20 x21 x22 x23 p1 p2) := by
  unfold j8 at H
  refine Rg V_ok 0 [] az ?_
  obtain rfl := Option.some.inj H
  exact Lq {fz := [], gr := 0, ad := [.tmp 4 (.any)], live := [4, 5], src := [some 0, some 1, some 2, some 3, some 4, some 5, some 6, some 7, some 8, some 9]}
noncomputable def j7 (x2 x3 x4 x5 x6 x7 x8 x9 x10 x11 x12 x13 x14 x15 : Int) (x16 : T4414.T) (x17 : List (List (List T1383.T))) (x18 : List Int) (x19 : List T23b6.T) (x20 : List T713d.T) (x21 x22 : List Int) (x23 : T4414.T) (k : Nat) (p1 : List T814c.T) : Option R :=
  j8 x2 x3 x4 x5 x6 x7 x8 x9 x10 x11 x12 x13 x14 x15 x16 x17 x18 x19 x20 x21 x22 x23 k p1 x12
theorem j7_ok {r x2 x3 x4 x5 x6 x7 x8 x9 x10 x11 x12 x13 x14 x15 x16 x17 x18 x19 x20 x21 x22 x23} {k p1} (H : j7 x2 x3 x4 x5 x6 x7 x8 x9 x10 x11 x12 x13 x14 x15 x16 x17 x18 x19 x20 x21 x22 x23 k p1 = some r) : Gw P 10 (Q x2 x3 x4 x5 x6 x7 x8 x9 x10 x11 x12 x13 x14 x15 x16 x17 x18 x19 x20 x21 x22 x23 r) (Px c0 87 []) (s7 x2 x3 x4 x5 x6 x7 x8 x9 x10 x11 x12 x13 x14 x15 x16 x17 x18 x19 x20 x21 x22 x23 p1) := by
  unfold j7 at H
  refine Rg V_ok 0 [] az ?_
  exact Jm (tn [6, 7] 10) (j8_ok H)
noncomputable def j5 (x2 x3 x4 x5 x6 x7 x8 x9 x10 x11 x12 x13 x14 x15 : Int) (x16 : T4414.T) (x17 : List (List (List T1383.T))) (x18 : List Int) (x19 : List T23b6.T) (x20 : List T713d.T) (x21 x22 : List Int) (x23 : T4414.T) (k : Nat) (p1 : List T814c.T) (p3 : Bool) : Option R :=
  if p3 = true then
  j7 x2 x3 x4 x5 x6 x7 x8 x9 x10 x11 x12 x13 x14 x15 x16 x17 x18 x19 x20 x21 x22 x23 k p1
else
  j8 x2 x3 x4 x5 x6 x7 x8 x9 x10 x11 x12 x13 x14 x15 x16 x17 x18 x19 x20 x21 x22 x23 k p1 x11
theorem j5_ok {r x2 x3 x4 x5 x6 x7 x8 x9 x10 x11 x12 x13 x14 x15 x16 x17 x18 x19 x20 x21 x22 x23} {k p1 p3} (H : j5 x2 x3 x4 x5 x6 x7 x8 x9 x10 x11 x12 x13 x14 x15 x16 x17 x18 x19 x20 x21 x22 x23 k p1 p3 = some r) : Gw P 10 (Q x2 x3 x4 x5 x6 x7 x8 x9 x10 x11 x12 x13 x14 x15 x16 x17 x18 x19 x20 x21 x22 x23 r) (Px c0 55 []) (s5 x2 x3 x4 x5 x6 x7 x8 x9 x10 x11 x12 x13 x14 x15 x16 x17 x18 x19 x20 x21 x22 x23 p1 p3) := by
  unfold j5 at H
  rcases of_ite H with ⟨hb19, H⟩ | ⟨hb19, H⟩
  · refine C1 hb19 ?_
    exact Jm (tn [0, 6] 10) (j7_ok H)
  · refine C0 hb19 ?_
    exact Jm (tn [6, 7] 10) (j8_ok H)
noncomputable def j3 (x2 x3 x4 x5 x6 x7 x8 x9 x10 x11 x12 x13 x14 x15 : Int) (x16 : T4414.T) (x17 : List (List (List T1383.T))) (x18 : List Int) (x19 : List T23b6.T) (x20 : List T713d.T) (x21 x22 : List Int) (x23 : T4414.T) (k : Nat) (p1 : List T814c.T) : Option R :=
  (i_control_controller_flips_234.f k x2 x3 x4 x5 x6 x7 x8 x9 x10 x11 x12 x13 x14 x15 x16 x17 x18 x19 x20 x21 x22 x23).bind fun y17 =>
  j5 x2 x3 x4 x5 x6 x7 x8 x9 x10 x11 x12 x13 x14 x15 x16 x17 x18 x19 x20 x21 x22 x23 k p1 y17.1
theorem j3_ok {r x2 x3 x4 x5 x6 x7 x8 x9 x10 x11 x12 x13 x14 x15 x16 x17 x18 x19 x20 x21 x22 x23} {k p1} (H : j3 x2 x3 x4 x5 x6 x7 x8 x9 x10 x11 x12 x13 x14 x15 x16 x17 x18 x19 x20 x21 x22 x23 k p1 = some r) : Gw P 10 (Q x2 x3 x4 x5 x6 x7 x8 x9 x10 x11 x12 x13 x14 x15 x16 x17 x18 x19 x20 x21 x22 x23 r) (Px c0 15 []) (s3 x2 x3 x4 x5 x6 x7 x8 x9 x10 x11 x12 x13 x14 x15 x16 x17 x18 x19 x20 x21 x22 x23 p1) := by
  unfold j3 at H
  refine GT (tn [0, 6, 7] 10) (RI ?_)
  refine EV V_ok 0 [] 1 az ?_
  obtain ⟨y17, e18, H⟩ := of_bind H
  refine CL V_ok i_control_controller_flips_234.at_ (i_control_controller_flips_234.ok e18) ?_
  refine RN ?_
  exact Jm (tn [0, 6, 7, 62] 10) (j5_ok H)
noncomputable def f (k : Nat) (x1 x2 x3 x4 x5 x6 x7 x8 x9 x10 x11 x12 x13 x14 x15 : Int) (x16 : T4414.T) (x17 : List (List (List T1383.T))) (x18 : List Int) (x19 : List T23b6.T) (x20 : List T713d.T) (x21 x22 : List Int) (x23 : T4414.T) : Option R :=
  if 0 ≤ x9 then
    if x9 < (x17.length : Int) then
      (f_conf_At.f k (att (.slice (.slice T1383)) x17 x9) x1).bind fun y1 =>
        (i_control_controller_two_234.f k x2 x3 x4 x5 x6 x7 x8 x9 x10 x11 x12 x13 x14 x15 x16 x17 x18 x19 x20 x21 x22 x23).bind fun y5 =>
          if y5.1 = true then
            if 0 ≤ x10 then
              if x10 < (x17.length : Int) then
                (f_conf_At.f k (att (.slice (.slice T1383)) x17 x10) x1).bind fun y8 =>
                  (i_slices_SortStableFunc_Ver_18c.f k x2 x3 x4 x5 x6 x7 x8 x9 x10 x11 x12 x13 x14 x15 x16 x17 x18 x19 x20 x21 x22 x23 [(x11, y1.1), (x12, y8.1)]).bind fun y12 =>
                    j2 x2 x3 x4 x5 x6 x7 x8 x9 x10 x11 x12 x13 x14 x15 x16 x17 x18 x19 x20 x21 x22 x23 k y12.1
              else none
            else none
          else
            j3 x2 x3 x4 x5 x6 x7 x8 x9 x10 x11 x12 x13 x14 x15 x16 x17 x18 x19 x20 x21 x22 x23 k [(x11, y1.1)]
    else none
  else none
theorem f_ok {r k x1 x2 x3 x4 x5 x6 x7 x8 x9 x10 x11 x12 x13 x14 x15 x16 x17 x18 x19 x20 x21 x22 x23} (H : f k x1 x2 x3 x4 x5 x6 x7 x8 x9 x10 x11 x12 x13 x14 x15 x16 x17 x18 x19 x20 x21 x22 x23 = some r) : Gw P 10 (Q x2 x3 x4 x5 x6 x7 x8 x9 x10 x11 x12 x13 x14 x15 x16 x17 x18 x19 x20 x21 x22 x23 r) (Px c0 1 []) (s0 x1 x2 x3 x4 x5 x6 x7 x8 x9 x10 x11 x12 x13 x14 x15 x16 x17 x18 x19 x20 x21 x22 x23) := by
  unfold f at H
  refine Rg V_ok 0 [] az ?_
  obtain ⟨n2, H⟩ := of_if H
  obtain ⟨n3, H⟩ := of_if H
  obtain ⟨y1, e4, H⟩ := of_bind H
  refine Rg V_ok 0 [(18, hr f_conf_At.S y1)] (ac n2 (ac n3 (ac (f_conf_At.rl e4) az))) ?_
  refine GT (tn [0, 1, 6, 7] 10) (RI ?_)
  refine EV V_ok 0 [] 1 az ?_
  obtain ⟨y5, e6, H⟩ := of_bind H
  refine CL V_ok i_control_controller_two_234.at_ (i_control_controller_two_234.ok e6) ?_
  refine RN ?_
  rcases of_ite H with ⟨hb7, H⟩ | ⟨hb7, H⟩
  · refine C1 hb7 ?_
    obtain ⟨n9, H⟩ := of_if H
    obtain ⟨n10, H⟩ := of_if H
    obtain ⟨y8, e11, H⟩ := of_bind H
    refine Rg V_ok 1 [(19, hr f_conf_At.S y8), (22, hb 10)] (ac n9 (ac n10 (ac (f_conf_At.rl e11) (ac (show (1 + 1) * 32 ≤ 140737488355328 by decide) (ac (show 1 = 0 ∨ 0 < 1 by decide) az))))) ?_
    refine GT (tn [0, 6, 7] 11) (RI ?_)
    refine EV V_ok 0 [] 1 az ?_
    obtain ⟨y12, e13, H⟩ := of_bind H
    refine CL V_ok i_slices_SortStableFunc_Ver_18c.at_ (i_slices_SortStableFunc_Ver_18c.ok e13) ?_
    refine RN ?_
    exact Jm (tn [0, 6, 7] 11) (j2_ok H)
  · refine C0 hb7 ?_
    exact Jm (tn [0, 6, 7] 10) (j3_ok H)
theorem ok {r k x1 x2 x3 x4 x5 x6 x7 x8 x9 x10 x11 x12 x13 x14 x15 x16 x17 x18 x19 x20 x21 x22 x23} (H : f k x1 x2 x3 x4 x5 x6 x7 x8 x9 x10 x11 x12 x13 x14 x15 x16 x17 x18 x19 x20 x21 x22 x23 = some r) : W P 10 c0 (s0 x1 x2 x3 x4 x5 x6 x7 x8 x9 x10 x11 x12 x13 x14 x15 x16 x17 x18 x19 x20 x21 x22 x23) (CallQ 10 (out x2 x3 x4 x5 x6 x7 x8 x9 x10 x11 x12 x13 x14 x15 x16 x17 x18 x19 x20 x21 x22 x23 r)) := of_G (f_ok H)
theorem at_ : FnAt P 59 70 c0 Go.Proofs.Tryz.f59.results := fnAt Go.Proofs.Tryz.func59 (by kernel_rfl) (by decide) (by kernel_rfl) (by kernel_rfl)
end i_control_controller_live_eda
/-! ### function 34, (*wayfinder/control.controller).hello, where it is called -/
namespace i_control_controller_hello_399
noncomputable def c0 : Code := (Go.Proofs.Tryz.f34.body).getD .skip
noncomputable def V : Env := { tt := tt, Γ := slk [(85, f_plan_Push.S), (86, f_sess_New.S), (87, f_plan_Sync.S)] }
theorem V_ok : EnvOk P V := { ck := tt_ck, fits := slk_cons f_plan_Push.fits (slk_cons f_sess_New.fits (slk_cons f_plan_Sync.fits (slk_nil))), mixed := mixed }
abbrev R := (List T23b6.T) × Unit
noncomputable def s0 (x1 : Int) (x2 : T4414.T) (x3 x4 x5 x6 x7 x8 x9 x10 x11 x12 x13 x14 x15 x16 : Int) (x17 : T4414.T) (x18 : List (List (List T1383.T))) (x19 : List Int) (x20 : List T23b6.T) (x21 : List T713d.T) (x22 x23 : List Int) : St := ⟨38, [(0, .cv (.one (.ptr 1 0))), (1, .cv (.one (.i x1))), (2, .cv (.agg (encC .any T4414 x2)))], [(.box 13, [.nils, .i x3, .i x4, .i x5, .i x6, .i x7, .i x8, .nils, .nils, .nils, .nils, .nils, .i x9]), (.box 13, [.own 3, .i x10, .i x11, .i x12, .i x13, .i x14, .i x15, .own 4, .own 5, .own 6, .own 7, .own 8, .i x16]), (.box 10, (encC .any T4414 x17)), (.buf 38 (.slice (.slice T1383)) x18, []), (.buf 3 (.int .i64) x19, []), (.buf 58 T23b6 x20, []), (.buf 93 T713d x21, []), (.buf 3 (.int .i64) x22, []), (.buf 3 (.int .i64) x23, [])]⟩
noncomputable def out (x3 x4 x5 x6 x7 x8 x9 x10 x11 x12 x13 x14 x15 x16 : Int) (x17 : T4414.T) (x18 : List (List (List T1383.T))) (x19 : List Int) (x21 : List T713d.T) (x22 x23 : List Int) (r : R) : St := ⟨38, [], [(.box 13, [.nils, .i x3, .i x4, .i x5, .i x6, .i x7, .i x8, .nils, .nils, .nils, .nils, .nils, .i x9]), (.box 13, [.own 3, .i x10, .i x11, .i x12, .i x13, .i x14, .i x15, .own 4, .own 5, .own 6, .own 7, .own 8, .i x16]), (.box 10, (encC .any T4414 x17)), (.buf 38 (.slice (.slice T1383)) x18, []), (.buf 3 (.int .i64) x19, []), (.buf 58 T23b6 r.1, []), (.buf 93 T713d x21, []), (.buf 3 (.int .i64) x22, []), (.buf 3 (.int .i64) x23, [])]⟩
abbrev Q (x3 x4 x5 x6 x7 x8 x9 x10 x11 x12 x13 x14 x15 x16 : Int) (x17 : T4414.T) (x18 : List (List (List T1383.T))) (x19 : List Int) (x21 : List T713d.T) (x22 x23 : List Int) (r : R) := CallQ 9 (out x3 x4 x5 x6 x7 x8 x9 x10 x11 x12 x13 x14 x15 x16 x17 x18 x19 x21 x22 x23 r)
noncomputable def f (k : Nat) (x1 : Int) (x2 : T4414.T) (x3 x4 x5 x6 x7 x8 x9 x10 x11 x12 x13 x14 x15 x16 : Int) (x17 : T4414.T) (x18 : List (List (List T1383.T))) (x19 : List Int) (x20 : List T23b6.T) (x21 : List T713d.T) (x22 x23 : List Int) : Option R :=
  if 0 ≤ x1 then
    if x1 < (x20.length : Int) then
      if (decide (x2.2.1 > ((att T23b6 x20 x1).1))) = true then
        (f_sess_New.f k x2.2.1).bind fun y4 =>
            (i_control_controller_live_eda.f k x1 x3 x4 x5 x6 x7 x8 x9 x10 x11 x12 x13 x14 x15 x16 x17 x18 x19 x20 x21 x22 x23 x2).bind fun y6 =>
            (f_plan_Sync.f k y6.1 y6.2.1).bind fun y8 =>
                (f_plan_Push.f k y4.1 y8.1).bind fun y10 =>
                  some ((x20.set x1.toNat (x2.2.1, (0, y10.1))), ())
      else
        some (x20, ())
    else none
  else none
theorem f_ok {r k x1 x2 x3 x4 x5 x6 x7 x8 x9 x10 x11 x12 x13 x14 x15 x16 x17 x18 x19 x20 x21 x22 x23} (H : f k x1 x2 x3 x4 x5 x6 x7 x8 x9 x10 x11 x12 x13 x14 x15 x16 x17 x18 x19 x20 x21 x22 x23 = some r) : Gw P 9 (Q x3 x4 x5 x6 x7 x8 x9 x10 x11 x12 x13 x14 x15 x16 x17 x18 x19 x21 x22 x23 r) (Px c0 1 []) (s0 x1 x2 x3 x4 x5 x6 x7 x8 x9 x10 x11 x12 x13 x14 x15 x16 x17 x18 x19 x20 x21 x22 x23) := by
  unfold f at H
  refine Rg V_ok 1 [(0, hb 9)] az ?_
  obtain ⟨n1, H⟩ := of_if H
  obtain ⟨n2, H⟩ := of_if H
  refine Rg V_ok 0 [] (ac n1 (ac n2 az)) ?_
  rcases of_ite H with ⟨hb3, H⟩ | ⟨hb3, H⟩
  · refine C1 hb3 ?_
    obtain ⟨y4, e5, H⟩ := of_bind H
    obtain ⟨y6, e7, H⟩ := of_bind H
    obtain ⟨y8, e9, H⟩ := of_bind H
    obtain ⟨y10, e11, H⟩ := of_bind H
    let x : Nx := (Px c0 11 [])
    let t0 : St := ⟨38, [(0, .cv (.one (.ptr 1 0))), (1, .cv (.one (.i x1))), (5, .cv (.one (.ptr 9 0)))], [(.box 13, [.nils, .i x3, .i x4, .i x5, .i x6, .i x7, .i x8, .nils, .nils, .nils, .nils, .nils, .i x9]), (.box 13, [.own 3, .i x10, .i x11, .i x12, .i x13, .i x14, .i x15, .own 4, .own 5, .own 6, .own 7, .own 8, .i x16]), (.box 10, (encC .any T4414 x17)), (.buf 38 (.slice (.slice T1383)) x18, []), (.buf 3 (.int .i64) x19, []), (.buf 58 T23b6 x20, []), (.buf 93 T713d x21, []), (.buf 3 (.int .i64) x22, []), (.buf 3 (.int .i64) x23, []), (.box 10, (encC .any T4414 x2))]⟩
    refine Jm (x' := x) (τ := t0) (tn [0, 1, 5] 10) ?_
    let Φ := phiX P 9 (Q x3 x4 x5 x6 x7 x8 x9 x10 x11 x12 x13 x14 x15 x16 x17 x18 x19 x21 x22 x23 r) x
    let t1 : St := stpS V x 0 [] 0 (tn [0, 1, 5, 18] 10) t0
    let t2 : St := stpS V x 0 [] 1 (tn [0, 1, 5, 19] 10) t1
    let t3 : St := stpS V x 0 [] 2 (tn [0, 1, 5, 20] 10) t2
    let t4 : St := stpS V x 0 [] 3 (tn [0, 1, 5, 21] 10) t3
    let t5 : St := stpS V x 0 [] 5 (tn [0, 1, 5, 21, 23] 10) t4
    let t6 : St := stpS V x 0 [] 6 (tn [0, 1, 5, 21, 23, 24] 10) t5
    let t7 : St := stpS V x 0 [] 8 (tn [0, 1, 5, 21, 23, 24, 26] 10) t6
    let t8 : St := stpS V x 0 [] 11 (tn [0, 1, 5, 21, 23, 24, 26, 29] 10) t7
    let t9 : St := stpS V x 0 [] 12 (tn [0, 5, 21, 23, 24, 26, 29, 30] 10) t8
    let t10 : St := stpS V x 0 [] 4 (tn [0, 5, 22, 23, 24, 26, 29, 30] 10) t9
    let t11 : St := stpS V x 0 [] 7 (tn [0, 5, 21, 23, 25, 26, 29, 30] 10) t9
    let t12 : St := stpS V x 0 [] 9 (tn [0, 5, 21, 23, 24, 27, 29, 30] 10) t9
    let t13 : St := stpS V x 0 [] 7 (tn [0, 5, 22, 23, 25, 26, 29, 30] 10) t10
    let t14 : St := stpS V x 0 [] 9 (tn [0, 5, 22, 23, 24, 27, 29, 30] 10) t10
    let t15 : St := stpS V x 0 [] 9 (tn [0, 5, 21, 23, 25, 27, 29, 30] 10) t11
    let t16 : St := stpS V x 0 [(10, hr f_sess_New.S y4)] 10 (tn [0, 5, 21, 23, 24, 28, 29, 30] 10) t12
    let t17 : St := stpS V x 0 [] 9 (tn [0, 5, 22, 23, 25, 27, 29, 30] 10) t13
    let t18 : St := stpS V x 0 [(10, hr f_sess_New.S y4)] 10 (tn [0, 5, 22, 23, 24, 28, 29, 30] 10) t14
    let t19 : St := stpS V x 0 [(10, hr f_sess_New.S y4)] 10 (tn [0, 5, 21, 23, 25, 28, 29, 30] 10) t15
    let t20 : St := clT V.tt x 13 Go.Proofs.Tryz.f59.results (tn [0, 5, 21, 23, 24, 28, 31] 10) t16 (i_control_controller_live_eda.out x3 x4 x5 x6 x7 x8 x9 x10 x11 x12 x13 x14 x15 x16 x17 x18 x19 x20 x21 x22 x23 x2 y6)
    let t21 : St := stpS V x 0 [(10, hr f_sess_New.S y4)] 10 (tn [0, 5, 22, 23, 25, 28, 29, 30] 10) t17
    let t22 : St := clT V.tt x 13 Go.Proofs.Tryz.f59.results (tn [0, 5, 22, 23, 24, 28, 31] 10) t18 (i_control_controller_live_eda.out x3 x4 x5 x6 x7 x8 x9 x10 x11 x12 x13 x14 x15 x16 x17 x18 x19 x20 x21 x22 x23 x2 y6)
    let t23 : St := clT V.tt x 13 Go.Proofs.Tryz.f59.results (tn [0, 5, 21, 23, 25, 28, 31] 10) t19 (i_control_controller_live_eda.out x3 x4 x5 x6 x7 x8 x9 x10 x11 x12 x13 x14 x15 x16 x17 x18 x19 x20 x21 x22 x23 x2 y6)
    let t24 : St := stpS V x 0 [] 14 (tn [0, 5, 21, 23, 24, 28, 31, 32] 10) t20
    let t25 : St := clT V.tt x 13 Go.Proofs.Tryz.f59.results (tn [0, 5, 22, 23, 25, 28, 31] 10) t21 (i_control_controller_live_eda.out x3 x4 x5 x6 x7 x8 x9 x10 x11 x12 x13 x14 x15 x16 x17 x18 x19 x20 x21 x22 x23 x2 y6)
    let t26 : St := stpS V x 0 [] 14 (tn [0, 5, 22, 23, 24, 28, 31, 32] 10) t22
    let t27 : St := stpS V x 0 [] 14 (tn [0, 5, 21, 23, 25, 28, 31, 32] 10) t23
    let t28 : St := stpS V x 0 [] 15 (tn [0, 5, 21, 23, 24, 28, 32, 33] 10) t24
    let t29 : St := stpS V x 0 [] 14 (tn [0, 5, 22, 23, 25, 28, 31, 32] 10) t25
    let t30 : St := stpS V x 0 [] 15 (tn [0, 5, 22, 23, 24, 28, 32, 33] 10) t26
    let t31 : St := stpS V x 0 [] 15 (tn [0, 5, 21, 23, 25, 28, 32, 33] 10) t27
    let t32 : St := stpS V x 0 [(16, hr f_plan_Sync.S y8)] 16 (tn [0, 5, 21, 23, 24, 28, 34] 10) t28
    let t33 : St := stpS V x 0 [] 15 (tn [0, 5, 22, 23, 25, 28, 32, 33] 10) t29
    let t34 : St := stpS V x 0 [(16, hr f_plan_Sync.S y8)] 16 (tn [0, 5, 22, 23, 24, 28, 34] 10) t30
    let t35 : St := stpS V x 0 [(16, hr f_plan_Sync.S y8)] 16 (tn [0, 5, 21, 23, 25, 28, 34] 10) t31
    let t36 : St := stpS V x 0 [(17, hr f_plan_Push.S y10)] 17 (tn [0, 5, 21, 23, 24, 35] 10) t32
    let t37 : St := stpS V x 0 [(16, hr f_plan_Sync.S y8)] 16 (tn [0, 5, 22, 23, 25, 28, 34] 10) t33
    let t38 : St := stpS V x 0 [(17, hr f_plan_Push.S y10)] 17 (tn [0, 5, 22, 23, 24, 35] 10) t34
    let t39 : St := stpS V x 0 [(17, hr f_plan_Push.S y10)] 17 (tn [0, 5, 21, 23, 25, 35] 10) t35
    let t40 : St := stpS V x 0 [(17, hr f_plan_Push.S y10)] 17 (tn [0, 5, 22, 23, 25, 35] 10) t37
    let t41 : St := stpS V x 0 [] 18 (tn [0, 5, 21, 23, 36] 10) t39
    let t42 : St := stpS V x 0 [] 18 (tn [0, 5, 22, 23, 36] 10) t40
    let t43 : St := stpS V x 0 [] 19 (tn [0, 5, 36, 37] 10) t42
    let t44 : St := stpS V x 0 [] 20 (tn [] 9) t43
    have w44 : WA P 9 (opsX x) 0 (bs 21 2097151) Φ t44 := by
      refine WA_nil (by kernel_rfl) (RAn (by kernel_rfl) ?_)
      obtain rfl := Option.some.inj H
      exact Lq (tn [] 9)
    have w43 : WA P 9 (opsX x) 1 (bs 21 1048575) Φ t43 := WAs (an (WE V_ok 0 [] 20 (tn [] 9) az w44) aN)
    have w42 : WA P 9 (opsX x) 2 (bs 21 524287) Φ t42 := WAs (an (WE V_ok 0 [] 19 (tn [0, 5, 36, 37] 10) (ac n1 (ac n2 az)) w43) aN)
    have w41 : WA P 9 (opsX x) 3 (bs 21 524271) Φ t41 := WAs (an (WE V_ok 0 [] 4 (tn [0, 5, 22, 23, 36] 10) az w42) aN)
    have w40 : WA P 9 (opsX x) 3 (bs 21 262143) Φ t40 := WAs (an (WE V_ok 0 [] 18 (tn [0, 5, 22, 23, 36] 10) az w42) aN)
    have w39 : WA P 9 (opsX x) 4 (bs 21 262127) Φ t39 := WAs (an (WE V_ok 0 [] 4 (tn [0, 5, 22, 23, 25, 35] 10) az w40) (an (WE V_ok 0 [] 18 (tn [0, 5, 21, 23, 36] 10) az w41) aN))
    have w38 : WA P 9 (opsX x) 4 (bs 21 262015) Φ t38 := WAs (an (WE V_ok 0 [] 7 (tn [0, 5, 22, 23, 25, 35] 10) az w40) aN)
    have w37 : WA P 9 (opsX x) 4 (bs 21 131071) Φ t37 := WAs (an (WE V_ok 0 [(17, hr f_plan_Push.S y10)] 17 (tn [0, 5, 22, 23, 25, 35] 10) (ac (f_plan_Push.rl e11) az) w40) aN)
    have w36 : WA P 9 (opsX x) 5 (bs 21 261999) Φ t36 := WAs (an (WE V_ok 0 [] 4 (tn [0, 5, 22, 23, 24, 35] 10) az w38) (an (WE V_ok 0 [] 7 (tn [0, 5, 21, 23, 25, 35] 10) az w39) aN))
    have w35 : WA P 9 (opsX x) 5 (bs 21 131055) Φ t35 := WAs (an (WE V_ok 0 [] 4 (tn [0, 5, 22, 23, 25, 28, 34] 10) az w37) (an (WE V_ok 0 [(17, hr f_plan_Push.S y10)] 17 (tn [0, 5, 21, 23, 25, 35] 10) (ac (f_plan_Push.rl e11) az) w39) aN))
    have w34 : WA P 9 (opsX x) 5 (bs 21 130943) Φ t34 := WAs (an (WE V_ok 0 [] 7 (tn [0, 5, 22, 23, 25, 28, 34] 10) az w37) (an (WE V_ok 0 [(17, hr f_plan_Push.S y10)] 17 (tn [0, 5, 22, 23, 24, 35] 10) (ac (f_plan_Push.rl e11) az) w38) aN))
    have w33 : WA P 9 (opsX x) 5 (bs 21 65535) Φ t33 := WAs (an (WE V_ok 0 [(16, hr f_plan_Sync.S y8)] 16 (tn [0, 5, 22, 23, 25, 28, 34] 10) (ac (f_plan_Sync.rl e9) az) w37) aN)
    have w32 : WA P 9 (opsX x) 6 (bs 21 130927) Φ t32 := WAs (an (WE V_ok 0 [] 4 (tn [0, 5, 22, 23, 24, 28, 34] 10) az w34) (an (WE V_ok 0 [] 7 (tn [0, 5, 21, 23, 25, 28, 34] 10) az w35) (an (WE V_ok 0 [(17, hr f_plan_Push.S y10)] 17 (tn [0, 5, 21, 23, 24, 35] 10) (ac (f_plan_Push.rl e11) az) w36) aN)))
    have w31 : WA P 9 (opsX x) 6 (bs 21 65519) Φ t31 := WAs (an (WE V_ok 0 [] 4 (tn [0, 5, 22, 23, 25, 28, 32, 33] 10) az w33) (an (WE V_ok 0 [(16, hr f_plan_Sync.S y8)] 16 (tn [0, 5, 21, 23, 25, 28, 34] 10) (ac (f_plan_Sync.rl e9) az) w35) aN))
    have w30 : WA P 9 (opsX x) 6 (bs 21 65407) Φ t30 := WAs (an (WE V_ok 0 [] 7 (tn [0, 5, 22, 23, 25, 28, 32, 33] 10) az w33) (an (WE V_ok 0 [(16, hr f_plan_Sync.S y8)] 16 (tn [0, 5, 22, 23, 24, 28, 34] 10) (ac (f_plan_Sync.rl e9) az) w34) aN))
    have w29 : WA P 9 (opsX x) 6 (bs 21 32767) Φ t29 := WT V_ok [] 15 (tn [0, 5, 22, 23, 25, 28, 32, 33] 10) az w33
    have w28 : WA P 9 (opsX x) 7 (bs 21 65391) Φ t28 := WAs (an (WE V_ok 0 [] 4 (tn [0, 5, 22, 23, 24, 28, 32, 33] 10) az w30) (an (WE V_ok 0 [] 7 (tn [0, 5, 21, 23, 25, 28, 32, 33] 10) az w31) (an (WE V_ok 0 [(16, hr f_plan_Sync.S y8)] 16 (tn [0, 5, 21, 23, 24, 28, 34] 10) (ac (f_plan_Sync.rl e9) az) w32) aN)))
    have w27 : WA P 9 (opsX x) 7 (bs 21 32751) Φ t27 := WT V_ok [] 15 (tn [0, 5, 21, 23, 25, 28, 32, 33] 10) az w31
    have w26 : WA P 9 (opsX x) 7 (bs 21 32639) Φ t26 := WT V_ok [] 15 (tn [0, 5, 22, 23, 24, 28, 32, 33] 10) az w30
    have w25 : WA P 9 (opsX x) 7 (bs 21 16383) Φ t25 := WT V_ok [] 14 (tn [0, 5, 22, 23, 25, 28, 31, 32] 10) az w29
    have w24 : WA P 9 (opsX x) 8 (bs 21 32623) Φ t24 := WT V_ok [] 15 (tn [0, 5, 21, 23, 24, 28, 32, 33] 10) az w28
    have w23 : WA P 9 (opsX x) 8 (bs 21 16367) Φ t23 := WT V_ok [] 14 (tn [0, 5, 21, 23, 25, 28, 31, 32] 10) az w27
    have w22 : WA P 9 (opsX x) 8 (bs 21 16255) Φ t22 := WT V_ok [] 14 (tn [0, 5, 22, 23, 24, 28, 31, 32] 10) az w26
    have w21 : WA P 9 (opsX x) 8 (bs 21 8191) Φ t21 := WAs (an (WC V_ok 13 (tn [0, 5, 22, 23, 25, 28, 31] 10) i_control_controller_live_eda.at_ (i_control_controller_live_eda.ok e7) w25) aN)
    have w20 : WA P 9 (opsX x) 9 (bs 21 16239) Φ t20 := WT V_ok [] 14 (tn [0, 5, 21, 23, 24, 28, 31, 32] 10) az w24
    have w19 : WA P 9 (opsX x) 9 (bs 21 8175) Φ t19 := WAs (an (WE V_ok 0 [] 4 (tn [0, 5, 22, 23, 25, 28, 29, 30] 10) az w21) (an (WC V_ok 13 (tn [0, 5, 21, 23, 25, 28, 31] 10) i_control_controller_live_eda.at_ (i_control_controller_live_eda.ok e7) w23) aN))
    have w18 : WA P 9 (opsX x) 9 (bs 21 8063) Φ t18 := WAs (an (WE V_ok 0 [] 7 (tn [0, 5, 22, 23, 25, 28, 29, 30] 10) az w21) (an (WC V_ok 13 (tn [0, 5, 22, 23, 24, 28, 31] 10) i_control_controller_live_eda.at_ (i_control_controller_live_eda.ok e7) w22) aN))
    have w17 : WA P 9 (opsX x) 9 (bs 21 7167) Φ t17 := WAs (an (WE V_ok 0 [(10, hr f_sess_New.S y4)] 10 (tn [0, 5, 22, 23, 25, 28, 29, 30] 10) (ac (f_sess_New.rl e5) az) w21) aN)
    have w16 : WA P 9 (opsX x) 10 (bs 21 8047) Φ t16 := WAs (an (WE V_ok 0 [] 4 (tn [0, 5, 22, 23, 24, 28, 29, 30] 10) az w18) (an (WE V_ok 0 [] 7 (tn [0, 5, 21, 23, 25, 28, 29, 30] 10) az w19) (an (WC V_ok 13 (tn [0, 5, 21, 23, 24, 28, 31] 10) i_control_controller_live_eda.at_ (i_control_controller_live_eda.ok e7) w20) aN)))
    have w15 : WA P 9 (opsX x) 10 (bs 21 7151) Φ t15 := WAs (an (WE V_ok 0 [] 4 (tn [0, 5, 22, 23, 25, 27, 29, 30] 10) az w17) (an (WE V_ok 0 [(10, hr f_sess_New.S y4)] 10 (tn [0, 5, 21, 23, 25, 28, 29, 30] 10) (ac (f_sess_New.rl e5) az) w19) aN))
    have w14 : WA P 9 (opsX x) 10 (bs 21 7039) Φ t14 := WAs (an (WE V_ok 0 [] 7 (tn [0, 5, 22, 23, 25, 27, 29, 30] 10) az w17) (an (WE V_ok 0 [(10, hr f_sess_New.S y4)] 10 (tn [0, 5, 22, 23, 24, 28, 29, 30] 10) (ac (f_sess_New.rl e5) az) w18) aN))
    have w13 : WA P 9 (opsX x) 10 (bs 21 6655) Φ t13 := WAs (an (WE V_ok 0 [] 9 (tn [0, 5, 22, 23, 25, 27, 29, 30] 10) az w17) aN)
    have w12 : WA P 9 (opsX x) 11 (bs 21 7023) Φ t12 := WAs (an (WE V_ok 0 [] 4 (tn [0, 5, 22, 23, 24, 27, 29, 30] 10) az w14) (an (WE V_ok 0 [] 7 (tn [0, 5, 21, 23, 25, 27, 29, 30] 10) az w15) (an (WE V_ok 0 [(10, hr f_sess_New.S y4)] 10 (tn [0, 5, 21, 23, 24, 28, 29, 30] 10) (ac (f_sess_New.rl e5) az) w16) aN)))
    have w11 : WA P 9 (opsX x) 11 (bs 21 6639) Φ t11 := WAs (an (WE V_ok 0 [] 4 (tn [0, 5, 22, 23, 25, 26, 29, 30] 10) az w13) (an (WE V_ok 0 [] 9 (tn [0, 5, 21, 23, 25, 27, 29, 30] 10) az w15) aN))
    have w10 : WA P 9 (opsX x) 11 (bs 21 6527) Φ t10 := WAs (an (WE V_ok 0 [] 7 (tn [0, 5, 22, 23, 25, 26, 29, 30] 10) az w13) (an (WE V_ok 0 [] 9 (tn [0, 5, 22, 23, 24, 27, 29, 30] 10) az w14) aN))
    have w9 : WA P 9 (opsX x) 12 (bs 21 6511) Φ t9 := WAs (an (WE V_ok 0 [] 4 (tn [0, 5, 22, 23, 24, 26, 29, 30] 10) az w10) (an (WE V_ok 0 [] 7 (tn [0, 5, 21, 23, 25, 26, 29, 30] 10) az w11) (an (WE V_ok 0 [] 9 (tn [0, 5, 21, 23, 24, 27, 29, 30] 10) az w12) aN)))
    have w8 : WA P 9 (opsX x) 13 (bs 21 2415) Φ t8 := WT V_ok [] 12 (tn [0, 5, 21, 23, 24, 26, 29, 30] 10) az w9
    have w7 : WA P 9 (opsX x) 14 (bs 21 367) Φ t7 := WT V_ok [] 11 (tn [0, 1, 5, 21, 23, 24, 26, 29] 10) az w8
    have w6 : WA P 9 (opsX x) 15 (bs 21 111) Φ t6 := WT V_ok [] 8 (tn [0, 1, 5, 21, 23, 24, 26] 10) az w7
    have w5 : WA P 9 (opsX x) 16 (bs 21 47) Φ t5 := WT V_ok [] 6 (tn [0, 1, 5, 21, 23, 24] 10) az w6
    have w4 : WA P 9 (opsX x) 17 (bs 21 15) Φ t4 := WT V_ok [] 5 (tn [0, 1, 5, 21, 23] 10) az w5
    have w3 : WA P 9 (opsX x) 18 (bs 21 7) Φ t3 := WT V_ok [] 3 (tn [0, 1, 5, 21] 10) az w4
    have w2 : WA P 9 (opsX x) 19 (bs 21 3) Φ t2 := WT V_ok [] 2 (tn [0, 1, 5, 20] 10) az w3
    have w1 : WA P 9 (opsX x) 20 (bs 21 1) Φ t1 := WT V_ok [] 1 (tn [0, 1, 5, 19] 10) az w2
    have w0 : WA P 9 (opsX x) 21 (bs 21 0) Φ t0 := WT V_ok [] 0 (tn [0, 1, 5, 18] 10) az w1
    exact RA V_ok 21 (by kernel_rfl) (by kernel_rfl) (by kernel_rfl) w0
  · refine C0 hb3 ?_
    obtain rfl := Option.some.inj H
    exact Lq (tn [] 9)
theorem ok {r k x1 x2 x3 x4 x5 x6 x7 x8 x9 x10 x11 x12 x13 x14 x15 x16 x17 x18 x19 x20 x21 x22 x23} (H : f k x1 x2 x3 x4 x5 x6 x7 x8 x9 x10 x11 x12 x13 x14 x15 x16 x17 x18 x19 x20 x21 x22 x23 = some r) : W P 9 c0 (s0 x1 x2 x3 x4 x5 x6 x7 x8 x9 x10 x11 x12 x13 x14 x15 x16 x17 x18 x19 x20 x21 x22 x23) (CallQ 9 (out x3 x4 x5 x6 x7 x8 x9 x10 x11 x12 x13 x14 x15 x16 x17 x18 x19 x21 x22 x23 r)) := of_G (f_ok H)
theorem at_ : FnAt P 34 38 c0 Go.Proofs.Tryz.f34.results := fnAt Go.Proofs.Tryz.func34 (by kernel_rfl) (by decide) (by kernel_rfl) (by kernel_rfl)
end i_control_controller_hello_399
/-! ### function 35, (*wayfinder/control.controller).ack, where it is called -/
namespace i_control_controller_ack_399
noncomputable def c0 : Code := (Go.Proofs.Tryz.f35.body).getD .skip
noncomputable def V : Env := { tt := tt, Γ := slk [(88, f_sess_Done.S)] }
theorem V_ok : EnvOk P V := { ck := tt_ck, fits := slk_cons f_sess_Done.fits (slk_nil), mixed := mixed }
abbrev R := (List T23b6.T) × Unit
noncomputable def s0 (x1 : Int) (x2 : T4414.T) (x3 x4 x5 x6 x7 x8 x9 x10 x11 x12 x13 x14 x15 x16 : Int) (x17 : T4414.T) (x18 : List (List (List T1383.T))) (x19 : List Int) (x20 : List T23b6.T) (x21 : List T713d.T) (x22 x23 : List Int) : St := ⟨68, [(0, .cv (.one (.ptr 1 0))), (1, .cv (.one (.i x1))), (2, .cv (.agg (encC .any T4414 x2)))], [(.box 13, [.nils, .i x3, .i x4, .i x5, .i x6, .i x7, .i x8, .nils, .nils, .nils, .nils, .nils, .i x9]), (.box 13, [.own 3, .i x10, .i x11, .i x12, .i x13, .i x14, .i x15, .own 4, .own 5, .own 6, .own 7, .own 8, .i x16]), (.box 10, (encC .any T4414 x17)), (.buf 38 (.slice (.slice T1383)) x18, []), (.buf 3 (.int .i64) x19, []), (.buf 58 T23b6 x20, []), (.buf 93 T713d x21, []), (.buf 3 (.int .i64) x22, []), (.buf 3 (.int .i64) x23, [])]⟩
noncomputable def out (x3 x4 x5 x6 x7 x8 x9 x10 x11 x12 x13 x14 x15 x16 : Int) (x17 : T4414.T) (x18 : List (List (List T1383.T))) (x19 : List Int) (x21 : List T713d.T) (x22 x23 : List Int) (r : R) : St := ⟨68, [], [(.box 13, [.nils, .i x3, .i x4, .i x5, .i x6, .i x7, .i x8, .nils, .nils, .nils, .nils, .nils, .i x9]), (.box 13, [.own 3, .i x10, .i x11, .i x12, .i x13, .i x14, .i x15, .own 4, .own 5, .own 6, .own 7, .own 8, .i x16]), (.box 10, (encC .any T4414 x17)), (.buf 38 (.slice (.slice T1383)) x18, []), (.buf 3 (.int .i64) x19, []), (.buf 58 T23b6 r.1, []), (.buf 93 T713d x21, []), (.buf 3 (.int .i64) x22, []), (.buf 3 (.int .i64) x23, [])]⟩
abbrev Q (x3 x4 x5 x6 x7 x8 x9 x10 x11 x12 x13 x14 x15 x16 : Int) (x17 : T4414.T) (x18 : List (List (List T1383.T))) (x19 : List Int) (x21 : List T713d.T) (x22 x23 : List Int) (r : R) := CallQ 9 (out x3 x4 x5 x6 x7 x8 x9 x10 x11 x12 x13 x14 x15 x16 x17 x18 x19 x21 x22 x23 r)
noncomputable def s1 (x1 : Int) (x2 : T4414.T) (x3 x4 x5 x6 x7 x8 x9 x10 x11 x12 x13 x14 x15 x16 : Int) (x17 : T4414.T) (x18 : List (List (List T1383.T))) (x19 : List Int) (x20 : List T23b6.T) (x21 : List T713d.T) (x22 x23 : List Int) (p2 : Bool) : St := ⟨68, [(5, .cv (.one (.ptr 9 0))), (6, .cv (.one (.eptr 5 T23b6 x1 0))), (50, .cv (.one (.bool p2)))], [(.box 13, [.nils, .i x3, .i x4, .i x5, .i x6, .i x7, .i x8, .nils, .nils, .nils, .nils, .nils, .i x9]), (.box 13, [.own 3, .i x10, .i x11, .i x12, .i x13, .i x14, .i x15, .own 4, .own 5, .own 6, .own 7, .own 8, .i x16]), (.box 10, (encC .any T4414 x17)), (.buf 38 (.slice (.slice T1383)) x18, []), (.buf 3 (.int .i64) x19, []), (.buf 58 T23b6 x20, []), (.buf 93 T713d x21, []), (.buf 3 (.int .i64) x22, []), (.buf 3 (.int .i64) x23, []), (.box 10, (encC .any T4414 x2))]⟩
noncomputable def j1 (x1 : Int) (x2 : T4414.T) (x3 x4 x5 x6 x7 x8 x9 x10 x11 x12 x13 x14 x15 x16 : Int) (x17 : T4414.T) (x18 : List (List (List T1383.T))) (x19 : List Int) (x20 : List T23b6.T) (x21 : List T713d.T) (x22 x23 : List Int) (k : Nat) (p2 : Bool) : Option R :=
  if p2 = true then
  (f_sess_Done.f k (((att T23b6 x20 x1).2).2) x2.2.1 x2.2.2.1).bind fun y6 =>
    some (((x20.set x1.toNat ((att T23b6 x20 x1).1, (((att T23b6 x20 x1).2).1, y6.1))).set x1.toNat ((att T23b6 (x20.set x1.toNat ((att T23b6 x20 x1).1, (((att T23b6 x20 x1).2).1, y6.1))) x1).1, (x2.2.2.2.1, (((att T23b6 (x20.set x1.toNat ((att T23b6 x20 x1).1, (((att T23b6 x20 x1).2).1, y6.1))) x1).2).2)))), ())
else
  some (x20, ())
theorem j1_ok {r x1 x2 x3 x4 x5 x6 x7 x8 x9 x10 x11 x12 x13 x14 x15 x16 x17 x18 x19 x20 x21 x22 x23} {k p2} (H : j1 x1 x2 x3 x4 x5 x6 x7 x8 x9 x10 x11 x12 x13 x14 x15 x16 x17 x18 x19 x20 x21 x22 x23 k p2 = some r) : Gw P 9 (Q x3 x4 x5 x6 x7 x8 x9 x10 x11 x12 x13 x14 x15 x16 x17 x18 x19 x21 x22 x23 r) (Px c0 31 []) (s1 x1 x2 x3 x4 x5 x6 x7 x8 x9 x10 x11 x12 x13 x14 x15 x16 x17 x18 x19 x20 x21 x22 x23 p2) := by
  unfold j1 at H
  rcases of_ite H with ⟨hb5, H⟩ | ⟨hb5, H⟩
  · refine C1 hb5 ?_
    obtain ⟨y6, e7, H⟩ := of_bind H
    refine Rg V_ok 0 [(10, hr f_sess_Done.S y6)] (ac (f_sess_Done.rl e7) az) ?_
    obtain rfl := Option.some.inj H
    exact Lq (tn [] 9)
  · refine C0 hb5 ?_
    obtain rfl := Option.some.inj H
    exact Lq (tn [] 9)
noncomputable def f (k : Nat) (x1 : Int) (x2 : T4414.T) (x3 x4 x5 x6 x7 x8 x9 x10 x11 x12 x13 x14 x15 x16 : Int) (x17 : T4414.T) (x18 : List (List (List T1383.T))) (x19 : List Int) (x20 : List T23b6.T) (x21 : List T713d.T) (x22 x23 : List Int) : Option R :=
  if 0 ≤ x1 then
    if x1 < (x20.length : Int) then
      if (x2.2.1 == ((att T23b6 x20 x1).1)) = true then
        if (decide (x2.2.2.1 ≥ (IntKind.i64.wrap ((IntKind.i64.wrap ((((((att T23b6 x20 x1).2).2).2).1) - 1)) - ((((((att T23b6 x20 x1).2).2).2).2).length : Int))))) = true then
          j1 x1 x2 x3 x4 x5 x6 x7 x8 x9 x10 x11 x12 x13 x14 x15 x16 x17 x18 x19 x20 x21 x22 x23 k (decide (x2.2.2.1 < (((((att T23b6 x20 x1).2).2).2).1)))
        else
          j1 x1 x2 x3 x4 x5 x6 x7 x8 x9 x10 x11 x12 x13 x14 x15 x16 x17 x18 x19 x20 x21 x22 x23 k false
      else
        j1 x1 x2 x3 x4 x5 x6 x7 x8 x9 x10 x11 x12 x13 x14 x15 x16 x17 x18 x19 x20 x21 x22 x23 k false
    else none
  else none
theorem f_ok {r k x1 x2 x3 x4 x5 x6 x7 x8 x9 x10 x11 x12 x13 x14 x15 x16 x17 x18 x19 x20 x21 x22 x23} (H : f k x1 x2 x3 x4 x5 x6 x7 x8 x9 x10 x11 x12 x13 x14 x15 x16 x17 x18 x19 x20 x21 x22 x23 = some r) : Gw P 9 (Q x3 x4 x5 x6 x7 x8 x9 x10 x11 x12 x13 x14 x15 x16 x17 x18 x19 x21 x22 x23 r) (Px c0 1 []) (s0 x1 x2 x3 x4 x5 x6 x7 x8 x9 x10 x11 x12 x13 x14 x15 x16 x17 x18 x19 x20 x21 x22 x23) := by
  unfold f at H
  refine Rg V_ok 1 [(0, hb 9)] az ?_
  obtain ⟨n1, H⟩ := of_if H
  obtain ⟨n2, H⟩ := of_if H
  refine Rg V_ok 0 [] (ac n1 (ac n2 az)) ?_
  refine Rg V_ok 0 [] az ?_
  rcases of_ite H with ⟨hb3, H⟩ | ⟨hb3, H⟩
  · rcases of_ite H with ⟨hb4, H⟩ | ⟨hb4, H⟩
    · refine Rg V_ok 0 [(6, {bv := some true}), (12, {bv := some true})] (ac hb3 (ac hb4 az)) ?_
      exact Jm (tn [5, 6, 50] 10) (j1_ok H)
    · refine Rg V_ok 0 [(6, {bv := some true}), (12, {bv := some false})] (ac hb3 (ac hb4 az)) ?_
      exact Jm (tn [5, 6, 50] 10) (j1_ok H)
  · refine Rg V_ok 0 [(6, {bv := some false})] (ac hb3 az) ?_
    exact Jm (tn [5, 6, 50] 10) (j1_ok H)
theorem ok {r k x1 x2 x3 x4 x5 x6 x7 x8 x9 x10 x11 x12 x13 x14 x15 x16 x17 x18 x19 x20 x21 x22 x23} (H : f k x1 x2 x3 x4 x5 x6 x7 x8 x9 x10 x11 x12 x13 x14 x15 x16 x17 x18 x19 x20 x21 x22 x23 = some r) : W P 9 c0 (s0 x1 x2 x3 x4 x5 x6 x7 x8 x9 x10 x11 x12 x13 x14 x15 x16 x17 x18 x19 x20 x21 x22 x23) (CallQ 9 (out x3 x4 x5 x6 x7 x8 x9 x10 x11 x12 x13 x14 x15 x16 x17 x18 x19 x21 x22 x23 r)) := of_G (f_ok H)
theorem at_ : FnAt P 35 68 c0 Go.Proofs.Tryz.f35.results := fnAt Go.Proofs.Tryz.func35 (by kernel_rfl) (by decide) (by kernel_rfl) (by kernel_rfl)
end i_control_controller_ack_399
/-! ### function 10, wayfinder/control.Heard -/
namespace f_control_Heard
noncomputable def c0 : Code := (Go.Proofs.Tryz.f10.body).getD .skip
abbrev ps : Sg := [(true, T26b3), (false, (.int .i64)), (false, (.slice (.int .u8)))]
abbrev rs : Sg := [(true, T26b3)]
noncomputable def V : Env := { tt := tt, Γ := slk [(27, f_frame_Open.S)] }
theorem V_ok : EnvOk P V := { ck := tt_ck, fits := slk_cons f_frame_Open.fits (slk_nil), mixed := mixed }
abbrev R := Tup rs
noncomputable abbrev Q (r : R) : Exit → St → Prop := Qr tt Go.Proofs.Tryz.f10.results ⟨ps, rs, .any, none, fun _ _ => True⟩ r
noncomputable def s1 (a2 : Int) (a3 : List Int) (p3 : Bool) (p4 p5 p6 p7 p8 p9 p10 p11 p12 p13 p14 p15 p16 p17 : Int) (p18 : List (List (List T1383.T))) (p19 : List Int) (p20 : List T23b6.T) (p21 : List T713d.T) (p22 p23 : List Int) : St := ⟨75, [(1, .cv (.one (.i a2))), (2, .cv (.one (.sl (.int .u8) a3 .any))), (6, .cv (.one (.ptr 0 0))), (7, .cv (.one (.ptr 1 0))), (28, .cv (.one (.bool p3)))], [(.box 13, [.nils, .i p4, .i p5, .i p6, .i p7, .i p8, .i p9, .nils, .nils, .nils, .nils, .nils, .i p10]), (.box 13, [.own 2, .i p11, .i p12, .i p13, .i p14, .i p15, .i p16, .own 3, .own 4, .own 5, .own 6, .own 7, .i p17]), (.buf 38 (.slice (.slice T1383)) p18, []), (.buf 3 (.int .i64) p19, []), (.buf 58 T23b6 p20, []), (.buf 93 T713d p21, []), (.buf 3 (.int .i64) p22, []), (.buf 3 (.int .i64) p23, [])]⟩
noncomputable def s3 (a2 p2 : Int) (p3 : Bool) (p4 p5 p6 p7 p8 p9 p10 p11 p12 p13 p14 p15 p16 p17 : Int) (p18 : T4414.T) (p19 : List (List (List T1383.T))) (p20 : List Int) (p21 : List T23b6.T) (p22 : List T713d.T) (p23 p24 : List Int) : St := ⟨75, [(1, .cv (.one (.i a2))), (6, .cv (.one (.ptr 0 0))), (7, .cv (.one (.ptr 1 0))), (8, .cv (.one (.ptr 2 0))), (9, .cv (.one (.i p2))), (47, .cv (.one (.bool p3)))], [(.box 13, [.nils, .i p4, .i p5, .i p6, .i p7, .i p8, .i p9, .nils, .nils, .nils, .nils, .nils, .i p10]), (.box 13, [.own 3, .i p11, .i p12, .i p13, .i p14, .i p15, .i p16, .own 4, .own 5, .own 6, .own 7, .own 8, .i p17]), (.box 10, (encC .any T4414 p18)), (.buf 38 (.slice (.slice T1383)) p19, []), (.buf 3 (.int .i64) p20, []), (.buf 58 T23b6 p21, []), (.buf 93 T713d p22, []), (.buf 3 (.int .i64) p23, []), (.buf 3 (.int .i64) p24, [])]⟩
noncomputable def s2 (p1 p2 p3 p4 p5 p6 p7 p8 p9 p10 p11 p12 p13 p14 : Int) (p15 : List (List (List T1383.T))) (p16 : List Int) (p17 : List T23b6.T) (p18 : List T713d.T) (p19 p20 : List Int) : St := ⟨75, [(6, .cv (.one (.ptr 0 0))), (7, .cv (.one (.ptr 1 0)))], [(.box 13, [.nils, .i p1, .i p2, .i p3, .i p4, .i p5, .i p6, .nils, .nils, .nils, .nils, .nils, .i p7]), (.box 13, [.own 2, .i p8, .i p9, .i p10, .i p11, .i p12, .i p13, .own 3, .own 4, .own 5, .own 6, .own 7, .i p14]), (.buf 38 (.slice (.slice T1383)) p15, []), (.buf 3 (.int .i64) p16, []), (.buf 58 T23b6 p17, []), (.buf 93 T713d p18, []), (.buf 3 (.int .i64) p19, []), (.buf 3 (.int .i64) p20, [])]⟩
noncomputable def j2 (k : Nat) (p1 p2 p3 p4 p5 p6 p7 p8 p9 p10 p11 p12 p13 p14 : Int) (p15 : List (List (List T1383.T))) (p16 : List Int) (p17 : List T23b6.T) (p18 : List T713d.T) (p19 p20 : List Int) : Option R :=
  some ((p15, (p8, (p9, (p10, (p11, (p12, (p13, (p16, (p17, (p18, (p19, (p20, p14)))))))))))), ())
theorem j2_ok {r} {k p1 p2 p3 p4 p5 p6 p7 p8 p9 p10 p11 p12 p13 p14 p15 p16 p17 p18 p19 p20} (H : j2 k p1 p2 p3 p4 p5 p6 p7 p8 p9 p10 p11 p12 p13 p14 p15 p16 p17 p18 p19 p20 = some r) : Gw P 0 (Q r) (Px c0 63 []) (s2 p1 p2 p3 p4 p5 p6 p7 p8 p9 p10 p11 p12 p13 p14 p15 p16 p17 p18 p19 p20) := by
  unfold j2 at H
  refine Rg V_ok 0 [] az ?_
  exact Lf (Eq.trans (by kernel_rfl) H)
noncomputable def s4 (a2 : Int) (p2 : Bool) (p3 p4 p5 p6 p7 p8 p9 p10 p11 p12 p13 p14 p15 p16 : Int) (p17 : T4414.T) (p18 : List (List (List T1383.T))) (p19 : List Int) (p20 : List T23b6.T) (p21 : List T713d.T) (p22 p23 : List Int) : St := ⟨75, [(1, .cv (.one (.i a2))), (6, .cv (.one (.ptr 0 0))), (7, .cv (.one (.ptr 1 0))), (8, .cv (.one (.ptr 2 0))), (59, .cv (.one (.bool p2)))], [(.box 13, [.nils, .i p3, .i p4, .i p5, .i p6, .i p7, .i p8, .nils, .nils, .nils, .nils, .nils, .i p9]), (.box 13, [.own 3, .i p10, .i p11, .i p12, .i p13, .i p14, .i p15, .own 4, .own 5, .own 6, .own 7, .own 8, .i p16]), (.box 10, (encC .any T4414 p17)), (.buf 38 (.slice (.slice T1383)) p18, []), (.buf 3 (.int .i64) p19, []), (.buf 58 T23b6 p20, []), (.buf 93 T713d p21, []), (.buf 3 (.int .i64) p22, []), (.buf 3 (.int .i64) p23, [])]⟩
noncomputable def j4 (a2 : Int) (k : Nat) (p2 : Bool) (p3 p4 p5 p6 p7 p8 p9 p10 p11 p12 p13 p14 p15 p16 : Int) (p17 : T4414.T) (p18 : List (List (List T1383.T))) (p19 : List Int) (p20 : List T23b6.T) (p21 : List T713d.T) (p22 p23 : List Int) : Option R :=
  if p2 = true then
  (i_control_controller_ack_399.f k a2 p17 p3 p4 p5 p6 p7 p8 p9 p10 p11 p12 p13 p14 p15 p16 p17 p18 p19 p20 p21 p22 p23).bind fun y15 =>
    j2 k p3 p4 p5 p6 p7 p8 p9 p10 p11 p12 p13 p14 p15 p16 p18 p19 y15.1 p21 p22 p23
else
  j2 k p3 p4 p5 p6 p7 p8 p9 p10 p11 p12 p13 p14 p15 (IntKind.i64.wrap (p16 + 1)) p18 p19 p20 p21 p22 p23
theorem j4_ok {r a2} {k p2 p3 p4 p5 p6 p7 p8 p9 p10 p11 p12 p13 p14 p15 p16 p17 p18 p19 p20 p21 p22 p23} (H : j4 a2 k p2 p3 p4 p5 p6 p7 p8 p9 p10 p11 p12 p13 p14 p15 p16 p17 p18 p19 p20 p21 p22 p23 = some r) : Gw P 0 (Q r) (Px c0 975 []) (s4 a2 p2 p3 p4 p5 p6 p7 p8 p9 p10 p11 p12 p13 p14 p15 p16 p17 p18 p19 p20 p21 p22 p23) := by
  unfold j4 at H
  rcases of_ite H with ⟨hb14, H⟩ | ⟨hb14, H⟩
  · refine C1 hb14 ?_
    refine GT (tn [1, 6, 7, 8] 9) (RI ?_)
    refine EV V_ok 0 [] 3 az ?_
    obtain ⟨y15, e16, H⟩ := of_bind H
    refine CL V_ok i_control_controller_ack_399.at_ (i_control_controller_ack_399.ok e16) ?_
    refine RN ?_
    exact Jm (tl [6, 7] [0, 1, 3, 4, 5, 6, 7, 8]) (j2_ok H)
  · refine C0 hb14 ?_
    refine Rg V_ok 0 [] az ?_
    exact Jm (tl [6, 7] [0, 1, 3, 4, 5, 6, 7, 8]) (j2_ok H)
noncomputable def j3 (a2 : Int) (k : Nat) (p2 : Int) (p3 : Bool) (p4 p5 p6 p7 p8 p9 p10 p11 p12 p13 p14 p15 p16 p17 : Int) (p18 : T4414.T) (p19 : List (List (List T1383.T))) (p20 : List Int) (p21 : List T23b6.T) (p22 : List T713d.T) (p23 p24 : List Int) : Option R :=
  if p3 = true then
  (i_control_controller_hello_399.f k a2 p18 p4 p5 p6 p7 p8 p9 p10 p11 p12 p13 p14 p15 p16 p17 p18 p19 p20 p21 p22 p23 p24).bind fun y11 =>
    j2 k p4 p5 p6 p7 p8 p9 p10 p11 p12 p13 p14 p15 p16 p17 p19 p20 y11.1 p22 p23 p24
else
  if (p2 == (0 : Int)) = true then
    j4 a2 k (p18.1 == (1 : Int)) p4 p5 p6 p7 p8 p9 p10 p11 p12 p13 p14 p15 p16 p17 p18 p19 p20 p21 p22 p23 p24
  else
    j4 a2 k false p4 p5 p6 p7 p8 p9 p10 p11 p12 p13 p14 p15 p16 p17 p18 p19 p20 p21 p22 p23 p24
theorem j3_ok {r a2} {k p2 p3 p4 p5 p6 p7 p8 p9 p10 p11 p12 p13 p14 p15 p16 p17 p18 p19 p20 p21 p22 p23 p24} (H : j3 a2 k p2 p3 p4 p5 p6 p7 p8 p9 p10 p11 p12 p13 p14 p15 p16 p17 p18 p19 p20 p21 p22 p23 p24 = some r) : Gw P 0 (Q r) (Px c0 207 []) (s3 a2 p2 p3 p4 p5 p6 p7 p8 p9 p10 p11 p12 p13 p14 p15 p16 p17 p18 p19 p20 p21 p22 p23 p24) := by
  unfold j3 at H
  rcases of_ite H with ⟨hb10, H⟩ | ⟨hb10, H⟩
  · refine C1 hb10 ?_
    refine GT (tn [1, 6, 7, 8] 9) (RI ?_)
    refine EV V_ok 0 [] 3 az ?_
    obtain ⟨y11, e12, H⟩ := of_bind H
    refine CL V_ok i_control_controller_hello_399.at_ (i_control_controller_hello_399.ok e12) ?_
    refine RN ?_
    exact Jm (tl [6, 7] [0, 1, 3, 4, 5, 6, 7, 8]) (j2_ok H)
  · refine C0 hb10 ?_
    rcases of_ite H with ⟨hb13, H⟩ | ⟨hb13, H⟩
    · refine Rg V_ok 0 [(1, {bv := some true})] (ac hb13 az) ?_
      exact Jm (tn [1, 6, 7, 8, 59] 9) (j4_ok H)
    · refine Rg V_ok 0 [(1, {bv := some false})] (ac hb13 az) ?_
      exact Jm (tn [1, 6, 7, 8, 59] 9) (j4_ok H)
noncomputable def j1 (a2 : Int) (a3 : List Int) (k : Nat) (p3 : Bool) (p4 p5 p6 p7 p8 p9 p10 p11 p12 p13 p14 p15 p16 p17 : Int) (p18 : List (List (List T1383.T))) (p19 : List Int) (p20 : List T23b6.T) (p21 : List T713d.T) (p22 p23 : List Int) : Option R :=
  if p3 = true then
  some ((p18, (p11, (p12, (p13, (p14, (p15, (p16, (p19, (p20, (p21, (p22, (p23, p17)))))))))))), ())
else
  (f_frame_Open.f k a3).bind fun y7 =>
    if (y7.2.1 == (0 : Int)) = true then
      j3 a2 k y7.2.1 (y7.1.1 == (0 : Int)) p4 p5 p6 p7 p8 p9 p10 p11 p12 p13 p14 p15 p16 p17 y7.1 p18 p19 p20 p21 p22 p23
    else
      j3 a2 k y7.2.1 false p4 p5 p6 p7 p8 p9 p10 p11 p12 p13 p14 p15 p16 p17 y7.1 p18 p19 p20 p21 p22 p23
theorem j1_ok {r a2 a3} {k p3 p4 p5 p6 p7 p8 p9 p10 p11 p12 p13 p14 p15 p16 p17 p18 p19 p20 p21 p22 p23} (H : j1 a2 a3 k p3 p4 p5 p6 p7 p8 p9 p10 p11 p12 p13 p14 p15 p16 p17 p18 p19 p20 p21 p22 p23 = some r) : Gw P 0 (Q r) (Px c0 27 []) (s1 a2 a3 p3 p4 p5 p6 p7 p8 p9 p10 p11 p12 p13 p14 p15 p16 p17 p18 p19 p20 p21 p22 p23) := by
  unfold j1 at H
  rcases of_ite H with ⟨hb6, H⟩ | ⟨hb6, H⟩
  · refine C1 hb6 ?_
    refine Rg V_ok 0 [] az ?_
    exact Lf (Eq.trans (by kernel_rfl) H)
  · refine C0 hb6 ?_
    obtain ⟨y7, e8, H⟩ := of_bind H
    refine Rg V_ok 1 [(1, hr f_frame_Open.S y7), (5, hb 8)] (ac (f_frame_Open.rl e8) az) ?_
    rcases of_ite H with ⟨hb9, H⟩ | ⟨hb9, H⟩
    · refine Rg V_ok 0 [(1, {bv := some true})] (ac hb9 az) ?_
      exact Jm (tl [1, 6, 7, 8, 9, 47] [0, 1, 8, 2, 3, 4, 5, 6, 7]) (j3_ok H)
    · refine Rg V_ok 0 [(1, {bv := some false})] (ac hb9 az) ?_
      exact Jm (tl [1, 6, 7, 8, 9, 47] [0, 1, 8, 2, 3, 4, 5, 6, 7]) (j3_ok H)
noncomputable def f (k : Nat) (a1 : T26b3.T) (a2 : Int) (a3 : List Int) : Option R :=
  (i_control_own_776m.f k a1 a1 (0 : Int) (0 : Int) (0 : Int) (0 : Int) (0 : Int) (0 : Int) (0 : Int)).bind fun y1 =>
    (i_control_controller_is_559.f k (0 : Int) (0 : Int) (0 : Int) (0 : Int) (0 : Int) (0 : Int) (0 : Int) y1.1 y1.2.1 y1.2.2.1 y1.2.2.2.1 y1.2.2.2.2.1 y1.2.2.2.2.2.1 y1.2.2.2.2.2.2.1 y1.2.2.2.2.2.2.2.1 y1.2.2.2.2.2.2.2.2.1 y1.2.2.2.2.2.2.2.2.2.1 y1.2.2.2.2.2.2.2.2.2.2.1 y1.2.2.2.2.2.2.2.2.2.2.2.1 y1.2.2.2.2.2.2.2.2.2.2.2.2.1).bind fun y3 =>
      if (!y3.1) = true then
        j1 a2 a3 k true (0 : Int) (0 : Int) (0 : Int) (0 : Int) (0 : Int) (0 : Int) (0 : Int) y1.1 y1.2.1 y1.2.2.1 y1.2.2.2.1 y1.2.2.2.2.1 y1.2.2.2.2.2.1 y1.2.2.2.2.2.2.1 y1.2.2.2.2.2.2.2.1 y1.2.2.2.2.2.2.2.2.1 y1.2.2.2.2.2.2.2.2.2.1 y1.2.2.2.2.2.2.2.2.2.2.1 y1.2.2.2.2.2.2.2.2.2.2.2.1 y1.2.2.2.2.2.2.2.2.2.2.2.2.1
      else
        if (decide (a2 < (0 : Int))) = true then
          j1 a2 a3 k true (0 : Int) (0 : Int) (0 : Int) (0 : Int) (0 : Int) (0 : Int) (0 : Int) y1.1 y1.2.1 y1.2.2.1 y1.2.2.2.1 y1.2.2.2.2.1 y1.2.2.2.2.2.1 y1.2.2.2.2.2.2.1 y1.2.2.2.2.2.2.2.1 y1.2.2.2.2.2.2.2.2.1 y1.2.2.2.2.2.2.2.2.2.1 y1.2.2.2.2.2.2.2.2.2.2.1 y1.2.2.2.2.2.2.2.2.2.2.2.1 y1.2.2.2.2.2.2.2.2.2.2.2.2.1
        else
          j1 a2 a3 k (decide (a2 ≥ (y1.2.2.2.2.2.2.2.2.2.1.length : Int))) (0 : Int) (0 : Int) (0 : Int) (0 : Int) (0 : Int) (0 : Int) (0 : Int) y1.1 y1.2.1 y1.2.2.1 y1.2.2.2.1 y1.2.2.2.2.1 y1.2.2.2.2.2.1 y1.2.2.2.2.2.2.1 y1.2.2.2.2.2.2.2.1 y1.2.2.2.2.2.2.2.2.1 y1.2.2.2.2.2.2.2.2.2.1 y1.2.2.2.2.2.2.2.2.2.2.1 y1.2.2.2.2.2.2.2.2.2.2.2.1 y1.2.2.2.2.2.2.2.2.2.2.2.2.1
noncomputable def S : Spec := ⟨ps, rs, .any, none, fun x r => ∃ k, f k x.1 x.2.1 x.2.2.1 = some r⟩
theorem rl {k a1 a2 a3 r} (e : f k a1 a2 a3 = some r) : S.rel (a1, a2, a3, ()) r := ⟨k, e⟩
theorem f_ok {r k a1 a2 a3} (H : f k a1 a2 a3 = some r) : Gw P 0 (Q r) (Px c0 1 []) (⟨75, [(0, .cv (.agg (encC .any T26b3 a1))), (1, .cv (.one (.i a2))), (2, .cv (.one (.sl (.int .u8) a3 .any)))], []⟩) := by
  unfold f at H
  refine Rg V_ok 2 [(0, hb 0), (1, hb 1)] az ?_
  refine GT (tn [1, 2, 3, 6] 2) (RI ?_)
  refine EV V_ok 0 [] 1 az ?_
  obtain ⟨y1, e2, H⟩ := of_bind H
  refine CL V_ok i_control_own_776m.at_ (i_control_own_776m.ok e2) ?_
  refine EV V_ok 0 [] 1 az ?_
  refine RN ?_
  refine GT (tl [1, 2, 6, 7] [1, 2, 3, 4, 5, 6, 7, 8]) (RI ?_)
  refine EV V_ok 0 [] 1 az ?_
  obtain ⟨y3, e4, H⟩ := of_bind H
  refine CL V_ok i_control_controller_is_559.at_ (i_control_controller_is_559.ok e4) ?_
  refine EV V_ok 0 [] 2 az ?_
  rcases of_ite H with ⟨hb5, H⟩ | ⟨hb5, H⟩
  · refine FXO 15 hb5 ?_
    refine EV V_ok 0 [] 4 az ?_
    refine EV V_ok 0 [] 9 az ?_
    refine RN ?_
    exact Jm (tn [1, 2, 6, 7, 28] 8) (j1_ok H)
  · refine FXO 15 hb5 ?_
    refine EV V_ok 0 [] 4 az ?_
    rcases of_ite H with ⟨hb17, H⟩ | ⟨hb17, H⟩
    · refine FXO 19 hb17 ?_
      refine EV V_ok 0 [] 9 az ?_
      refine RN ?_
      exact Jm (tn [1, 2, 6, 7, 28] 8) (j1_ok H)
    · refine FXO 19 hb17 ?_
      refine EV V_ok 0 [] 9 az ?_
      refine RN ?_
      exact Jm (tn [1, 2, 6, 7, 28] 8) (j1_ok H)
theorem fits : Fits P 10 S := fits_of V_ok Go.Proofs.Tryz.func10 (by kernel_rfl) (by decide) (by decide) rfl (fun x r ⟨k, H⟩ => of_G (f_ok H))
end f_control_Heard
/-! ### function 56, wayfinder/sess.First -/
namespace f_sess_First
noncomputable def c0 : Code := (Go.Proofs.Tryz.f56.body).getD .skip
abbrev ps : Sg := [(true, Tb104), (false, (.int .i64))]
abbrev rs : Sg := [(false, (.slice T4414))]
noncomputable def V : Env := { tt := tt, Γ := slk [(79, f_slices_Clone_Msg.S)] }
theorem V_ok : EnvOk P V := { ck := tt_ck, fits := slk_cons f_slices_Clone_Msg.fits (slk_nil), mixed := mixed }
abbrev R := Tup rs
noncomputable abbrev Q (r : R) : Exit → St → Prop := Qr tt Go.Proofs.Tryz.f56.results ⟨ps, rs, .any, none, fun _ _ => True⟩ r
noncomputable def f (k : Nat) (a1 : Tb104.T) (a2 : Int) : Option R :=
  if 0 ≤ (0 : Int) ∧ (0 : Int) ≤ (if (a1.2.2.length : Int) < (if 0 > a2 then 0 else a2) then (a1.2.2.length : Int) else (if 0 > a2 then 0 else a2)) ∧ (if (a1.2.2.length : Int) < (if 0 > a2 then 0 else a2) then (a1.2.2.length : Int) else (if 0 > a2 then 0 else a2)) ≤ (a1.2.2.length : Int) then
    (f_slices_Clone_Msg.f k ((a1.2.2.take (if (a1.2.2.length : Int) < (if 0 > a2 then 0 else a2) then (a1.2.2.length : Int) else (if 0 > a2 then 0 else a2)).toNat).drop (0 : Int).toNat)).bind fun y1 =>
      some (y1.1, ())
  else none
noncomputable def S : Spec := ⟨ps, rs, .any, none, fun x r => ∃ k, f k x.1 x.2.1 = some r⟩
theorem rl {k a1 a2 r} (e : f k a1 a2 = some r) : S.rel (a1, a2, ()) r := ⟨k, e⟩
theorem f_ok {r k a1 a2} (H : f k a1 a2 = some r) : Gw P 0 (Q r) (Px c0 1 []) (⟨15, [(0, .cv (.agg (encC .any Tb104 a1))), (1, .cv (.one (.i a2)))], []⟩) := by
  unfold f at H
  refine Rg V_ok 1 [(0, hb 0)] az ?_
  obtain ⟨n2, H⟩ := of_if H
  obtain ⟨y1, e3, H⟩ := of_bind H
  refine Rg V_ok 0 [(9, hr f_slices_Clone_Msg.S y1)] (ac n2 (ac (f_slices_Clone_Msg.rl e3) az)) ?_
  exact Lf (Eq.trans (by kernel_rfl) H)
theorem fits : Fits P 56 S := fits_of V_ok Go.Proofs.Tryz.func56 (by kernel_rfl) (by decide) (by decide) rfl (fun x r ⟨k, H⟩ => of_G (f_ok H))
end f_sess_First
/-! ### function 83, (*wayfinder/control.controller).two, where it is called -/
namespace i_control_controller_two_0d3
noncomputable def c0 : Code := (Go.Proofs.Tryz.f83.body).getD .skip
noncomputable def V : Env := { tt := tt, Γ := slk [(119, f_slices_Contains_int.S)] }
theorem V_ok : EnvOk P V := { ck := tt_ck, fits := slk_cons f_slices_Contains_int.fits (slk_nil), mixed := mixed }
abbrev R := (Bool) × Unit
noncomputable def s0 (x1 x2 : T26b3.T) : St := ⟨10, [(0, .cv (.one (.ptr 1 0)))], [(.box 13, (encC .any T26b3 x1)), (.box 13, (encC .any T26b3 x2)), (.box 1, [.ptr 1 0])]⟩
noncomputable def out (x1 x2 : T26b3.T) (r : R) : St := ⟨10, [(2, .cv (.one (.bool r.1)))], [(.box 13, (encC .any T26b3 x1)), (.box 13, (encC .any T26b3 x2)), (.box 1, [.ptr 1 0])]⟩
abbrev Q (x1 x2 : T26b3.T) (r : R) := CallQ 3 (out x1 x2 r)
noncomputable def f (k : Nat) (x1 x2 : T26b3.T) : Option R :=
  (f_slices_Contains_int.f k [1, 2, 3] x2.2.2.2.2.2.1).bind fun y1 =>
    some (y1.1, ())
theorem f_ok {r k x1 x2} (H : f k x1 x2 = some r) : Gw P 3 (Q x1 x2 r) (Px c0 1 []) (s0 x1 x2) := by
  unfold f at H
  refine Rg V_ok 0 [] az ?_
  obtain ⟨y1, e2, H⟩ := of_bind H
  refine Rg V_ok 0 [(6, hr f_slices_Contains_int.S y1)] (ac (f_slices_Contains_int.rl e2) az) ?_
  obtain rfl := Option.some.inj H
  exact Lq (tn [2] 3)
theorem ok {r k x1 x2} (H : f k x1 x2 = some r) : W P 3 c0 (s0 x1 x2) (CallQ 3 (out x1 x2 r)) := of_G (f_ok H)
theorem at_ : FnAt P 83 10 c0 Go.Proofs.Tryz.f83.results := fnAt Go.Proofs.Tryz.func83 (by kernel_rfl) (by decide) (by kernel_rfl) (by kernel_rfl)
end i_control_controller_two_0d3
/-! ### function 82, (*wayfinder/control.controller).is$1, where it is called -/
namespace i_control_controller_is_1_91e
noncomputable def c0 : Code := (Go.Proofs.Tryz.f82.body).getD .skip
noncomputable def V : Env := { tt := tt, Γ := slk [] }
theorem V_ok : EnvOk P V := { ck := tt_ck, fits := slk_nil, mixed := mixed }
abbrev R := (Bool) × Unit
noncomputable def s0 (x1 : Int) (x2 x3 : T26b3.T) : St := ⟨16, [(0, .cv (.one (.i x1))), (1, .cv (.one (.ptr 2 0)))], [(.box 13, (encC .any T26b3 x2)), (.box 13, (encC .any T26b3 x3)), (.box 1, [.ptr 1 0])]⟩
noncomputable def out (x2 x3 : T26b3.T) (r : R) : St := ⟨16, [(3, .cv (.one (.bool r.1)))], [(.box 13, (encC .any T26b3 x2)), (.box 13, (encC .any T26b3 x3)), (.box 1, [.ptr 1 0])]⟩
abbrev Q (x2 x3 : T26b3.T) (r : R) := CallQ 3 (out x2 x3 r)
noncomputable def f (k : Nat) (x1 : Int) (x2 x3 : T26b3.T) : Option R :=
  if (decide (x1 < (0 : Int))) = true then
    some (true, ())
  else
    some ((decide (x1 ≥ (x3.1.length : Int))), ())
theorem f_ok {r k x1 x2 x3} (H : f k x1 x2 x3 = some r) : Gw P 3 (Q x2 x3 r) (Px c0 1 []) (s0 x1 x2 x3) := by
  unfold f at H
  refine Rg V_ok 0 [] az ?_
  rcases of_ite H with ⟨hb1, H⟩ | ⟨hb1, H⟩
  · refine Rg V_ok 0 [(1, {bv := some true})] (ac hb1 az) ?_
    obtain rfl := Option.some.inj H
    exact Lq (tn [3] 3)
  · refine Rg V_ok 0 [(1, {bv := some false})] (ac hb1 az) ?_
    obtain rfl := Option.some.inj H
    exact Lq (tn [3] 3)
theorem ok {r k x1 x2 x3} (H : f k x1 x2 x3 = some r) : W P 3 c0 (s0 x1 x2 x3) (CallQ 3 (out x2 x3 r)) := of_G (f_ok H)
theorem at_ : FnAt P 82 16 c0 Go.Proofs.Tryz.f82.results := fnAt Go.Proofs.Tryz.func82 (by kernel_rfl) (by decide) (by kernel_rfl) (by kernel_rfl)
end i_control_controller_is_1_91e
/-! ### function 120, slices.IndexFunc[[]int,int], where it is called -/
namespace i_slices_IndexFunc_int_da8
noncomputable def c0 : Code := (Go.Proofs.Tryz.f120.body).getD .skip
noncomputable def V : Env := { tt := tt, Γ := slk [] }
theorem V_ok : EnvOk P V := { ck := tt_ck, fits := slk_nil, mixed := mixed }
abbrev R := (Int) × Unit
noncomputable def s0 (x1 : List Int) (x2 x3 : T26b3.T) : St := ⟨19, [(0, .cv (.one (.sl (.int .i64) x1 .any))), (1, .cv (.one (.fn 82 [] [(2, 0)])))], [(.box 13, (encC .any T26b3 x2)), (.box 13, (encC .any T26b3 x3)), (.box 1, [.ptr 1 0])]⟩
noncomputable def out (x2 x3 : T26b3.T) (r : R) : St := ⟨19, [(4, .cv (.one (.i r.1)))], [(.box 13, (encC .any T26b3 x2)), (.box 13, (encC .any T26b3 x3)), (.box 1, [.ptr 1 0])]⟩
abbrev Q (x2 x3 : T26b3.T) (r : R) := CallQ 3 (out x2 x3 r)
noncomputable def s1 (x1 : List Int) (x2 x3 : T26b3.T) (p2 p3 : Int) : St := ⟨19, [(0, .cv (.one (.sl (.int .i64) x1 .any))), (1, .cv (.one (.fn 82 [] [(2, 0)]))), (7, .cv (.one (.i p2))), (8, .cv (.one (.i p3)))], [(.box 13, (encC .any T26b3 x2)), (.box 13, (encC .any T26b3 x3)), (.box 1, [.ptr 1 0])]⟩
noncomputable def b1 (x1 : List Int) (x2 x3 : T26b3.T) (L1 : Int → Int → Option R) (k : Nat) (p2 p3 : Int) : Option R :=
  if (decide (p3 < p2)) = true then
  if 0 ≤ p3 then
    if p3 < (x1.length : Int) then
      (i_control_controller_is_1_91e.f k (att (.int .i64) x1 p3) x2 x3).bind fun y4 =>
        if y4.1 = true then
          some (p3, ())
        else
          L1 p2 (IntKind.i64.wrap (p3 + 1))
    else none
  else none
else
  some ((-1), ())
theorem b1_ok {r x1 x2 x3} {L1 : Int → Int → Option R} {m1 : Nat} (hL1 : ∀ p2 p3, L1 p2 p3 = some r → Gw P 3 (Q x2 x3 r) (Pb c0 21 [] m1) (s1 x1 x2 x3 p2 p3)) {k p2 p3} (H : b1 x1 x2 x3 L1 k p2 p3 = some r) : Gw P 3 (Q x2 x3 r) (Px c0 37 [m1]) (s1 x1 x2 x3 p2 p3) := by
  unfold b1 at H
  refine Rg V_ok 0 [] az ?_
  rcases of_ite H with ⟨hb1, H⟩ | ⟨hb1, H⟩
  · refine C1 hb1 ?_
    refine Rg V_ok 0 [] az ?_
    refine GT (tn [0, 1, 5, 7, 8] 3) (RI ?_)
    obtain ⟨n2, H⟩ := of_if H
    obtain ⟨n3, H⟩ := of_if H
    refine EV V_ok 0 [] 5 (ac n2 (ac n3 az)) ?_
    obtain ⟨y4, e5, H⟩ := of_bind H
    refine CL V_ok i_control_controller_is_1_91e.at_ (i_control_controller_is_1_91e.ok e5) ?_
    refine RN ?_
    rcases of_ite H with ⟨hb6, H⟩ | ⟨hb6, H⟩
    · refine C1 hb6 ?_
      refine Rg V_ok 0 [] az ?_
      obtain rfl := Option.some.inj H
      exact Lq (tn [4] 3)
    · refine C0 hb6 ?_
      refine Rg V_ok 0 [] az ?_
      exact Jm (tn [0, 1, 7, 8] 3) (hL1 p2 (IntKind.i64.wrap (p3 + 1)) H)
  · refine C0 hb1 ?_
    refine Rg V_ok 0 [] az ?_
    obtain rfl := Option.some.inj H
    exact Lq (tn [4] 3)
noncomputable def l1 (x1 : List Int) (x2 x3 : T26b3.T) (k : Nat) : Nat → Int → Int → Option R
  | 0, _, _ => none
  | m + 1, p2, p3 => b1 x1 x2 x3 (l1 x1 x2 x3 k m) k p2 p3
theorem l1_ok {r x1 x2 x3} (k : Nat) : ∀ (m1 : Nat) (p2 : Int) (p3 : Int), l1 x1 x2 x3 k m1 p2 p3 = some r → Gw P 3 (Q x2 x3 r) (Pb c0 21 [] m1) (s1 x1 x2 x3 p2 p3)
  | 0, _, _, H => by cases H
  | m1 + 1, p2, p3, H => SU (by kernel_rfl) (b1_ok (l1_ok k m1) H)
noncomputable def f (k : Nat) (x1 : List Int) (x2 x3 : T26b3.T) : Option R :=
  l1 x1 x2 x3 k k (x1.length : Int) 0
theorem f_ok {r k x1 x2 x3} (H : f k x1 x2 x3 = some r) : Gw P 3 (Q x2 x3 r) (Px c0 1 []) (s0 x1 x2 x3) := by
  unfold f at H
  refine Rg V_ok 0 [] az ?_
  refine Rg V_ok 0 [] az ?_
  exact LP k (Jm (tn [0, 1, 7, 8] 3) (l1_ok k k (x1.length : Int) 0 H))
theorem ok {r k x1 x2 x3} (H : f k x1 x2 x3 = some r) : W P 3 c0 (s0 x1 x2 x3) (CallQ 3 (out x2 x3 r)) := of_G (f_ok H)
theorem at_ : FnAt P 120 19 c0 Go.Proofs.Tryz.f120.results := fnAt Go.Proofs.Tryz.func120 (by kernel_rfl) (by decide) (by kernel_rfl) (by kernel_rfl)
end i_slices_IndexFunc_int_da8
/-! ### function 84, slices.ContainsFunc[[]int,int], where it is called -/
namespace i_slices_ContainsFunc_int_da8
noncomputable def c0 : Code := (Go.Proofs.Tryz.f84.body).getD .skip
noncomputable def V : Env := { tt := tt, Γ := slk [] }
theorem V_ok : EnvOk P V := { ck := tt_ck, fits := slk_nil, mixed := mixed }
abbrev R := (Bool) × Unit
noncomputable def s0 (x1 : List Int) (x2 x3 : T26b3.T) : St := ⟨9, [(0, .cv (.one (.sl (.int .i64) x1 .any))), (1, .cv (.one (.fn 82 [] [(2, 0)])))], [(.box 13, (encC .any T26b3 x2)), (.box 13, (encC .any T26b3 x3)), (.box 1, [.ptr 1 0])]⟩
noncomputable def out (x2 x3 : T26b3.T) (r : R) : St := ⟨9, [(4, .cv (.one (.bool r.1)))], [(.box 13, (encC .any T26b3 x2)), (.box 13, (encC .any T26b3 x3)), (.box 1, [.ptr 1 0])]⟩
abbrev Q (x2 x3 : T26b3.T) (r : R) := CallQ 3 (out x2 x3 r)
noncomputable def f (k : Nat) (x1 : List Int) (x2 x3 : T26b3.T) : Option R :=
  (i_slices_IndexFunc_int_da8.f k x1 x2 x3).bind fun y1 =>
    some ((decide (y1.1 ≥ (0 : Int))), ())
theorem f_ok {r k x1 x2 x3} (H : f k x1 x2 x3 = some r) : Gw P 3 (Q x2 x3 r) (Px c0 1 []) (s0 x1 x2 x3) := by
  unfold f at H
  refine Rg V_ok 0 [] az ?_
  refine GT (tn [0, 1] 3) (RI ?_)
  refine EV V_ok 0 [] 2 az ?_
  obtain ⟨y1, e2, H⟩ := of_bind H
  refine CL V_ok i_slices_IndexFunc_int_da8.at_ (i_slices_IndexFunc_int_da8.ok e2) ?_
  refine EV V_ok 0 [] 2 az ?_
  refine RN ?_
  obtain rfl := Option.some.inj H
  exact Lq (tn [4] 3)
theorem ok {r k x1 x2 x3} (H : f k x1 x2 x3 = some r) : W P 3 c0 (s0 x1 x2 x3) (CallQ 3 (out x2 x3 r)) := of_G (f_ok H)
theorem at_ : FnAt P 84 9 c0 Go.Proofs.Tryz.f84.results := fnAt Go.Proofs.Tryz.func84 (by kernel_rfl) (by decide) (by kernel_rfl) (by kernel_rfl)
end i_slices_ContainsFunc_int_da8
/-! ### function 33, (*wayfinder/control.controller).is, where it is called -/
namespace i_control_controller_is_023
noncomputable def c0 : Code := (Go.Proofs.Tryz.f33.body).getD .skip
noncomputable def V : Env := { tt := tt, Γ := slk [] }
theorem V_ok : EnvOk P V := { ck := tt_ck, fits := slk_nil, mixed := mixed }
abbrev R := (Bool) × Unit
noncomputable def s0 (x1 x2 : T26b3.T) : St := ⟨57, [(0, .cv (.one (.ptr 1 0)))], [(.box 13, (encC .any T26b3 x1)), (.box 13, (encC .any T26b3 x2))]⟩
noncomputable def out (x1 x2 : T26b3.T) (r : R) : St := ⟨57, [(2, .cv (.one (.bool r.1)))], [(.box 13, (encC .any T26b3 x1)), (.box 13, (encC .any T26b3 x2))]⟩
abbrev Q (x1 x2 : T26b3.T) (r : R) := CallQ 2 (out x1 x2 r)
noncomputable def s1 (x1 x2 : T26b3.T) (p1 : Bool) : St := ⟨57, [(1, .cv (.one (.ptr 2 0))), (3, .cv (.one (.fn 82 [] [(2, 0)]))), (4, .cv (.one (.bool p1)))], [(.box 13, (encC .any T26b3 x1)), (.box 13, (encC .any T26b3 x2)), (.box 1, [.ptr 1 0])]⟩
noncomputable def j1 (x1 x2 : T26b3.T) (k : Nat) (p1 : Bool) : Option R :=
  if p1 = true then
  (i_control_controller_is_1_91e.f k x2.2.1 x1 x2).bind fun y6 =>
    if (!y6.1) = true then
      (i_slices_ContainsFunc_int_da8.f k x2.2.2.2.2.2.2.2.1 x1 x2).bind fun y9 =>
        if (!y9.1) = true then
          some ((decide ((x2.2.2.2.2.2.2.2.2.1.length : Int) ≤ (100 : Int))), ())
        else
          some (false, ())
    else
      some (false, ())
else
  some (false, ())
theorem j1_ok {r x1 x2} {k p1} (H : j1 x1 x2 k p1 = some r) : Gw P 2 (Q x1 x2 r) (Px c0 15 []) (s1 x1 x2 p1) := by
  unfold j1 at H
  refine GT (tn [1, 3, 4] 3) (RI ?_)
  refine EV V_ok 0 [] 2 az ?_
  rcases of_ite H with ⟨hb5, H⟩ | ⟨hb5, H⟩
  · refine FXO 28 hb5 ?_
    refine EV V_ok 0 [] 6 az ?_
    obtain ⟨y6, e7, H⟩ := of_bind H
    refine CL V_ok i_control_controller_is_1_91e.at_ (i_control_controller_is_1_91e.ok e7) ?_
    refine EV V_ok 0 [] 3 az ?_
    rcases of_ite H with ⟨hb8, H⟩ | ⟨hb8, H⟩
    · refine FXO 38 hb8 ?_
      refine EV V_ok 0 [] 6 az ?_
      obtain ⟨y9, e10, H⟩ := of_bind H
      refine CL V_ok i_slices_ContainsFunc_int_da8.at_ (i_slices_ContainsFunc_int_da8.ok e10) ?_
      refine EV V_ok 0 [] 3 az ?_
      rcases of_ite H with ⟨hb11, H⟩ | ⟨hb11, H⟩
      · refine FXO 48 hb11 ?_
        refine EV V_ok 0 [] 9 az ?_
        refine RN ?_
        obtain rfl := Option.some.inj H
        exact Lq (tn [2] 2)
      · refine FXO 48 hb11 ?_
        refine EV V_ok 0 [] 9 az ?_
        refine RN ?_
        obtain rfl := Option.some.inj H
        exact Lq (tn [2] 2)
    · refine FXO 38 hb8 ?_
      refine EV V_ok 0 [] 10 az ?_
      refine EV V_ok 0 [] 9 az ?_
      refine RN ?_
      obtain rfl := Option.some.inj H
      exact Lq (tn [2] 2)
  · refine FXO 28 hb5 ?_
    refine EV V_ok 0 [] 10 az ?_
    refine EV V_ok 0 [] 10 az ?_
    refine EV V_ok 0 [] 9 az ?_
    refine RN ?_
    obtain rfl := Option.some.inj H
    exact Lq (tn [2] 2)
noncomputable def f (k : Nat) (x1 x2 : T26b3.T) : Option R :=
  if (x2.2.2.1 == (-1 : Int)) = true then
    (i_control_controller_two_0d3.f k x1 x2).bind fun y2 =>
      if (!y2.1) = true then
        j1 x1 x2 k true
      else
        (i_control_controller_is_1_91e.f k x2.2.2.1 x1 x2).bind fun y12 =>
          j1 x1 x2 k (!y12.1)
  else
    (i_control_controller_is_1_91e.f k x2.2.2.1 x1 x2).bind fun y14 =>
      j1 x1 x2 k (!y14.1)
theorem f_ok {r k x1 x2} (H : f k x1 x2 = some r) : Gw P 2 (Q x1 x2 r) (Px c0 1 []) (s0 x1 x2) := by
  unfold f at H
  refine Rg V_ok 1 [(0, hb 2)] az ?_
  refine Rg V_ok 0 [] az ?_
  refine GT (tn [1, 3] 3) (RI ?_)
  refine EV V_ok 0 [] 7 az ?_
  rcases of_ite H with ⟨hb1, H⟩ | ⟨hb1, H⟩
  · refine FXO 12 hb1 ?_
    refine EV V_ok 0 [] 1 az ?_
    obtain ⟨y2, e3, H⟩ := of_bind H
    refine CL V_ok i_control_controller_two_0d3.at_ (i_control_controller_two_0d3.ok e3) ?_
    refine EV V_ok 0 [] 3 az ?_
    rcases of_ite H with ⟨hb4, H⟩ | ⟨hb4, H⟩
    · refine FXO 17 hb4 ?_
      refine EV V_ok 0 [] 10 az ?_
      refine RN ?_
      exact Jm (tn [1, 3, 4] 3) (j1_ok H)
    · refine FXO 17 hb4 ?_
      refine EV V_ok 0 [] 6 az ?_
      obtain ⟨y12, e13, H⟩ := of_bind H
      refine CL V_ok i_control_controller_is_1_91e.at_ (i_control_controller_is_1_91e.ok e13) ?_
      refine EV V_ok 0 [] 3 az ?_
      refine RN ?_
      exact Jm (tn [1, 3, 4] 3) (j1_ok H)
  · refine FXO 12 hb1 ?_
    refine EV V_ok 0 [] 5 az ?_
    refine EV V_ok 0 [] 6 az ?_
    obtain ⟨y14, e15, H⟩ := of_bind H
    refine CL V_ok i_control_controller_is_1_91e.at_ (i_control_controller_is_1_91e.ok e15) ?_
    refine EV V_ok 0 [] 3 az ?_
    refine RN ?_
    exact Jm (tn [1, 3, 4] 3) (j1_ok H)
theorem ok {r k x1 x2} (H : f k x1 x2 = some r) : W P 2 c0 (s0 x1 x2) (CallQ 2 (out x1 x2 r)) := of_G (f_ok H)
theorem at_ : FnAt P 33 57 c0 Go.Proofs.Tryz.f33.results := fnAt Go.Proofs.Tryz.func33 (by kernel_rfl) (by decide) (by kernel_rfl) (by kernel_rfl)
end i_control_controller_is_023
/-! ### function 20, wayfinder/control.Sends -/
namespace f_control_Sends
noncomputable def c0 : Code := (Go.Proofs.Tryz.f20.body).getD .skip
abbrev ps : Sg := [(true, T26b3)]
abbrev rs : Sg := [(false, (.slice T2b36))]
noncomputable def V : Env := { tt := tt, Γ := slk [(26, f_frame_Seal.S), (56, f_sess_First.S)] }
theorem V_ok : EnvOk P V := { ck := tt_ck, fits := slk_cons f_frame_Seal.fits (slk_cons f_sess_First.fits (slk_nil)), mixed := mixed }
abbrev R := Tup rs
noncomputable abbrev Q (r : R) : Exit → St → Prop := Qr tt Go.Proofs.Tryz.f20.results ⟨ps, rs, .any, none, fun _ _ => True⟩ r
noncomputable def s1 (p1 : List T23b6.T) (p2 p3 : Int) (p4 : List T2b36.T) : St := ⟨52, [(4, .cv (.one (.own 0))), (18, .cv (.one (.sl T23b6 p1 .any))), (19, .cv (.one (.i p2))), (20, .cv (.one (.i p3)))], [(.buf 74 T2b36 p4, [])]⟩
noncomputable def s4 (p1 : List T23b6.T) (p2 p3 : Int) (p4 : List T2b36.T) : St := ⟨52, [(4, .cv (.one (.own 0))), (18, .cv (.one (.sl T23b6 p1 .any))), (19, .cv (.one (.i p2))), (20, .cv (.one (.i p3)))], [(.buf 74 T2b36 p4, [])]⟩
noncomputable def j4 (L1 : List T23b6.T → Int → Int → List T2b36.T → Option R) (k : Nat) (p1 : List T23b6.T) (p2 p3 : Int) (p4 : List T2b36.T) : Option R :=
  L1 p1 p2 (IntKind.i64.wrap (p3 + 1)) p4
theorem j4_ok {r} {L1 : List T23b6.T → Int → Int → List T2b36.T → Option R} {m1 : Nat} (hL1 : ∀ p1 p2 p3 p4, L1 p1 p2 p3 p4 = some r → Gw P 0 (Q r) (Pb c0 87 [] m1) (s1 p1 p2 p3 p4)) {k p1 p2 p3 p4} (H : j4 L1 k p1 p2 p3 p4 = some r) : Gw P 0 (Q r) (Px c0 1943 [m1]) (s4 p1 p2 p3 p4) := by
  unfold j4 at H
  refine Rg V_ok 0 [] az ?_
  exact Jm (tn [4, 18, 19, 20] 1) (hL1 p1 p2 (IntKind.i64.wrap (p3 + 1)) p4 H)
noncomputable def s2 (p1 : Int) (p2 : List T23b6.T) (p3 p4 : Int) (p5 : List T4414.T) (p6 p7 : Int) (p8 : List T2b36.T) : St := ⟨52, [(4, .cv (.one (.own 0))), (5, .cv (.one (.i p1))), (18, .cv (.one (.sl T23b6 p2 .any))), (19, .cv (.one (.i p3))), (20, .cv (.one (.i p4))), (30, .cv (.one (.sl T4414 p5 .any))), (31, .cv (.one (.i p6))), (32, .cv (.one (.i p7)))], [(.buf 74 T2b36 p8, [])]⟩
noncomputable def s3 (p1 : Int) (p2 : List T23b6.T) (p3 p4 : Int) (p5 : List T4414.T) (p6 p7 : Int) (p8 : List T2b36.T) : St := ⟨52, [(4, .cv (.one (.own 0))), (5, .cv (.one (.i p1))), (18, .cv (.one (.sl T23b6 p2 .any))), (19, .cv (.one (.i p3))), (20, .cv (.one (.i p4))), (30, .cv (.one (.sl T4414 p5 .any))), (31, .cv (.one (.i p6))), (32, .cv (.one (.i p7)))], [(.buf 74 T2b36 p8, [])]⟩
noncomputable def j3 (L1 : List T23b6.T → Int → Int → List T2b36.T → Option R) (L2 : Int → List T23b6.T → Int → Int → List T4414.T → Int → Int → List T2b36.T → Option R) (k : Nat) (p1 : Int) (p2 : List T23b6.T) (p3 p4 : Int) (p5 : List T4414.T) (p6 p7 : Int) (p8 : List T2b36.T) : Option R :=
  L2 p1 p2 p3 p4 p5 p6 (IntKind.i64.wrap (p7 + 1)) p8
theorem j3_ok {r} {L1 : List T23b6.T → Int → Int → List T2b36.T → Option R} {m1 : Nat} (hL1 : ∀ p1 p2 p3 p4, L1 p1 p2 p3 p4 = some r → Gw P 0 (Q r) (Pb c0 87 [] m1) (s1 p1 p2 p3 p4)) {L2 : Int → List T23b6.T → Int → Int → List T4414.T → Int → Int → List T2b36.T → Option R} {m2 : Nat} (hL2 : ∀ p1 p2 p3 p4 p5 p6 p7 p8, L2 p1 p2 p3 p4 p5 p6 p7 p8 = some r → Gw P 0 (Q r) (Pb c0 47511 [m1] m2) (s2 p1 p2 p3 p4 p5 p6 p7 p8)) {k p1 p2 p3 p4 p5 p6 p7 p8} (H : j3 L1 L2 k p1 p2 p3 p4 p5 p6 p7 p8 = some r) : Gw P 0 (Q r) (Px c0 997783 [m1, m2]) (s3 p1 p2 p3 p4 p5 p6 p7 p8) := by
  unfold j3 at H
  refine Rg V_ok 0 [] az ?_
  exact Jm (tn [4, 5, 18, 19, 20, 30, 31, 32] 1) (hL2 p1 p2 p3 p4 p5 p6 (IntKind.i64.wrap (p7 + 1)) p8 H)
noncomputable def b2 (L1 : List T23b6.T → Int → Int → List T2b36.T → Option R) (L2 : Int → List T23b6.T → Int → Int → List T4414.T → Int → Int → List T2b36.T → Option R) (k : Nat) (p1 : Int) (p2 : List T23b6.T) (p3 p4 : Int) (p5 : List T4414.T) (p6 p7 : Int) (p8 : List T2b36.T) : Option R :=
  if (decide (p7 < p6)) = true then
  if 0 ≤ p7 then
    if p7 < (p5.length : Int) then
      (f_frame_Seal.f k (att T4414 p5 p7)).bind fun y13 =>
        if (y13.2.1 == (0 : Int)) = true then
          if (p8.length + 1) * 40 ≤ 140737488355328 then
            j3 L1 L2 k p1 p2 p3 p4 p5 p6 p7 (p8 ++ [(p1, (false, y13.1))])
          else none
        else
          j3 L1 L2 k p1 p2 p3 p4 p5 p6 p7 p8
    else none
  else none
else
  j4 L1 k p2 p3 p4 p8
theorem b2_ok {r} {L1 : List T23b6.T → Int → Int → List T2b36.T → Option R} {m1 : Nat} (hL1 : ∀ p1 p2 p3 p4, L1 p1 p2 p3 p4 = some r → Gw P 0 (Q r) (Pb c0 87 [] m1) (s1 p1 p2 p3 p4)) {L2 : Int → List T23b6.T → Int → Int → List T4414.T → Int → Int → List T2b36.T → Option R} {m2 : Nat} (hL2 : ∀ p1 p2 p3 p4 p5 p6 p7 p8, L2 p1 p2 p3 p4 p5 p6 p7 p8 = some r → Gw P 0 (Q r) (Pb c0 47511 [m1] m2) (s2 p1 p2 p3 p4 p5 p6 p7 p8)) {k p1 p2 p3 p4 p5 p6 p7 p8} (H : b2 L1 L2 k p1 p2 p3 p4 p5 p6 p7 p8 = some r) : Gw P 0 (Q r) (Px c0 80279 [m1, m2]) (s2 p1 p2 p3 p4 p5 p6 p7 p8) := by
  unfold b2 at H
  refine Rg V_ok 0 [] az ?_
  rcases of_ite H with ⟨hb10, H⟩ | ⟨hb10, H⟩
  · refine C1 hb10 ?_
    obtain ⟨n11, H⟩ := of_if H
    obtain ⟨n12, H⟩ := of_if H
    refine Rg V_ok 1 [(2, hb 1)] (ac n11 (ac n12 az)) ?_
    obtain ⟨y13, e14, H⟩ := of_bind H
    refine Rg V_ok 0 [(1, hr f_frame_Seal.S y13)] (ac (f_frame_Seal.rl e14) az) ?_
    refine Rg V_ok 0 [] az ?_
    rcases of_ite H with ⟨hb15, H⟩ | ⟨hb15, H⟩
    · refine C1 hb15 ?_
      obtain ⟨n16, H⟩ := of_if H
      refine Rg V_ok 1 [(5, hb 2)] (ac n16 az) ?_
      exact Jm (tl [4, 5, 18, 19, 20, 30, 31, 32] [2]) (j3_ok hL1 hL2 H)
    · refine C0 hb15 ?_
      exact Jm (tn [4, 5, 18, 19, 20, 30, 31, 32] 1) (j3_ok hL1 hL2 H)
  · refine C0 hb10 ?_
    exact Jm (tn [4, 18, 19, 20] 1) (j4_ok hL1 H)
noncomputable def l2 (L1 : List T23b6.T → Int → Int → List T2b36.T → Option R) (k : Nat) : Nat → Int → List T23b6.T → Int → Int → List T4414.T → Int → Int → List T2b36.T → Option R
  | 0, _, _, _, _, _, _, _, _ => none
  | m + 1, p1, p2, p3, p4, p5, p6, p7, p8 => b2 L1 (l2 L1 k m) k p1 p2 p3 p4 p5 p6 p7 p8
theorem l2_ok {r} {L1 : List T23b6.T → Int → Int → List T2b36.T → Option R} {m1 : Nat} (hL1 : ∀ p1 p2 p3 p4, L1 p1 p2 p3 p4 = some r → Gw P 0 (Q r) (Pb c0 87 [] m1) (s1 p1 p2 p3 p4)) (k : Nat) : ∀ (m2 : Nat) (p1 : Int) (p2 : List T23b6.T) (p3 p4 : Int) (p5 : List T4414.T) (p6 p7 : Int) (p8 : List T2b36.T), l2 L1 k m2 p1 p2 p3 p4 p5 p6 p7 p8 = some r → Gw P 0 (Q r) (Pb c0 47511 [m1] m2) (s2 p1 p2 p3 p4 p5 p6 p7 p8)
  | 0, _, _, _, _, _, _, _, _, H => by cases H
  | m2 + 1, p1, p2, p3, p4, p5, p6, p7, p8, H => SU (by kernel_rfl) (b2_ok hL1 (l2_ok hL1 k m2) H)
noncomputable def b1 (L1 : List T23b6.T → Int → Int → List T2b36.T → Option R) (k : Nat) (p1 : List T23b6.T) (p2 p3 : Int) (p4 : List T2b36.T) : Option R :=
  if (decide (p3 < p2)) = true then
  if 0 ≤ p3 then
    if p3 < (p1.length : Int) then
      if (decide (((att T23b6 p1 p3).1) ≤ (0 : Int))) = true then
        j4 L1 k p1 p2 p3 p4
      else
        (f_sess_First.f k (((att T23b6 p1 p3).2).2) (2 : Int)).bind fun y8 =>
          l2 L1 k k p3 p1 p2 p3 y8.1 (y8.1.length : Int) 0 p4
    else none
  else none
else
  some (p4, ())
theorem b1_ok {r} {L1 : List T23b6.T → Int → Int → List T2b36.T → Option R} {m1 : Nat} (hL1 : ∀ p1 p2 p3 p4, L1 p1 p2 p3 p4 = some r → Gw P 0 (Q r) (Pb c0 87 [] m1) (s1 p1 p2 p3 p4)) {k p1 p2 p3 p4} (H : b1 L1 k p1 p2 p3 p4 = some r) : Gw P 0 (Q r) (Px c0 151 [m1]) (s1 p1 p2 p3 p4) := by
  unfold b1 at H
  refine Rg V_ok 0 [] az ?_
  rcases of_ite H with ⟨hb4, H⟩ | ⟨hb4, H⟩
  · refine C1 hb4 ?_
    obtain ⟨n5, H⟩ := of_if H
    obtain ⟨n6, H⟩ := of_if H
    refine Rg V_ok 1 [(3, hb 1)] (ac n5 (ac n6 az)) ?_
    refine Rg V_ok 0 [] az ?_
    rcases of_ite H with ⟨hb7, H⟩ | ⟨hb7, H⟩
    · refine C1 hb7 ?_
      exact Jm (tn [4, 18, 19, 20] 1) (j4_ok hL1 H)
    · refine C0 hb7 ?_
      obtain ⟨y8, e9, H⟩ := of_bind H
      refine Rg V_ok 0 [(2, hr f_sess_First.S y8)] (ac (f_sess_First.rl e9) az) ?_
      exact LP k (Jm (tn [4, 5, 18, 19, 20, 30, 31, 32] 1) (l2_ok hL1 k k p3 p1 p2 p3 y8.1 (y8.1.length : Int) 0 p4 H))
  · refine C0 hb4 ?_
    refine Rg V_ok 0 [] az ?_
    exact Lf (Eq.trans (by kernel_rfl) H)
noncomputable def l1 (k : Nat) : Nat → List T23b6.T → Int → Int → List T2b36.T → Option R
  | 0, _, _, _, _ => none
  | m + 1, p1, p2, p3, p4 => b1 (l1 k m) k p1 p2 p3 p4
theorem l1_ok {r} (k : Nat) : ∀ (m1 : Nat) (p1 : List T23b6.T) (p2 p3 : Int) (p4 : List T2b36.T), l1 k m1 p1 p2 p3 p4 = some r → Gw P 0 (Q r) (Pb c0 87 [] m1) (s1 p1 p2 p3 p4)
  | 0, _, _, _, _, H => by cases H
  | m1 + 1, p1, p2, p3, p4, H => SU (by kernel_rfl) (b1_ok (l1_ok k m1) H)
noncomputable def f (k : Nat) (a1 : T26b3.T) : Option R :=
  (i_control_controller_is_023.f k a1 a1).bind fun y1 =>
    if (!y1.1) = true then
      some ([], ())
    else
      l1 k k a1.2.2.2.2.2.2.2.2.1 (a1.2.2.2.2.2.2.2.2.1.length : Int) 0 []
noncomputable def S : Spec := ⟨ps, rs, .any, none, fun x r => ∃ k, f k x.1 = some r⟩
theorem rl {k a1 r} (e : f k a1 = some r) : S.rel (a1, ()) r := ⟨k, e⟩
theorem f_ok {r k a1} (H : f k a1 = some r) : Gw P 0 (Q r) (Px c0 1 []) (⟨52, [(0, .cv (.agg (encC .any T26b3 a1)))], []⟩) := by
  unfold f at H
  refine Rg V_ok 1 [(0, hb 0)] az ?_
  refine Rg V_ok 1 [(2, hb 1)] az ?_
  refine GT (tn [1, 3] 2) (RI ?_)
  refine EV V_ok 0 [] 1 az ?_
  obtain ⟨y1, e2, H⟩ := of_bind H
  refine CL V_ok i_control_controller_is_023.at_ (i_control_controller_is_023.ok e2) ?_
  refine EV V_ok 0 [] 1 az ?_
  refine RN ?_
  rcases of_ite H with ⟨hb3, H⟩ | ⟨hb3, H⟩
  · refine C1 hb3 ?_
    refine Rg V_ok 0 [] az ?_
    exact Lf (Eq.trans (by kernel_rfl) H)
  · refine C0 hb3 ?_
    refine Rg V_ok 0 [] az ?_
    refine Rg V_ok 0 [] az ?_
    exact LP k (Jm {fz := [], gr := 1, ad := [.ownT 4 2 74 T2b36], live := [4, 18, 19, 20], src := [some 2]} (l1_ok k k a1.2.2.2.2.2.2.2.2.1 (a1.2.2.2.2.2.2.2.2.1.length : Int) 0 [] H))
theorem fits : Fits P 20 S := fits_of V_ok Go.Proofs.Tryz.func20 (by kernel_rfl) (by decide) (by decide) rfl (fun x r ⟨k, H⟩ => of_G (f_ok H))
end f_control_Sends
/-! ### function 7, wayfinder/wayfinderlaw21.awake -/
namespace f_law21_awake
noncomputable def c0 : Code := (Go.Proofs.Tryz.f7.body).getD .skip
abbrev ps : Sg := []
abbrev rs : Sg := [(false, .bool)]
noncomputable def V : Env := { tt := tt, Γ := slk [(10, f_control_Heard.S), (15, f_control_New.S), (20, f_control_Sends.S), (25, f_law13_Two.S), (26, f_frame_Seal.S), (27, f_frame_Open.S)] }
theorem V_ok : EnvOk P V := { ck := tt_ck, fits := slk_cons f_control_Heard.fits (slk_cons f_control_New.fits (slk_cons f_control_Sends.fits (slk_cons f_law13_Two.fits (slk_cons f_frame_Seal.fits (slk_cons f_frame_Open.fits (slk_nil)))))), mixed := mixed }
abbrev R := Tup rs
noncomputable abbrev Q (r : R) : Exit → St → Prop := Qr tt Go.Proofs.Tryz.f7.results ⟨ps, rs, .any, none, fun _ _ => True⟩ r
noncomputable def s1 (p1 : List T2b36.T) (p2 : Bool) : St := ⟨87, [(6, .cv (.one (.sl T2b36 p1 .any))), (42, .cv (.one (.bool p2)))], []⟩
noncomputable def j1 (k : Nat) (p1 : List T2b36.T) (p2 : Bool) : Option R :=
  if p2 = true then
  some (false, ())
else
  if (0 : Int) < (p1.length : Int) then
    (f_frame_Open.f k (((att T2b36 p1 0).2).2)).bind fun y13 =>
      if (1 : Int) < (p1.length : Int) then
        (f_frame_Open.f k (((att T2b36 p1 1).2).2)).bind fun y16 =>
          if (y13.2.1 == (0 : Int)) = true then
            if (y16.2.1 == (0 : Int)) = true then
              if (y13.1.1 == (3 : Int)) = true then
                if (y13.1.2.2.2.1 == (1 : Int)) = true then
                  if (y16.1.1 == (5 : Int)) = true then
                    some ((((att T2b36 p1 1).1) == (0 : Int)), ())
                  else
                    some (false, ())
                else
                  some (false, ())
              else
                some (false, ())
            else
              some (false, ())
          else
            some (false, ())
      else none
  else none
theorem j1_ok {r} {k p1 p2} (H : j1 k p1 p2 = some r) : Gw P 0 (Q r) (Px c0 223 []) (s1 p1 p2) := by
  unfold j1 at H
  rcases of_ite H with ⟨hb12, H⟩ | ⟨hb12, H⟩
  · refine C1 hb12 ?_
    refine Rg V_ok 0 [] az ?_
    exact Lf (Eq.trans (by kernel_rfl) H)
  · refine C0 hb12 ?_
    obtain ⟨n14, H⟩ := of_if H
    obtain ⟨y13, e15, H⟩ := of_bind H
    refine Rg V_ok 1 [(4, hr f_frame_Open.S y13), (8, hb 0)] (ac (show 0 ≤ (0 : Int) by decide) (ac n14 (ac (f_frame_Open.rl e15) az))) ?_
    obtain ⟨n17, H⟩ := of_if H
    obtain ⟨y16, e18, H⟩ := of_bind H
    refine Rg V_ok 1 [(4, hr f_frame_Open.S y16), (8, hb 1)] (ac (show 0 ≤ (1 : Int) by decide) (ac n17 (ac (f_frame_Open.rl e18) az))) ?_
    rcases of_ite H with ⟨hb19, H⟩ | ⟨hb19, H⟩
    · rcases of_ite H with ⟨hb20, H⟩ | ⟨hb20, H⟩
      · rcases of_ite H with ⟨hb21, H⟩ | ⟨hb21, H⟩
        · rcases of_ite H with ⟨hb22, H⟩ | ⟨hb22, H⟩
          · rcases of_ite H with ⟨hb23, H⟩ | ⟨hb23, H⟩
            · refine Rg V_ok 0 [(1, {bv := some true}), (5, {bv := some true}), (10, {bv := some true}), (15, {bv := some true}), (20, {bv := some true})] (ac hb19 (ac hb20 (ac hb21 (ac hb22 (ac hb23 (ac (show 0 ≤ (1 : Int) by decide) (ac n17 az))))))) ?_
              exact Lf (Eq.trans (by kernel_rfl) H)
            · refine Rg V_ok 0 [(1, {bv := some true}), (5, {bv := some true}), (10, {bv := some true}), (15, {bv := some true}), (20, {bv := some false})] (ac hb19 (ac hb20 (ac hb21 (ac hb22 (ac hb23 az))))) ?_
              exact Lf (Eq.trans (by kernel_rfl) H)
          · refine Rg V_ok 0 [(1, {bv := some true}), (5, {bv := some true}), (10, {bv := some true}), (15, {bv := some false})] (ac hb19 (ac hb20 (ac hb21 (ac hb22 az)))) ?_
            exact Lf (Eq.trans (by kernel_rfl) H)
        · refine Rg V_ok 0 [(1, {bv := some true}), (5, {bv := some true}), (10, {bv := some false})] (ac hb19 (ac hb20 (ac hb21 az))) ?_
          exact Lf (Eq.trans (by kernel_rfl) H)
      · refine Rg V_ok 0 [(1, {bv := some true}), (5, {bv := some false})] (ac hb19 (ac hb20 az)) ?_
        exact Lf (Eq.trans (by kernel_rfl) H)
    · refine Rg V_ok 0 [(1, {bv := some false})] (ac hb19 az) ?_
      exact Lf (Eq.trans (by kernel_rfl) H)
noncomputable def f (k : Nat) : Option R :=
  (f_law13_Two.f k).bind fun y1 =>
    (f_frame_Seal.f k (0, (1, (0, (0, ((0, 0), (0, (0, (0, 0))))))))).bind fun y3 =>
      (f_control_New.f k y1.1).bind fun y5 =>
        (f_control_Heard.f k y5.1 (0 : Int) y3.1).bind fun y6 =>
          (f_control_Sends.f k y6.1).bind fun y9 =>
            if ((y9.1.length : Int) != (2 : Int)) = true then
              j1 k y9.1 true
            else
              if ((y6.1.2.2.2.2.2.2.2.2.1.length : Int) != (2 : Int)) = true then
                j1 k y9.1 true
              else
                if (0 : Int) < (y6.1.2.2.2.2.2.2.2.2.1.length : Int) then
                  j1 k y9.1 (((att T23b6 y6.1.2.2.2.2.2.2.2.2.1 0).1) != (1 : Int))
                else none
noncomputable def S : Spec := ⟨ps, rs, .any, none, fun x r => ∃ k, f k = some r⟩
theorem rl {k r} (e : f k = some r) : S.rel (()) r := ⟨k, e⟩
theorem f_ok {r k} (H : f k = some r) : Gw P 0 (Q r) (Px c0 1 []) (⟨87, [], []⟩) := by
  unfold f at H
  refine Rg V_ok 0 [] az ?_
  obtain ⟨y1, e2, H⟩ := of_bind H
  refine Rg V_ok 1 [(0, hr f_law13_Two.S y1), (4, hb 0)] (ac (f_law13_Two.rl e2) az) ?_
  obtain ⟨y3, e4, H⟩ := of_bind H
  refine Rg V_ok 0 [(1, hr f_frame_Seal.S y3)] (ac (f_frame_Seal.rl e4) az) ?_
  obtain ⟨y5, e7, H⟩ := of_bind H
  obtain ⟨y6, e8, H⟩ := of_bind H
  refine Rg V_ok 1 [(1, hr f_control_New.S y5), (3, hr f_control_Heard.S y6), (4, hb 1)] (ac (f_control_New.rl e7) (ac (f_control_Heard.rl e8) az)) ?_
  obtain ⟨y9, e10, H⟩ := of_bind H
  refine Rg V_ok 0 [(1, hr f_control_Sends.S y9)] (ac (f_control_Sends.rl e10) az) ?_
  rcases of_ite H with ⟨hb11, H⟩ | ⟨hb11, H⟩
  · refine Rg V_ok 0 [(2, {bv := some true})] (ac hb11 az) ?_
    exact Jm (tn [6, 42] 0) (j1_ok H)
  · rcases of_ite H with ⟨hb24, H⟩ | ⟨hb24, H⟩
    · refine Rg V_ok 0 [(2, {bv := some false}), (8, {bv := some true})] (ac hb11 (ac hb24 az)) ?_
      exact Jm (tn [6, 42] 0) (j1_ok H)
    · obtain ⟨n25, H⟩ := of_if H
      refine Rg V_ok 0 [(2, {bv := some false}), (8, {bv := some false})] (ac hb11 (ac hb24 (ac (show 0 ≤ (0 : Int) by decide) (ac n25 az)))) ?_
      exact Jm (tn [6, 42] 0) (j1_ok H)
theorem fits : Fits P 7 S := fits_of V_ok Go.Proofs.Tryz.func7 (by kernel_rfl) (by decide) (by decide) rfl (fun x r ⟨k, H⟩ => of_G (f_ok H))
end f_law21_awake
/-! ### function 12, wayfinder/wayfinderlaw12.Few -/
namespace f_law12_Few
noncomputable def c0 : Code := (Go.Proofs.Tryz.f12.body).getD .skip
abbrev ps : Sg := [(false, (.slice (.slice T1383)))]
abbrev rs : Sg := [(false, .bool)]
noncomputable def V : Env := { tt := tt, Γ := slk [] }
theorem V_ok : EnvOk P V := { ck := tt_ck, fits := slk_nil, mixed := mixed }
abbrev R := Tup rs
noncomputable abbrev Q (r : R) : Exit → St → Prop := Qr tt Go.Proofs.Tryz.f12.results ⟨ps, rs, .any, none, fun _ _ => True⟩ r
noncomputable def s1 (p1 : List (List T1383.T)) (p2 : Int) : St := ⟨19, [(0, .cv (.one (.sl (.slice T1383) p1 .any))), (3, .cv (.one (.i p2)))], []⟩
noncomputable def b1 (L1 : List (List T1383.T) → Int → Option R) (k : Nat) (p1 : List (List T1383.T)) (p2 : Int) : Option R :=
  if (decide (p2 < (p1.length : Int))) = true then
  if 0 ≤ p2 then
    if p2 < (p1.length : Int) then
      if (decide (((att (.slice T1383) p1 p2).length : Int) > (60 : Int))) = true then
        some (false, ())
      else
        L1 p1 (IntKind.i64.wrap (p2 + 1))
    else none
  else none
else
  some (true, ())
theorem b1_ok {r} {L1 : List (List T1383.T) → Int → Option R} {m1 : Nat} (hL1 : ∀ p1 p2, L1 p1 p2 = some r → Gw P 0 (Q r) (Pb c0 43 [] m1) (s1 p1 p2)) {k p1 p2} (H : b1 L1 k p1 p2 = some r) : Gw P 0 (Q r) (Px c0 75 [m1]) (s1 p1 p2) := by
  unfold b1 at H
  refine Rg V_ok 0 [] az ?_
  rcases of_ite H with ⟨hb2, H⟩ | ⟨hb2, H⟩
  · refine C1 hb2 ?_
    obtain ⟨n3, H⟩ := of_if H
    obtain ⟨n4, H⟩ := of_if H
    refine Rg V_ok 0 [] (ac n3 (ac n4 az)) ?_
    rcases of_ite H with ⟨hb5, H⟩ | ⟨hb5, H⟩
    · refine C1 hb5 ?_
      refine Rg V_ok 0 [] az ?_
      exact Lf (Eq.trans (by kernel_rfl) H)
    · refine C0 hb5 ?_
      refine Rg V_ok 0 [] az ?_
      exact Jm (tn [0, 3] 0) (hL1 p1 (IntKind.i64.wrap (p2 + 1)) H)
  · refine C0 hb2 ?_
    refine Rg V_ok 0 [] az ?_
    exact Lf (Eq.trans (by kernel_rfl) H)
noncomputable def l1 (k : Nat) : Nat → List (List T1383.T) → Int → Option R
  | 0, _, _ => none
  | m + 1, p1, p2 => b1 (l1 k m) k p1 p2
theorem l1_ok {r} (k : Nat) : ∀ (m1 : Nat) (p1 : List (List T1383.T)) (p2 : Int), l1 k m1 p1 p2 = some r → Gw P 0 (Q r) (Pb c0 43 [] m1) (s1 p1 p2)
  | 0, _, _, H => by cases H
  | m1 + 1, p1, p2, H => SU (by kernel_rfl) (b1_ok (l1_ok k m1) H)
noncomputable def f (k : Nat) (a1 : List (List T1383.T)) : Option R :=
  if (decide ((a1.length : Int) > (10 : Int))) = true then
    some (false, ())
  else
    l1 k k a1 0
noncomputable def S : Spec := ⟨ps, rs, .any, none, fun x r => ∃ k, f k x.1 = some r⟩
theorem rl {k a1 r} (e : f k a1 = some r) : S.rel (a1, ()) r := ⟨k, e⟩
theorem f_ok {r k a1} (H : f k a1 = some r) : Gw P 0 (Q r) (Px c0 1 []) (⟨19, [(0, .cv (.one (.sl (.slice T1383) a1 .any)))], []⟩) := by
  unfold f at H
  refine Rg V_ok 0 [] az ?_
  refine Rg V_ok 0 [] az ?_
  rcases of_ite H with ⟨hb1, H⟩ | ⟨hb1, H⟩
  · refine C1 hb1 ?_
    refine Rg V_ok 0 [] az ?_
    exact Lf (Eq.trans (by kernel_rfl) H)
  · refine C0 hb1 ?_
    refine Rg V_ok 0 [] az ?_
    exact LP k (Jm (tn [0, 3] 0) (l1_ok k k a1 0 H))
theorem fits : Fits P 12 S := fits_of V_ok Go.Proofs.Tryz.func12 (by kernel_rfl) (by decide) (by decide) rfl (fun x r ⟨k, H⟩ => of_G (f_ok H))
end f_law12_Few
/-! ### function 8, wayfinder/wayfinderlaw21.Few -/
namespace f_law21_Few
noncomputable def c0 : Code := (Go.Proofs.Tryz.f8.body).getD .skip
abbrev ps : Sg := [(true, T26b3)]
abbrev rs : Sg := [(false, .bool)]
noncomputable def V : Env := { tt := tt, Γ := slk [(12, f_law12_Few.S)] }
theorem V_ok : EnvOk P V := { ck := tt_ck, fits := slk_cons f_law12_Few.fits (slk_nil), mixed := mixed }
abbrev R := Tup rs
noncomputable abbrev Q (r : R) : Exit → St → Prop := Qr tt Go.Proofs.Tryz.f8.results ⟨ps, rs, .any, none, fun _ _ => True⟩ r
noncomputable def s1 (a1 : T26b3.T) (p1 : Bool) : St := ⟨71, [(1, .cv (.one (.ptr 0 0))), (39, .cv (.one (.bool p1)))], [(.box 13, (encC .any T26b3 a1))]⟩
noncomputable def s2 (a1 : T26b3.T) (p1 : Int) : St := ⟨71, [(1, .cv (.one (.ptr 0 0))), (3, .cv (.one (.i p1)))], [(.box 13, (encC .any T26b3 a1))]⟩
noncomputable def s3 (a1 : T26b3.T) (p1 : Int) : St := ⟨71, [(1, .cv (.one (.ptr 0 0))), (5, .cv (.one (.i p1)))], [(.box 13, (encC .any T26b3 a1))]⟩
noncomputable def b3 (a1 : T26b3.T) (L3 : Int → Option R) (k : Nat) (p1 : Int) : Option R :=
  if (decide (p1 < (a1.2.2.2.2.2.2.2.2.1.length : Int))) = true then
  if 0 ≤ p1 then
    if p1 < (a1.2.2.2.2.2.2.2.2.1.length : Int) then
      if (decide (((((((att T23b6 a1.2.2.2.2.2.2.2.2.1 p1).2).2).2).2).length : Int) > (100 : Int))) = true then
        some (false, ())
      else
        L3 (IntKind.i64.wrap (p1 + 1))
    else none
  else none
else
  some (true, ())
theorem b3_ok {r a1} {L3 : Int → Option R} {m3 : Nat} (hL3 : ∀ p1, L3 p1 = some r → Gw P 0 (Q r) (Pb c0 87 [] m3) (s3 a1 p1)) {k p1} (H : b3 a1 L3 k p1 = some r) : Gw P 0 (Q r) (Px c0 151 [m3]) (s3 a1 p1) := by
  unfold b3 at H
  refine Rg V_ok 0 [] az ?_
  rcases of_ite H with ⟨hb9, H⟩ | ⟨hb9, H⟩
  · refine C1 hb9 ?_
    obtain ⟨n10, H⟩ := of_if H
    obtain ⟨n11, H⟩ := of_if H
    refine Rg V_ok 0 [] (ac n10 (ac n11 az)) ?_
    rcases of_ite H with ⟨hb12, H⟩ | ⟨hb12, H⟩
    · refine C1 hb12 ?_
      refine Rg V_ok 0 [] az ?_
      exact Lf (Eq.trans (by kernel_rfl) H)
    · refine C0 hb12 ?_
      refine Rg V_ok 0 [] az ?_
      exact Jm (tn [1, 5] 1) (hL3 (IntKind.i64.wrap (p1 + 1)) H)
  · refine C0 hb9 ?_
    refine Rg V_ok 0 [] az ?_
    exact Lf (Eq.trans (by kernel_rfl) H)
noncomputable def l3 (a1 : T26b3.T) (k : Nat) : Nat → Int → Option R
  | 0, _ => none
  | m + 1, p1 => b3 a1 (l3 a1 k m) k p1
theorem l3_ok {r a1} (k : Nat) : ∀ (m3 : Nat) (p1 : Int), l3 a1 k m3 p1 = some r → Gw P 0 (Q r) (Pb c0 87 [] m3) (s3 a1 p1)
  | 0, _, H => by cases H
  | m3 + 1, p1, H => SU (by kernel_rfl) (b3_ok (l3_ok k m3) H)
noncomputable def b2 (a1 : T26b3.T) (L2 : Int → Option R) (k : Nat) (p1 : Int) : Option R :=
  if (decide (p1 < (a1.1.length : Int))) = true then
  if 0 ≤ p1 then
    if p1 < (a1.1.length : Int) then
      (f_law12_Few.f k (att (.slice (.slice T1383)) a1.1 p1)).bind fun y4 =>
        if (!y4.1) = true then
          some (false, ())
        else
          L2 (IntKind.i64.wrap (p1 + 1))
    else none
  else none
else
  l3 a1 k k 0
theorem b2_ok {r a1} {L2 : Int → Option R} {m2 : Nat} (hL2 : ∀ p1, L2 p1 = some r → Gw P 0 (Q r) (Pb c0 43 [] m2) (s2 a1 p1)) {k p1} (H : b2 a1 L2 k p1 = some r) : Gw P 0 (Q r) (Px c0 75 [m2]) (s2 a1 p1) := by
  unfold b2 at H
  refine Rg V_ok 0 [] az ?_
  rcases of_ite H with ⟨hb3, H⟩ | ⟨hb3, H⟩
  · refine C1 hb3 ?_
    obtain ⟨n5, H⟩ := of_if H
    obtain ⟨n6, H⟩ := of_if H
    obtain ⟨y4, e7, H⟩ := of_bind H
    refine Rg V_ok 0 [(5, hr f_law12_Few.S y4)] (ac n5 (ac n6 (ac (f_law12_Few.rl e7) az))) ?_
    refine Rg V_ok 0 [] az ?_
    rcases of_ite H with ⟨hb8, H⟩ | ⟨hb8, H⟩
    · refine C1 hb8 ?_
      refine Rg V_ok 0 [] az ?_
      exact Lf (Eq.trans (by kernel_rfl) H)
    · refine C0 hb8 ?_
      refine Rg V_ok 0 [] az ?_
      exact Jm (tn [1, 3] 1) (hL2 (IntKind.i64.wrap (p1 + 1)) H)
  · refine C0 hb3 ?_
    refine Rg V_ok 0 [] az ?_
    exact LP k (Jm (tn [1, 5] 1) (l3_ok k k 0 H))
noncomputable def l2 (a1 : T26b3.T) (k : Nat) : Nat → Int → Option R
  | 0, _ => none
  | m + 1, p1 => b2 a1 (l2 a1 k m) k p1
theorem l2_ok {r a1} (k : Nat) : ∀ (m2 : Nat) (p1 : Int), l2 a1 k m2 p1 = some r → Gw P 0 (Q r) (Pb c0 43 [] m2) (s2 a1 p1)
  | 0, _, H => by cases H
  | m2 + 1, p1, H => SU (by kernel_rfl) (b2_ok (l2_ok k m2) H)
noncomputable def j1 (a1 : T26b3.T) (k : Nat) (p1 : Bool) : Option R :=
  if p1 = true then
  some (false, ())
else
  l2 a1 k k 0
theorem j1_ok {r a1} {k p1} (H : j1 a1 k p1 = some r) : Gw P 0 (Q r) (Px c0 13 []) (s1 a1 p1) := by
  unfold j1 at H
  rcases of_ite H with ⟨hb2, H⟩ | ⟨hb2, H⟩
  · refine C1 hb2 ?_
    refine Rg V_ok 0 [] az ?_
    exact Lf (Eq.trans (by kernel_rfl) H)
  · refine C0 hb2 ?_
    refine Rg V_ok 0 [] az ?_
    exact LP k (Jm (tn [1, 3] 1) (l2_ok k k 0 H))
noncomputable def f (k : Nat) (a1 : T26b3.T) : Option R :=
  if (decide ((a1.1.length : Int) > (12 : Int))) = true then
    j1 a1 k true
  else
    if (decide ((a1.2.2.2.2.2.2.2.2.1.length : Int) > (12 : Int))) = true then
      j1 a1 k true
    else
      if (decide ((a1.2.2.2.2.2.2.2.1.length : Int) > (100 : Int))) = true then
        j1 a1 k true
      else
        if (decide ((a1.2.2.2.2.2.2.2.2.2.1.length : Int) > (100 : Int))) = true then
          j1 a1 k true
        else
          if (decide ((a1.2.2.2.2.2.2.2.2.2.2.1.length : Int) > (100 : Int))) = true then
            j1 a1 k true
          else
            j1 a1 k (decide ((a1.2.2.2.2.2.2.2.2.2.2.2.1.length : Int) > (100 : Int)))
noncomputable def S : Spec := ⟨ps, rs, .any, none, fun x r => ∃ k, f k x.1 = some r⟩
theorem rl {k a1 r} (e : f k a1 = some r) : S.rel (a1, ()) r := ⟨k, e⟩
theorem f_ok {r k a1} (H : f k a1 = some r) : Gw P 0 (Q r) (Px c0 1 []) (⟨71, [(0, .cv (.agg (encC .any T26b3 a1)))], []⟩) := by
  unfold f at H
  refine Rg V_ok 1 [(0, hb 0)] az ?_
  rcases of_ite H with ⟨hb1, H⟩ | ⟨hb1, H⟩
  · refine Rg V_ok 0 [(3, {bv := some true})] (ac hb1 az) ?_
    exact Jm (tn [1, 39] 1) (j1_ok H)
  · rcases of_ite H with ⟨hb13, H⟩ | ⟨hb13, H⟩
    · refine Rg V_ok 0 [(3, {bv := some false}), (9, {bv := some true})] (ac hb1 (ac hb13 az)) ?_
      exact Jm (tn [1, 39] 1) (j1_ok H)
    · rcases of_ite H with ⟨hb14, H⟩ | ⟨hb14, H⟩
      · refine Rg V_ok 0 [(3, {bv := some false}), (9, {bv := some false}), (15, {bv := some true})] (ac hb1 (ac hb13 (ac hb14 az))) ?_
        exact Jm (tn [1, 39] 1) (j1_ok H)
      · rcases of_ite H with ⟨hb15, H⟩ | ⟨hb15, H⟩
        · refine Rg V_ok 0 [(3, {bv := some false}), (9, {bv := some false}), (15, {bv := some false}), (21, {bv := some true})] (ac hb1 (ac hb13 (ac hb14 (ac hb15 az)))) ?_
          exact Jm (tn [1, 39] 1) (j1_ok H)
        · rcases of_ite H with ⟨hb16, H⟩ | ⟨hb16, H⟩
          · refine Rg V_ok 0 [(3, {bv := some false}), (9, {bv := some false}), (15, {bv := some false}), (21, {bv := some false}), (27, {bv := some true})] (ac hb1 (ac hb13 (ac hb14 (ac hb15 (ac hb16 az))))) ?_
            exact Jm (tn [1, 39] 1) (j1_ok H)
          · refine Rg V_ok 0 [(3, {bv := some false}), (9, {bv := some false}), (15, {bv := some false}), (21, {bv := some false}), (27, {bv := some false})] (ac hb1 (ac hb13 (ac hb14 (ac hb15 (ac hb16 az))))) ?_
            exact Jm (tn [1, 39] 1) (j1_ok H)
theorem fits : Fits P 8 S := fits_of V_ok Go.Proofs.Tryz.func8 (by kernel_rfl) (by decide) (by decide) rfl (fun x r ⟨k, H⟩ => of_G (f_ok H))
end f_law21_Few
/-! ### function 156, wayfinder/topo.both -/
namespace f_topo_both
noncomputable def c0 : Code := (Go.Proofs.Tryz.f156.body).getD .skip
abbrev ps : Sg := [(true, Td285)]
abbrev rs : Sg := [(true, T713d), (true, T713d)]
noncomputable def V : Env := { tt := tt, Γ := slk [] }
theorem V_ok : EnvOk P V := { ck := tt_ck, fits := slk_nil, mixed := mixed }
abbrev R := Tup rs
noncomputable abbrev Q (r : R) : Exit → St → Prop := Qr tt Go.Proofs.Tryz.f156.results ⟨ps, rs, .any, none, fun _ _ => True⟩ r
noncomputable def f (k : Nat) (a1 : Td285.T) : Option R :=
  some ((a1.1, a1.2.1), (a1.2.2, ()))
noncomputable def S : Spec := ⟨ps, rs, .any, none, fun x r => ∃ k, f k x.1 = some r⟩
theorem rl {k a1 r} (e : f k a1 = some r) : S.rel (a1, ()) r := ⟨k, e⟩
theorem f_ok {r k a1} (H : f k a1 = some r) : Gw P 0 (Q r) (Px c0 1 []) (⟨14, [(0, .cv (.agg (encC .any Td285 a1)))], []⟩) := by
  unfold f at H
  refine Rg V_ok 3 [(0, hb 0), (1, hb 1), (2, hb 2)] az ?_
  refine Rg V_ok 0 [] az ?_
  exact Lf (Eq.trans (by kernel_rfl) H)
theorem fits : Fits P 156 S := fits_of V_ok Go.Proofs.Tryz.func156 (by kernel_rfl) (by decide) (by decide) rfl (fun x r ⟨k, H⟩ => of_G (f_ok H))
end f_topo_both
/-! ### function 131, (wayfinder/topo.end).is -/
namespace f_topo_end_is
noncomputable def c0 : Code := (Go.Proofs.Tryz.f131.body).getD .skip
abbrev ps : Sg := [(true, T713d), (true, T5477)]
abbrev rs : Sg := [(false, .bool)]
noncomputable def V : Env := { tt := tt, Γ := slk [] }
theorem V_ok : EnvOk P V := { ck := tt_ck, fits := slk_nil, mixed := mixed }
abbrev R := Tup rs
noncomputable abbrev Q (r : R) : Exit → St → Prop := Qr tt Go.Proofs.Tryz.f131.results ⟨ps, rs, .any, none, fun _ _ => True⟩ r
noncomputable def f (k : Nat) (a1 : T713d.T) (a2 : T5477.T) : Option R :=
  if (decide (a1.1 ≥ (0 : Int))) = true then
    if (decide (a1.1 < a2.1)) = true then
      if (decide (a1.2 ≥ (0 : Int))) = true then
        some ((decide (a1.2 < a2.2.1)), ())
      else
        some (false, ())
    else
      some (false, ())
  else
    some (false, ())
noncomputable def S : Spec := ⟨ps, rs, .any, none, fun x r => ∃ k, f k x.1 x.2.1 = some r⟩
theorem rl {k a1 a2 r} (e : f k a1 a2 = some r) : S.rel (a1, a2, ()) r := ⟨k, e⟩
theorem f_ok {r k a1 a2} (H : f k a1 a2 = some r) : Gw P 0 (Q r) (Px c0 1 []) (⟨27, [(0, .cv (.agg [.i a1.1, .i a1.2])), (1, .cv (.agg (encC .any T5477 a2)))], []⟩) := by
  unfold f at H
  refine Rg V_ok 2 [(0, hb 0), (1, hb 1)] az ?_
  rcases of_ite H with ⟨hb1, H⟩ | ⟨hb1, H⟩
  · rcases of_ite H with ⟨hb2, H⟩ | ⟨hb2, H⟩
    · rcases of_ite H with ⟨hb3, H⟩ | ⟨hb3, H⟩
      · refine Rg V_ok 0 [(2, {bv := some true}), (9, {bv := some true}), (14, {bv := some true})] (ac (show 0 ≤ (0 : Int) by decide) (ac (show (0 : Int) < (2 : Int) by decide) (ac hb1 (ac (show 0 ≤ (0 : Int) by decide) (ac (show (0 : Int) < (2 : Int) by decide) (ac hb2 (ac (show 0 ≤ (1 : Int) by decide) (ac (show (1 : Int) < (2 : Int) by decide) (ac hb3 (ac (show 0 ≤ (1 : Int) by decide) (ac (show (1 : Int) < (2 : Int) by decide) az))))))))))) ?_
        exact Lf (Eq.trans (by kernel_rfl) H)
      · refine Rg V_ok 0 [(2, {bv := some true}), (9, {bv := some true}), (14, {bv := some false})] (ac (show 0 ≤ (0 : Int) by decide) (ac (show (0 : Int) < (2 : Int) by decide) (ac hb1 (ac (show 0 ≤ (0 : Int) by decide) (ac (show (0 : Int) < (2 : Int) by decide) (ac hb2 (ac (show 0 ≤ (1 : Int) by decide) (ac (show (1 : Int) < (2 : Int) by decide) (ac hb3 az))))))))) ?_
        exact Lf (Eq.trans (by kernel_rfl) H)
    · refine Rg V_ok 0 [(2, {bv := some true}), (9, {bv := some false})] (ac (show 0 ≤ (0 : Int) by decide) (ac (show (0 : Int) < (2 : Int) by decide) (ac hb1 (ac (show 0 ≤ (0 : Int) by decide) (ac (show (0 : Int) < (2 : Int) by decide) (ac hb2 az)))))) ?_
      exact Lf (Eq.trans (by kernel_rfl) H)
  · refine Rg V_ok 0 [(2, {bv := some false})] (ac (show 0 ≤ (0 : Int) by decide) (ac (show (0 : Int) < (2 : Int) by decide) (ac hb1 az))) ?_
    exact Lf (Eq.trans (by kernel_rfl) H)
theorem fits : Fits P 131 S := fits_of V_ok Go.Proofs.Tryz.func131 (by kernel_rfl) (by decide) (by decide) rfl (fun x r ⟨k, H⟩ => of_G (f_ok H))
end f_topo_end_is
end Go.Proofs.YtkhjemahenkdiaaGreatDoor.V
