/- Functions of the program, as Lean functions, and that the code answers so. Printed by vgen.py. -/
import Derived.Test.YtkhjemahenkdiaaGreatDoorVF1
namespace Go.Proofs.YtkhjemahenkdiaaGreatDoor.V
open Go Go.RowKit Go.Proofs.Tryz
set_option linter.unusedVariables false
set_option linter.unusedSimpArgs false
set_option maxRecDepth 100000
set_option maxHeartbeats 4000000
namespace i_control_own_b6am
noncomputable def c0 : Code := bo f32
noncomputable def V : Env := eV [(75, f_slices_Clone_ConfO.S), (76, f_slices_Clone_Conf_RuleO.S), (77, f_slices_Clone_Rule.S), (78, f_slices_Clone_PeerO.S), (79, f_slices_Clone_Msg.S), (80, f_slices_Clone_intO.S), (81, f_slices_Clone_GivenO.S)]
theorem V_ok : EnvOk P V := eOk (slk_cons f_slices_Clone_ConfO.fits (slk_cons f_slices_Clone_Conf_RuleO.fits (slk_cons f_slices_Clone_Rule.fits (slk_cons f_slices_Clone_PeerO.fits (slk_cons f_slices_Clone_Msg.fits (slk_cons f_slices_Clone_intO.fits (slk_cons f_slices_Clone_GivenO.fits (slk_nil))))))))
variable (x1 x2 : T26b3.T) (x3 x4 x5 x6 x7 x8 x9 : Int)
noncomputable def h0 (l : Hl) : Hl := (.box 13, (encC .any T26b3 x2)) :: (.box 13, [.nils, .i x3, .i x4, .i x5, .i x6, .i x7, .i x8, .nils, .nils, .nils, .nils, .nils, .i x9]) :: (.box 6, [.fn 46 [] [], .fn 47 [] [], .fn 48 [] [], .fn 49 [] [], .fn 50 [] [], .fn 50 [] []]) :: l
abbrev R := (Int) × (Int) × (Int) × (Int) × (Int) × (Int) × (Int) × (List (List (List T1383.T))) × (List Int) × (List T23b6.T) × (List T713d.T) × (List Int) × (List Int) × Unit
noncomputable def s0 : St := ⟨85, [(0, .cv (.agg (encC .any T26b3 x1)))], (h0 x2 x3 x4 x5 x6 x7 x8 x9 [])⟩
noncomputable def out (r : R) : St := ⟨85, [(2, .cv (.one (.ptr 3 0)))], (h0 x2 x3 x4 x5 x6 x7 x8 x9 [(.box 13, [.own 4, .i r.1, .i r.2.1, .i r.2.2.1, .i r.2.2.2.1, .i r.2.2.2.2.1, .i r.2.2.2.2.2.1, .own 5, .own 6, .own 7, .own 8, .own 9, .i r.2.2.2.2.2.2.1]), (.buf 38 (.slice (.slice T1383)) r.2.2.2.2.2.2.2.1, []), (.buf 3 (.int .i64) r.2.2.2.2.2.2.2.2.1, []), (.buf 58 T23b6 r.2.2.2.2.2.2.2.2.2.1, []), (.buf 93 T713d r.2.2.2.2.2.2.2.2.2.2.1, []), (.buf 3 (.int .i64) r.2.2.2.2.2.2.2.2.2.2.2.1, []), (.buf 3 (.int .i64) r.2.2.2.2.2.2.2.2.2.2.2.2.1, [])])⟩
abbrev Q (r : R) := CallQ 3 (out x2 x3 x4 x5 x6 x7 x8 x9 r)
noncomputable def s1 (p1 p2 p11 p12 p13 p14 p15 p16 : Int) (p17 : List Int) (p18 : List T23b6.T) (p19 : List T713d.T) (p20 p21 : List Int) (p22 : Int) (p23 : List (List (List T1383.T))) : St := ⟨85, [(1, .cv (.one (.ptr 3 0))), (13, .cv (.one (.own 4))), (14, .cv (.one (.i p1))), (15, .cv (.one (.i p2)))], (h0 x2 x3 x4 x5 x6 x7 x8 x9 [(.box 13, [.own 4, .i p11, .i p12, .i p13, .i p14, .i p15, .i p16, .sl (.int .i64) p17 .any, .sl T23b6 p18 .any, .sl T713d p19 .any, .sl (.int .i64) p20 .any, .sl (.int .i64) p21 .any, .i p22]), (.buf 38 (.slice (.slice T1383)) p23, [])])⟩
noncomputable def s2 (p1 p2 p3 p4 p5 p14 p15 p16 p17 p18 p19 : Int) (p20 : List Int) (p21 : List T23b6.T) (p22 : List T713d.T) (p23 p24 : List Int) (p25 : Int) (p26 : List (List T1383.T)) (p27 : List (List (List T1383.T))) : St := ⟨85, [(1, .cv (.one (.ptr 3 0))), (3, .cv (.one (.i p1))), (4, .cv (.one (.own 4))), (13, .cv (.one (.own 5))), (14, .cv (.one (.i p2))), (15, .cv (.one (.i p3))), (22, .cv (.one (.own 4))), (23, .cv (.one (.i p4))), (24, .cv (.one (.i p5)))], (h0 x2 x3 x4 x5 x6 x7 x8 x9 [(.box 13, [.own 5, .i p14, .i p15, .i p16, .i p17, .i p18, .i p19, .sl (.int .i64) p20 .any, .sl T23b6 p21 .any, .sl T713d p22 .any, .sl (.int .i64) p23 .any, .sl (.int .i64) p24 .any, .i p25]), (.buf 89 (.slice T1383) p26, []), (.buf 38 (.slice (.slice T1383)) p27, [])])⟩
noncomputable def b2 (x2 : T26b3.T) (x3 x4 x5 x6 x7 x8 x9 : Int) (L1 : Int → Int → Int → Int → Int → Int → Int → Int → List Int → List T23b6.T → List T713d.T → List Int → List Int → Int → List (List (List T1383.T)) → Option R) (L2 : Int → Int → Int → Int → Int → Int → Int → Int → Int → Int → Int → List Int → List T23b6.T → List T713d.T → List Int → List Int → Int → List (List T1383.T) → List (List (List T1383.T)) → Option R) (k : Nat) (p1 p2 p3 p4 p5 p14 p15 p16 p17 p18 p19 : Int) (p20 : List Int) (p21 : List T23b6.T) (p22 : List T713d.T) (p23 p24 : List Int) (p25 : Int) (p26 : List (List T1383.T)) (p27 : List (List (List T1383.T))) : Option R :=
 if (decide (p5 < p4)) = true then
 if 0 ≤ p5 then
  if p5 < (p26.length : Int) then
   (f_slices_Clone_Rule.f k (att (.slice T1383) p26 p5)).bind fun y11 =>
    L2 p1 p2 p3 p4 (IntKind.i64.wrap (p5 + 1)) p14 p15 p16 p17 p18 p19 p20 p21 p22 p23 p24 p25 (p26.set p5.toNat y11.1) p27
  else none
 else none
else
 if 0 ≤ p1 then
  if p1 < (p27.length : Int) then
   L1 p2 (IntKind.i64.wrap (p3 + 1)) p14 p15 p16 p17 p18 p19 p20 p21 p22 p23 p24 p25 (p27.set p1.toNat p26)
  else none
 else none
theorem b2_ok {r x2 x3 x4 x5 x6 x7 x8 x9} {L1 : Int → Int → Int → Int → Int → Int → Int → Int → List Int → List T23b6.T → List T713d.T → List Int → List Int → Int → List (List (List T1383.T)) → Option R} {m1 : Nat} (hL1 : ∀ p1 p2 p11 p12 p13 p14 p15 p16 p17 p18 p19 p20 p21 p22 p23, L1 p1 p2 p11 p12 p13 p14 p15 p16 p17 p18 p19 p20 p21 p22 p23 = some r → Gw P 3 (Q x2 x3 x4 x5 x6 x7 x8 x9 r) (Pb c0 43 [] m1) (s1 x2 x3 x4 x5 x6 x7 x8 x9 p1 p2 p11 p12 p13 p14 p15 p16 p17 p18 p19 p20 p21 p22 p23)) {L2 : Int → Int → Int → Int → Int → Int → Int → Int → Int → Int → Int → List Int → List T23b6.T → List T713d.T → List Int → List Int → Int → List (List T1383.T) → List (List (List T1383.T)) → Option R} {m2 : Nat} (hL2 : ∀ p1 p2 p3 p4 p5 p14 p15 p16 p17 p18 p19 p20 p21 p22 p23 p24 p25 p26 p27, L2 p1 p2 p3 p4 p5 p14 p15 p16 p17 p18 p19 p20 p21 p22 p23 p24 p25 p26 p27 = some r → Gw P 3 (Q x2 x3 x4 x5 x6 x7 x8 x9 r) (Pb c0 44235 [m1] m2) (s2 x2 x3 x4 x5 x6 x7 x8 x9 p1 p2 p3 p4 p5 p14 p15 p16 p17 p18 p19 p20 p21 p22 p23 p24 p25 p26 p27)) {k p1 p2 p3 p4 p5 p14 p15 p16 p17 p18 p19 p20 p21 p22 p23 p24 p25 p26 p27} (H : b2 x2 x3 x4 x5 x6 x7 x8 x9 L1 L2 k p1 p2 p3 p4 p5 p14 p15 p16 p17 p18 p19 p20 p21 p22 p23 p24 p25 p26 p27 = some r) : Gw P 3 (Q x2 x3 x4 x5 x6 x7 x8 x9 r) (Px c0 77003 [m1, m2]) (s2 x2 x3 x4 x5 x6 x7 x8 x9 p1 p2 p3 p4 p5 p14 p15 p16 p17 p18 p19 p20 p21 p22 p23 p24 p25 p26 p27) := by
 unfold b2 at H
 refine Ra ?_
 rcases of_ite H with ⟨hb8, H⟩ | ⟨hb8, H⟩
 ·refine C1 hb8 ?_
  obtain ⟨n9, H⟩ := of_if H
  obtain ⟨n10, H⟩ := of_if H
  refine Rg V_ok 0 [] (ac n9 (ac n10 az)) ?_
  obtain ⟨y11, e12, H⟩ := of_bind H
  refine Rg V_ok 0 [(3, hr f_slices_Clone_Rule.S y11)] (ac (f_slices_Clone_Rule.rl e12) (ac n9 (ac n10 az))) ?_
  refine Ra ?_
  exact Jm (tn [1, 3, 4, 13, 14, 15, 22, 23, 24] 6) (hL2 p1 p2 p3 p4 (IntKind.i64.wrap (p5 + 1)) p14 p15 p16 p17 p18 p19 p20 p21 p22 p23 p24 p25 (p26.set p5.toNat y11.1) p27 H)
 ·refine C0 hb8 ?_
  refine FZ 4 ?_
  obtain ⟨n13, H⟩ := of_if H
  obtain ⟨n14, H⟩ := of_if H
  refine Rg V_ok 0 [] (ac n13 (ac n14 az)) ?_
  refine Ra ?_
  exact Jm (tl [1, 13, 14, 15] [0, 1, 2, 3, 5]) (hL1 p2 (IntKind.i64.wrap (p3 + 1)) p14 p15 p16 p17 p18 p19 p20 p21 p22 p23 p24 p25 (p27.set p1.toNat p26) H)
noncomputable def l2 (L1 : Int → Int → Int → Int → Int → Int → Int → Int → List Int → List T23b6.T → List T713d.T → List Int → List Int → Int → List (List (List T1383.T)) → Option R) (k : Nat) : Nat → Int → Int → Int → Int → Int → Int → Int → Int → Int → Int → Int → List Int → List T23b6.T → List T713d.T → List Int → List Int → Int → List (List T1383.T) → List (List (List T1383.T)) → Option R
 | 0, _, _, _, _, _, _, _, _, _, _, _, _, _, _, _, _, _, _, _ => none
 | m + 1, p1, p2, p3, p4, p5, p14, p15, p16, p17, p18, p19, p20, p21, p22, p23, p24, p25, p26, p27 => b2 x2 x3 x4 x5 x6 x7 x8 x9 L1 (l2 L1 k m) k p1 p2 p3 p4 p5 p14 p15 p16 p17 p18 p19 p20 p21 p22 p23 p24 p25 p26 p27
theorem l2_ok {r x2 x3 x4 x5 x6 x7 x8 x9} {L1 : Int → Int → Int → Int → Int → Int → Int → Int → List Int → List T23b6.T → List T713d.T → List Int → List Int → Int → List (List (List T1383.T)) → Option R} {m1 : Nat} (hL1 : ∀ p1 p2 p11 p12 p13 p14 p15 p16 p17 p18 p19 p20 p21 p22 p23, L1 p1 p2 p11 p12 p13 p14 p15 p16 p17 p18 p19 p20 p21 p22 p23 = some r → Gw P 3 (Q x2 x3 x4 x5 x6 x7 x8 x9 r) (Pb c0 43 [] m1) (s1 x2 x3 x4 x5 x6 x7 x8 x9 p1 p2 p11 p12 p13 p14 p15 p16 p17 p18 p19 p20 p21 p22 p23)) (k : Nat) : ∀ (m2 : Nat) (p1 p2 p3 p4 p5 p14 p15 p16 p17 p18 p19 : Int) (p20 : List Int) (p21 : List T23b6.T) (p22 : List T713d.T) (p23 p24 : List Int) (p25 : Int) (p26 : List (List T1383.T)) (p27 : List (List (List T1383.T))), l2 x2 x3 x4 x5 x6 x7 x8 x9 L1 k m2 p1 p2 p3 p4 p5 p14 p15 p16 p17 p18 p19 p20 p21 p22 p23 p24 p25 p26 p27 = some r → Gw P 3 (Q x2 x3 x4 x5 x6 x7 x8 x9 r) (Pb c0 44235 [m1] m2) (s2 x2 x3 x4 x5 x6 x7 x8 x9 p1 p2 p3 p4 p5 p14 p15 p16 p17 p18 p19 p20 p21 p22 p23 p24 p25 p26 p27)
 | 0, _, _, _, _, _, _, _, _, _, _, _, _, _, _, _, _, _, _, _, H => by cases H
 | m2 + 1, p1, p2, p3, p4, p5, p14, p15, p16, p17, p18, p19, p20, p21, p22, p23, p24, p25, p26, p27, H => SU (by kernel_rfl) (b2_ok hL1 (l2_ok hL1 k m2) H)
noncomputable def s3 (p1 p2 p11 p12 p13 p14 p15 p16 : Int) (p17 : List Int) (p18 : List T713d.T) (p19 p20 : List Int) (p21 : Int) (p22 : List (List (List T1383.T))) (p23 : List T23b6.T) : St := ⟨85, [(1, .cv (.one (.ptr 3 0))), (47, .cv (.one (.i p1))), (48, .cv (.one (.i p2)))], (h0 x2 x3 x4 x5 x6 x7 x8 x9 [(.box 13, [.own 4, .i p11, .i p12, .i p13, .i p14, .i p15, .i p16, .sl (.int .i64) p17 .any, .own 5, .sl T713d p18 .any, .sl (.int .i64) p19 .any, .sl (.int .i64) p20 .any, .i p21]), (.buf 38 (.slice (.slice T1383)) p22, []), (.buf 58 T23b6 p23, [])])⟩
noncomputable def b3 (x2 : T26b3.T) (x3 x4 x5 x6 x7 x8 x9 : Int) (L3 : Int → Int → Int → Int → Int → Int → Int → Int → List Int → List T713d.T → List Int → List Int → Int → List (List (List T1383.T)) → List T23b6.T → Option R) (k : Nat) (p1 p2 p11 p12 p13 p14 p15 p16 : Int) (p17 : List Int) (p18 : List T713d.T) (p19 p20 : List Int) (p21 : Int) (p22 : List (List (List T1383.T))) (p23 : List T23b6.T) : Option R :=
 if (decide (p2 < p1)) = true then
 if 0 ≤ p2 then
  if p2 < (p23.length : Int) then
   (f_slices_Clone_Msg.f k (((((att T23b6 p23 p2).2).2).2).2)).bind fun y18 =>
    L3 p1 (IntKind.i64.wrap (p2 + 1)) p11 p12 p13 p14 p15 p16 p17 p18 p19 p20 p21 p22 (p23.set p2.toNat ((att T23b6 p23 p2).1, (((att T23b6 p23 p2).2).1, ((((att T23b6 p23 p2).2).2).1, (((((att T23b6 p23 p2).2).2).2).1, y18.1)))))
  else none
 else none
else
 (f_slices_Clone_intO.f k p17).bind fun y22 =>
   (f_slices_Clone_GivenO.f k p18).bind fun y24 =>
    (f_slices_Clone_intO.f k p19).bind fun y26 =>
     (f_slices_Clone_intO.f k p20).bind fun y28 =>
      some (p11, (p12, (p13, (p14, (p15, (p16, (p21, (p22, (y22.1, (p23, (y24.1, (y26.1, (y28.1, ())))))))))))))
theorem b3_ok {r x2 x3 x4 x5 x6 x7 x8 x9} {L3 : Int → Int → Int → Int → Int → Int → Int → Int → List Int → List T713d.T → List Int → List Int → Int → List (List (List T1383.T)) → List T23b6.T → Option R} {m3 : Nat} (hL3 : ∀ p1 p2 p11 p12 p13 p14 p15 p16 p17 p18 p19 p20 p21 p22 p23, L3 p1 p2 p11 p12 p13 p14 p15 p16 p17 p18 p19 p20 p21 p22 p23 = some r → Gw P 3 (Q x2 x3 x4 x5 x6 x7 x8 x9 r) (Pb c0 175 [] m3) (s3 x2 x3 x4 x5 x6 x7 x8 x9 p1 p2 p11 p12 p13 p14 p15 p16 p17 p18 p19 p20 p21 p22 p23)) {k p1 p2 p11 p12 p13 p14 p15 p16 p17 p18 p19 p20 p21 p22 p23} (H : b3 x2 x3 x4 x5 x6 x7 x8 x9 L3 k p1 p2 p11 p12 p13 p14 p15 p16 p17 p18 p19 p20 p21 p22 p23 = some r) : Gw P 3 (Q x2 x3 x4 x5 x6 x7 x8 x9 r) (Px c0 303 [m3]) (s3 x2 x3 x4 x5 x6 x7 x8 x9 p1 p2 p11 p12 p13 p14 p15 p16 p17 p18 p19 p20 p21 p22 p23) := by
 unfold b3 at H
 refine Ra ?_
 rcases of_ite H with ⟨hb17, H⟩ | ⟨hb17, H⟩
 ·refine C1 hb17 ?_
  refine Ra ?_
  obtain ⟨n19, H⟩ := of_if H
  obtain ⟨n20, H⟩ := of_if H
  obtain ⟨y18, e21, H⟩ := of_bind H
  refine Rg V_ok 0 [(10, hr f_slices_Clone_Msg.S y18)] (ac n19 (ac n20 (ac (f_slices_Clone_Msg.rl e21) (ac n19 (ac n20 az))))) ?_
  refine Ra ?_
  exact Jm (tn [1, 47, 48] 6) (hL3 p1 (IntKind.i64.wrap (p2 + 1)) p11 p12 p13 p14 p15 p16 p17 p18 p19 p20 p21 p22 (p23.set p2.toNat ((att T23b6 p23 p2).1, (((att T23b6 p23 p2).2).1, ((((att T23b6 p23 p2).2).2).1, (((((att T23b6 p23 p2).2).2).2).1, y18.1))))) H)
 ·refine C0 hb17 ?_
  obtain ⟨y22, e23, H⟩ := of_bind H
  obtain ⟨y24, e25, H⟩ := of_bind H
  obtain ⟨y26, e27, H⟩ := of_bind H
  obtain ⟨y28, e29, H⟩ := of_bind H
  let x : Nx := (Px c0 95 [])
  let t0 : St := ⟨85, [(1, .cv (.one (.ptr 3 0)))], (h0 x2 x3 x4 x5 x6 x7 x8 x9 [(.box 13, [.own 4, .i p11, .i p12, .i p13, .i p14, .i p15, .i p16, .sl (.int .i64) p17 .any, .own 5, .sl T713d p18 .any, .sl (.int .i64) p19 .any, .sl (.int .i64) p20 .any, .i p21]), (.buf 38 (.slice (.slice T1383)) p22, []), (.buf 58 T23b6 p23, [])])⟩
  refine Jm (x' := x) (τ := t0) (tn [1] 6) ?_
  let Φ := phiX P 3 (Q x2 x3 x4 x5 x6 x7 x8 x9 r) x
  let o := fun (k m : Nat) (t : St) => WA P 3 (opsX x) k (bs 20 m) Φ t
  let t1 : St := stpS V x 0 [] 0 (tn [1, 66] 6) t0
  let t2 : St := stpS V x 0 [] 3 (tn [1, 66, 69] 6) t1
  let t3 : St := stpS V x 0 [] 6 (tn [1, 66, 69, 72] 6) t2
  let t4 : St := stpS V x 0 [] 9 (tn [1, 66, 69, 72, 75] 6) t3
  let t5 : St := stpS V x 0 [] 1 (tn [1, 67, 69, 72, 75] 6) t4
  let t6 : St := stpS V x 0 [] 4 (tn [1, 66, 70, 72, 75] 6) t4
  let t7 : St := stpS V x 0 [] 7 (tn [1, 66, 69, 73, 75] 6) t4
  let t8 : St := stpS V x 0 [] 10 (tn [1, 66, 69, 72, 76] 6) t4
  let t9 : St := stpS V x 1 [(2, {sb := 6, res := some ⟨f_slices_Clone_intO.S.rs, y22⟩})] 2 (tl [1, 68, 69, 72, 75] [0, 1, 2, 3, 6, 4, 5]) t5
  let t10 : St := stpS V x 0 [] 4 (tn [1, 67, 70, 72, 75] 6) t5
  let t11 : St := stpS V x 0 [] 7 (tn [1, 67, 69, 73, 75] 6) t5
  let t12 : St := stpS V x 0 [] 10 (tn [1, 67, 69, 72, 76] 6) t5
  let t13 : St := stpS V x 0 [] 7 (tn [1, 66, 70, 73, 75] 6) t6
  let t14 : St := stpS V x 0 [] 10 (tn [1, 66, 70, 72, 76] 6) t6
  let t15 : St := stpS V x 0 [] 10 (tn [1, 66, 69, 73, 76] 6) t7
  let t16 : St := stpS V x 0 [] 4 (tn [1, 68, 70, 72, 75] 7) t9
  let t17 : St := stpS V x 0 [] 7 (tn [1, 68, 69, 73, 75] 7) t9
  let t18 : St := stpS V x 0 [] 10 (tn [1, 68, 69, 72, 76] 7) t9
  let t19 : St := stpS V x 0 [] 7 (tn [1, 67, 70, 73, 75] 6) t10
  let t20 : St := stpS V x 0 [] 10 (tn [1, 67, 70, 72, 76] 6) t10
  let t21 : St := stpS V x 0 [] 10 (tn [1, 67, 69, 73, 76] 6) t11
  let t22 : St := stpS V x 0 [] 10 (tn [1, 66, 70, 73, 76] 6) t13
  let t23 : St := stpS V x 1 [(5, {sb := 7, res := some ⟨f_slices_Clone_GivenO.S.rs, y24⟩})] 5 (tl [1, 68, 71, 72, 75] [0, 1, 2, 3, 4, 7, 5, 6]) t16
  let t24 : St := stpS V x 0 [] 7 (tn [1, 68, 70, 73, 75] 7) t16
  let t25 : St := stpS V x 0 [] 10 (tn [1, 68, 70, 72, 76] 7) t16
  let t26 : St := stpS V x 0 [] 10 (tn [1, 68, 69, 73, 76] 7) t17
  let t27 : St := stpS V x 0 [] 10 (tn [1, 67, 70, 73, 76] 6) t19
  let t28 : St := stpS V x 0 [] 7 (tn [1, 68, 71, 73, 75] 8) t23
  let t29 : St := stpS V x 0 [] 10 (tn [1, 68, 71, 72, 76] 8) t23
  let t30 : St := stpS V x 0 [] 10 (tn [1, 68, 70, 73, 76] 7) t24
  let t31 : St := stpS V x 1 [(8, {sb := 8, res := some ⟨f_slices_Clone_intO.S.rs, y26⟩})] 8 (tl [1, 68, 71, 74, 75] [0, 1, 2, 3, 4, 5, 8, 6, 7]) t28
  let t32 : St := stpS V x 0 [] 10 (tn [1, 68, 71, 73, 76] 8) t28
  let t33 : St := stpS V x 0 [] 12 (tn [1, 68, 70, 73, 76, 78] 7) t30
  let t34 : St := stpS V x 0 [] 10 (tn [1, 68, 71, 74, 76] 9) t31
  let t35 : St := stpS V x 0 [] 12 (tn [1, 68, 71, 73, 76, 78] 8) t32
  let t36 : St := stpS V x 0 [] 12 (tn [1, 68, 71, 74, 76, 78] 9) t34
  let t37 : St := stpS V x 1 [(11, {sb := 9, res := some ⟨f_slices_Clone_intO.S.rs, y28⟩})] 11 (tl [1, 68, 71, 74, 77, 78] [0, 1, 2, 3, 4, 5, 6, 9, 7, 8]) t36
  let t38 : St := stpS V x 0 [] 13 (tl [1, 71, 74, 77] [0, 1, 2, 3, 5, 6, 7, 8, 4, 9]) t37
  let t39 : St := stpS V x 0 [] 14 (tn [1, 71, 74, 77, 79] 10) t38
  let t40 : St := stpS V x 0 [] 15 (tl [1, 74, 77] [0, 1, 2, 3, 5, 6, 7, 8, 9, 4]) t39
  let t41 : St := stpS V x 0 [] 16 (tn [1, 74, 77, 80] 10) t40
  let t42 : St := stpS V x 0 [] 17 (tl [1, 77] [0, 1, 2, 3, 5, 6, 7, 8, 9, 4]) t41
  let t43 : St := stpS V x 0 [] 18 (tn [1, 77, 81] 10) t42
  let t44 : St := stpS V x 0 [] 19 (tl [1] [0, 1, 2, 3, 5, 6, 7, 8, 9, 4]) t43
  have w44 : o 0 1048575 t44 := by
   refine WA_nil (by kernel_rfl) (RAn (by kernel_rfl) ?_)
   refine Rg V_ok 1 [(2, hb 10)] az ?_
   obtain rfl := Option.some.inj H
   exact Lq (tl [2] [0, 1, 2, 10, 4, 5, 6, 7, 8, 9])
  have w43 : o 1 524287 t43 := WAs (an (We az w44) aN)
  have w42 : o 2 262143 t42 := Wt az w43
  have w41 : o 3 131071 t41 := WAs (an (We az w42) aN)
  have w40 : o 4 65535 t40 := Wt az w41
  have w39 : o 5 32767 t39 := WAs (an (We az w40) aN)
  have w38 : o 6 16383 t38 := Wt az w39
  have w37 : o 7 8191 t37 := WAs (an (We az w38) aN)
  have w36 : o 8 6143 t36 := WAs (an (We (ac (f_slices_Clone_intO.rl e29) az) w37) aN)
  have w35 : o 9 5887 t35 := WAs (an (WE V_ok 1 [(8, {sb := 8, res := some ⟨f_slices_Clone_intO.S.rs, y26⟩})] 8 (tl [1, 68, 71, 74, 76, 78] [0, 1, 2, 3, 4, 5, 8, 6, 7]) (ac (f_slices_Clone_intO.rl e27) az) w36) aN)
  have w34 : o 9 2047 t34 := Wt az w36
  have w33 : o 10 5855 t33 := WAs (an (WE V_ok 1 [(5, {sb := 7, res := some ⟨f_slices_Clone_GivenO.S.rs, y24⟩})] 5 (tl [1, 68, 71, 73, 76, 78] [0, 1, 2, 3, 4, 7, 5, 6]) (ac (f_slices_Clone_GivenO.rl e25) az) w35) aN)
  have w32 : o 10 1791 t32 := Wt az w35
  have w31 : o 10 1023 t31 := WAs (an (We az w34) aN)
  have w30 : o 11 1759 t30 := Wt az w33
  have w29 : o 11 1663 t29 := WAs (an (WE V_ok 0 [] 7 (tn [1, 68, 71, 73, 76] 8) az w32) aN)
  have w28 : o 11 767 t28 := WAs (an (We (ac (f_slices_Clone_intO.rl e27) az) w31) (an (We az w32) aN))
  have w27 : o 12 1755 t27 := WAs (an (WE V_ok 1 [(2, {sb := 6, res := some ⟨f_slices_Clone_intO.S.rs, y22⟩})] 2 (tl [1, 68, 70, 73, 76] [0, 1, 2, 3, 6, 4, 5]) (ac (f_slices_Clone_intO.rl e23) az) w30) aN)
  have w26 : o 12 1743 t26 := WAs (an (WE V_ok 0 [] 4 (tn [1, 68, 70, 73, 76] 7) az w30) aN)
  have w25 : o 12 1631 t25 := WAs (an (WE V_ok 1 [(5, {sb := 7, res := some ⟨f_slices_Clone_GivenO.S.rs, y24⟩})] 5 (tl [1, 68, 71, 72, 76] [0, 1, 2, 3, 4, 7, 5, 6]) (ac (f_slices_Clone_GivenO.rl e25) az) w29) (an (WE V_ok 0 [] 7 (tn [1, 68, 70, 73, 76] 7) az w30) aN))
  have w24 : o 12 735 t24 := WAs (an (WE V_ok 1 [(5, {sb := 7, res := some ⟨f_slices_Clone_GivenO.S.rs, y24⟩})] 5 (tl [1, 68, 71, 73, 75] [0, 1, 2, 3, 4, 7, 5, 6]) (ac (f_slices_Clone_GivenO.rl e25) az) w28) (an (We az w30) aN))
  have w23 : o 12 639 t23 := WAs (an (We az w28) (an (We az w29) aN))
  have w22 : o 13 1753 t22 := WAs (an (WE V_ok 0 [] 1 (tn [1, 67, 70, 73, 76] 6) az w27) aN)
  have w21 : o 13 1739 t21 := WAs (an (WE V_ok 1 [(2, {sb := 6, res := some ⟨f_slices_Clone_intO.S.rs, y22⟩})] 2 (tl [1, 68, 69, 73, 76] [0, 1, 2, 3, 6, 4, 5]) (ac (f_slices_Clone_intO.rl e23) az) w26) (an (WE V_ok 0 [] 4 (tn [1, 67, 70, 73, 76] 6) az w27) aN))
  have w20 : o 13 1627 t20 := WAs (an (WE V_ok 1 [(2, {sb := 6, res := some ⟨f_slices_Clone_intO.S.rs, y22⟩})] 2 (tl [1, 68, 70, 72, 76] [0, 1, 2, 3, 6, 4, 5]) (ac (f_slices_Clone_intO.rl e23) az) w25) (an (WE V_ok 0 [] 7 (tn [1, 67, 70, 73, 76] 6) az w27) aN))
  have w19 : o 13 731 t19 := WAs (an (WE V_ok 1 [(2, {sb := 6, res := some ⟨f_slices_Clone_intO.S.rs, y22⟩})] 2 (tl [1, 68, 70, 73, 75] [0, 1, 2, 3, 6, 4, 5]) (ac (f_slices_Clone_intO.rl e23) az) w24) (an (We az w27) aN))
  have w18 : o 13 1615 t18 := WAs (an (WE V_ok 0 [] 4 (tn [1, 68, 70, 72, 76] 7) az w25) (an (WE V_ok 0 [] 7 (tn [1, 68, 69, 73, 76] 7) az w26) aN))
  have w17 : o 13 719 t17 := WAs (an (WE V_ok 0 [] 4 (tn [1, 68, 70, 73, 75] 7) az w24) (an (We az w26) aN))
  have w16 : o 13 607 t16 := WAs (an (We (ac (f_slices_Clone_GivenO.rl e25) az) w23) (an (We az w24) (an (We az w25) aN)))
  have w15 : o 14 1737 t15 := WAs (an (WE V_ok 0 [] 1 (tn [1, 67, 69, 73, 76] 6) az w21) (an (WE V_ok 0 [] 4 (tn [1, 66, 70, 73, 76] 6) az w22) aN))
  have w14 : o 14 1625 t14 := WAs (an (WE V_ok 0 [] 1 (tn [1, 67, 70, 72, 76] 6) az w20) (an (WE V_ok 0 [] 7 (tn [1, 66, 70, 73, 76] 6) az w22) aN))
  have w13 : o 14 729 t13 := WAs (an (WE V_ok 0 [] 1 (tn [1, 67, 70, 73, 75] 6) az w19) (an (We az w22) aN))
  have w12 : o 14 1611 t12 := WAs (an (WE V_ok 1 [(2, {sb := 6, res := some ⟨f_slices_Clone_intO.S.rs, y22⟩})] 2 (tl [1, 68, 69, 72, 76] [0, 1, 2, 3, 6, 4, 5]) (ac (f_slices_Clone_intO.rl e23) az) w18) (an (WE V_ok 0 [] 4 (tn [1, 67, 70, 72, 76] 6) az w20) (an (WE V_ok 0 [] 7 (tn [1, 67, 69, 73, 76] 6) az w21) aN)))
  have w11 : o 14 715 t11 := WAs (an (WE V_ok 1 [(2, {sb := 6, res := some ⟨f_slices_Clone_intO.S.rs, y22⟩})] 2 (tl [1, 68, 69, 73, 75] [0, 1, 2, 3, 6, 4, 5]) (ac (f_slices_Clone_intO.rl e23) az) w17) (an (WE V_ok 0 [] 4 (tn [1, 67, 70, 73, 75] 6) az w19) (an (We az w21) aN)))
  have w10 : o 14 603 t10 := WAs (an (WE V_ok 1 [(2, {sb := 6, res := some ⟨f_slices_Clone_intO.S.rs, y22⟩})] 2 (tl [1, 68, 70, 72, 75] [0, 1, 2, 3, 6, 4, 5]) (ac (f_slices_Clone_intO.rl e23) az) w16) (an (We az w19) (an (We az w20) aN)))
  have w9 : o 14 591 t9 := WAs (an (We az w16) (an (We az w17) (an (We az w18) aN)))
  have w8 : o 15 1609 t8 := WAs (an (WE V_ok 0 [] 1 (tn [1, 67, 69, 72, 76] 6) az w12) (an (WE V_ok 0 [] 4 (tn [1, 66, 70, 72, 76] 6) az w14) (an (WE V_ok 0 [] 7 (tn [1, 66, 69, 73, 76] 6) az w15) aN)))
  have w7 : o 15 713 t7 := WAs (an (WE V_ok 0 [] 1 (tn [1, 67, 69, 73, 75] 6) az w11) (an (WE V_ok 0 [] 4 (tn [1, 66, 70, 73, 75] 6) az w13) (an (We az w15) aN)))
  have w6 : o 15 601 t6 := WAs (an (WE V_ok 0 [] 1 (tn [1, 67, 70, 72, 75] 6) az w10) (an (We az w13) (an (We az w14) aN)))
  have w5 : o 15 587 t5 := WAs (an (We (ac (f_slices_Clone_intO.rl e23) az) w9) (an (We az w10) (an (We az w11) (an (We az w12) aN))))
  have w4 : o 16 585 t4 := WAs (an (We az w5) (an (We az w6) (an (We az w7) (an (We az w8) aN))))
  have w3 : o 17 73 t3 := Wt az w4
  have w2 : o 18 9 t2 := Wt az w3
  have w1 : o 19 1 t1 := Wt az w2
  have w0 : o 20 0 t0 := Wt az w1
  exact RA V_ok 20 (by kernel_rfl) (by kernel_rfl) (by kernel_rfl) w0
noncomputable def l3 (k : Nat) : Nat → Int → Int → Int → Int → Int → Int → Int → Int → List Int → List T713d.T → List Int → List Int → Int → List (List (List T1383.T)) → List T23b6.T → Option R
 | 0, _, _, _, _, _, _, _, _, _, _, _, _, _, _, _ => none
 | m + 1, p1, p2, p11, p12, p13, p14, p15, p16, p17, p18, p19, p20, p21, p22, p23 => b3 x2 x3 x4 x5 x6 x7 x8 x9 (l3 k m) k p1 p2 p11 p12 p13 p14 p15 p16 p17 p18 p19 p20 p21 p22 p23
theorem l3_ok {r x2 x3 x4 x5 x6 x7 x8 x9} (k : Nat) : ∀ (m3 : Nat) (p1 p2 p11 p12 p13 p14 p15 p16 : Int) (p17 : List Int) (p18 : List T713d.T) (p19 p20 : List Int) (p21 : Int) (p22 : List (List (List T1383.T))) (p23 : List T23b6.T), l3 x2 x3 x4 x5 x6 x7 x8 x9 k m3 p1 p2 p11 p12 p13 p14 p15 p16 p17 p18 p19 p20 p21 p22 p23 = some r → Gw P 3 (Q x2 x3 x4 x5 x6 x7 x8 x9 r) (Pb c0 175 [] m3) (s3 x2 x3 x4 x5 x6 x7 x8 x9 p1 p2 p11 p12 p13 p14 p15 p16 p17 p18 p19 p20 p21 p22 p23)
 | 0, _, _, _, _, _, _, _, _, _, _, _, _, _, _, _, H => by cases H
 | m3 + 1, p1, p2, p11, p12, p13, p14, p15, p16, p17, p18, p19, p20, p21, p22, p23, H => SU (by kernel_rfl) (b3_ok (l3_ok k m3) H)
noncomputable def b1 (L1 : Int → Int → Int → Int → Int → Int → Int → Int → List Int → List T23b6.T → List T713d.T → List Int → List Int → Int → List (List (List T1383.T)) → Option R) (k : Nat) (p1 p2 p11 p12 p13 p14 p15 p16 : Int) (p17 : List Int) (p18 : List T23b6.T) (p19 : List T713d.T) (p20 p21 : List Int) (p22 : Int) (p23 : List (List (List T1383.T))) : Option R :=
 if (decide (p2 < p1)) = true then
 if 0 ≤ p2 then
  if p2 < (p23.length : Int) then
   (f_slices_Clone_Conf_RuleO.f k (att (.slice (.slice T1383)) p23 p2)).bind fun y6 =>
    l2 x2 x3 x4 x5 x6 x7 x8 x9 L1 k k p2 p1 p2 (y6.1.length : Int) 0 p11 p12 p13 p14 p15 p16 p17 p18 p19 p20 p21 p22 y6.1 p23
  else none
 else none
else
 (f_slices_Clone_PeerO.f k p18).bind fun y15 =>
  l3 x2 x3 x4 x5 x6 x7 x8 x9 k k (y15.1.length : Int) 0 p11 p12 p13 p14 p15 p16 p17 p19 p20 p21 p22 p23 y15.1
theorem b1_ok {r x2 x3 x4 x5 x6 x7 x8 x9} {L1 : Int → Int → Int → Int → Int → Int → Int → Int → List Int → List T23b6.T → List T713d.T → List Int → List Int → Int → List (List (List T1383.T)) → Option R} {m1 : Nat} (hL1 : ∀ p1 p2 p11 p12 p13 p14 p15 p16 p17 p18 p19 p20 p21 p22 p23, L1 p1 p2 p11 p12 p13 p14 p15 p16 p17 p18 p19 p20 p21 p22 p23 = some r → Gw P 3 (Q x2 x3 x4 x5 x6 x7 x8 x9 r) (Pb c0 43 [] m1) (s1 x2 x3 x4 x5 x6 x7 x8 x9 p1 p2 p11 p12 p13 p14 p15 p16 p17 p18 p19 p20 p21 p22 p23)) {k p1 p2 p11 p12 p13 p14 p15 p16 p17 p18 p19 p20 p21 p22 p23} (H : b1 x2 x3 x4 x5 x6 x7 x8 x9 L1 k p1 p2 p11 p12 p13 p14 p15 p16 p17 p18 p19 p20 p21 p22 p23 = some r) : Gw P 3 (Q x2 x3 x4 x5 x6 x7 x8 x9 r) (Px c0 75 [m1]) (s1 x2 x3 x4 x5 x6 x7 x8 x9 p1 p2 p11 p12 p13 p14 p15 p16 p17 p18 p19 p20 p21 p22 p23) := by
 unfold b1 at H
 refine Ra ?_
 rcases of_ite H with ⟨hb3, H⟩ | ⟨hb3, H⟩
 ·refine C1 hb3 ?_
  obtain ⟨n4, H⟩ := of_if H
  obtain ⟨n5, H⟩ := of_if H
  refine Rg V_ok 0 [] (ac n4 (ac n5 az)) ?_
  obtain ⟨y6, e7, H⟩ := of_bind H
  refine Rg V_ok 1 [(1, {sb := 5, res := some ⟨f_slices_Clone_Conf_RuleO.S.rs, y6⟩})] (ac (f_slices_Clone_Conf_RuleO.rl e7) az) ?_
  refine Ra ?_
  exact LP k (Jm (tl [1, 3, 4, 13, 14, 15, 22, 23, 24] [0, 1, 2, 3, 5, 4]) (l2_ok hL1 k k p2 p1 p2 (y6.1.length : Int) 0 p11 p12 p13 p14 p15 p16 p17 p18 p19 p20 p21 p22 y6.1 p23 H))
 ·refine C0 hb3 ?_
  obtain ⟨y15, e16, H⟩ := of_bind H
  refine Rg V_ok 1 [(2, {sb := 5, res := some ⟨f_slices_Clone_PeerO.S.rs, y15⟩})] (ac (f_slices_Clone_PeerO.rl e16) az) ?_
  refine Ra ?_
  exact LP k (Jm (tn [1, 47, 48] 6) (l3_ok k k (y15.1.length : Int) 0 p11 p12 p13 p14 p15 p16 p17 p19 p20 p21 p22 p23 y15.1 H))
noncomputable def l1 (k : Nat) : Nat → Int → Int → Int → Int → Int → Int → Int → Int → List Int → List T23b6.T → List T713d.T → List Int → List Int → Int → List (List (List T1383.T)) → Option R
 | 0, _, _, _, _, _, _, _, _, _, _, _, _, _, _, _ => none
 | m + 1, p1, p2, p11, p12, p13, p14, p15, p16, p17, p18, p19, p20, p21, p22, p23 => b1 x2 x3 x4 x5 x6 x7 x8 x9 (l1 k m) k p1 p2 p11 p12 p13 p14 p15 p16 p17 p18 p19 p20 p21 p22 p23
theorem l1_ok {r x2 x3 x4 x5 x6 x7 x8 x9} (k : Nat) : ∀ (m1 : Nat) (p1 p2 p11 p12 p13 p14 p15 p16 : Int) (p17 : List Int) (p18 : List T23b6.T) (p19 : List T713d.T) (p20 p21 : List Int) (p22 : Int) (p23 : List (List (List T1383.T))), l1 x2 x3 x4 x5 x6 x7 x8 x9 k m1 p1 p2 p11 p12 p13 p14 p15 p16 p17 p18 p19 p20 p21 p22 p23 = some r → Gw P 3 (Q x2 x3 x4 x5 x6 x7 x8 x9 r) (Pb c0 43 [] m1) (s1 x2 x3 x4 x5 x6 x7 x8 x9 p1 p2 p11 p12 p13 p14 p15 p16 p17 p18 p19 p20 p21 p22 p23)
 | 0, _, _, _, _, _, _, _, _, _, _, _, _, _, _, _, H => by cases H
 | m1 + 1, p1, p2, p11, p12, p13, p14, p15, p16, p17, p18, p19, p20, p21, p22, p23, H => SU (by kernel_rfl) (b1_ok (l1_ok k m1) H)
noncomputable def f (k : Nat) (x1 x2 : T26b3.T) (x3 x4 x5 x6 x7 x8 x9 : Int) : Option R :=
 (f_slices_Clone_ConfO.f k x1.1).bind fun y1 =>
  l1 x2 x3 x4 x5 x6 x7 x8 x9 k k (y1.1.length : Int) 0 x1.2.1 x1.2.2.1 x1.2.2.2.1 x1.2.2.2.2.1 x1.2.2.2.2.2.1 x1.2.2.2.2.2.2.1 x1.2.2.2.2.2.2.2.1 x1.2.2.2.2.2.2.2.2.1 x1.2.2.2.2.2.2.2.2.2.1 x1.2.2.2.2.2.2.2.2.2.2.1 x1.2.2.2.2.2.2.2.2.2.2.2.1 x1.2.2.2.2.2.2.2.2.2.2.2.2 y1.1
theorem f_ok {r k x1 x2 x3 x4 x5 x6 x7 x8 x9} (H : f k x1 x2 x3 x4 x5 x6 x7 x8 x9 = some r) : Gw P 3 (Q x2 x3 x4 x5 x6 x7 x8 x9 r) (Px c0 1 []) (s0 x1 x2 x3 x4 x5 x6 x7 x8 x9) := by
 unfold f at H
 refine Rg V_ok 1 [(0, hb 3)] az ?_
 obtain ⟨y1, e2, H⟩ := of_bind H
 refine Rg V_ok 1 [(2, {sb := 4, res := some ⟨f_slices_Clone_ConfO.S.rs, y1⟩})] (ac (f_slices_Clone_ConfO.rl e2) az) ?_
 refine Ra ?_
 exact LP k (Jm (tn [1, 13, 14, 15] 5) (l1_ok k k (y1.1.length : Int) 0 x1.2.1 x1.2.2.1 x1.2.2.2.1 x1.2.2.2.2.1 x1.2.2.2.2.2.1 x1.2.2.2.2.2.2.1 x1.2.2.2.2.2.2.2.1 x1.2.2.2.2.2.2.2.2.1 x1.2.2.2.2.2.2.2.2.2.1 x1.2.2.2.2.2.2.2.2.2.2.1 x1.2.2.2.2.2.2.2.2.2.2.2.1 x1.2.2.2.2.2.2.2.2.2.2.2.2 y1.1 H))
theorem at_ : FnAt P 32 85 c0 f32.results := fnA func32
end i_control_own_b6am
namespace i_control_controller_two_ad0
noncomputable def c0 : Code := bo f83
noncomputable def V : Env := eV [(119, f_slices_Contains_int.S)]
theorem V_ok : EnvOk P V := eOk (slk_cons f_slices_Contains_int.fits (slk_nil))
variable (x1 : T26b3.T) (x2 x3 x4 x5 x6 x7 x8 x9 x10 x11 x12 x13 x14 x15 : Int) (x16 : List (List (List T1383.T))) (x17 : List Int) (x18 : List T23b6.T) (x19 : List T713d.T) (x20 x21 : List Int)
noncomputable def h0 (l : Hl) : Hl := (.box 13, (encC .any T26b3 x1)) :: (.box 13, [.nils, .i x2, .i x3, .i x4, .i x5, .i x6, .i x7, .nils, .nils, .nils, .nils, .nils, .i x8]) :: (.box 6, [.fn 46 [] [], .fn 47 [] [], .fn 48 [] [], .fn 49 [] [], .fn 50 [] [], .fn 50 [] []]) :: (.box 13, [.own 4, .i x9, .i x10, .i x11, .i x12, .i x13, .i x14, .own 5, .own 6, .own 7, .own 8, .own 9, .i x15]) :: (.buf 38 (.slice (.slice T1383)) x16, []) :: (.buf 3 (.int .i64) x17, []) :: (.buf 58 T23b6 x18, []) :: (.buf 93 T713d x19, []) :: (.buf 3 (.int .i64) x20, []) :: (.buf 3 (.int .i64) x21, []) :: (.box 1, [.ptr 3 0]) :: l
abbrev R := (Bool) × Unit
noncomputable def s0 : St := ⟨10, [(0, .cv (.one (.ptr 3 0)))], (h0 x1 x2 x3 x4 x5 x6 x7 x8 x9 x10 x11 x12 x13 x14 x15 x16 x17 x18 x19 x20 x21 [])⟩
noncomputable def out (r : R) : St := ⟨10, [(2, .cv (.one (.bool r.1)))], (h0 x1 x2 x3 x4 x5 x6 x7 x8 x9 x10 x11 x12 x13 x14 x15 x16 x17 x18 x19 x20 x21 [])⟩
abbrev Q (r : R) := CallQ 11 (out x1 x2 x3 x4 x5 x6 x7 x8 x9 x10 x11 x12 x13 x14 x15 x16 x17 x18 x19 x20 x21 r)
noncomputable def f (k : Nat) (x1 : T26b3.T) (x2 x3 x4 x5 x6 x7 x8 x9 x10 x11 x12 x13 x14 x15 : Int) (x16 : List (List (List T1383.T))) (x17 : List Int) (x18 : List T23b6.T) (x19 : List T713d.T) (x20 x21 : List Int) : Option R :=
 (f_slices_Contains_int.f k [1, 2, 3] x13).bind fun y1 =>
  some (y1.1, ())
theorem f_ok {r k x1 x2 x3 x4 x5 x6 x7 x8 x9 x10 x11 x12 x13 x14 x15 x16 x17 x18 x19 x20 x21} (H : f k x1 x2 x3 x4 x5 x6 x7 x8 x9 x10 x11 x12 x13 x14 x15 x16 x17 x18 x19 x20 x21 = some r) : Gw P 11 (Q x1 x2 x3 x4 x5 x6 x7 x8 x9 x10 x11 x12 x13 x14 x15 x16 x17 x18 x19 x20 x21 r) (Px c0 1 []) (s0 x1 x2 x3 x4 x5 x6 x7 x8 x9 x10 x11 x12 x13 x14 x15 x16 x17 x18 x19 x20 x21) := by
 unfold f at H
 refine Ra ?_
 obtain ⟨y1, e2, H⟩ := of_bind H
 refine Rg V_ok 0 [(6, hr f_slices_Contains_int.S y1)] (ac (f_slices_Contains_int.rl e2) az) ?_
 obtain rfl := Option.some.inj H
 exact Lq (tn [2] 11)
theorem at_ : FnAt P 83 10 c0 f83.results := fnA func83
end i_control_controller_two_ad0
namespace i_control_controller_is_1_db3
noncomputable def c0 : Code := bo f82
noncomputable def V : Env := eV []
theorem V_ok : EnvOk P V := eOk (slk_nil)
variable (x1 : Int) (x2 : T26b3.T) (x3 x4 x5 x6 x7 x8 x9 x10 x11 x12 x13 x14 x15 x16 : Int) (x17 : List (List (List T1383.T))) (x18 : List Int) (x19 : List T23b6.T) (x20 : List T713d.T) (x21 x22 : List Int)
noncomputable def h0 (l : Hl) : Hl := (.box 13, (encC .any T26b3 x2)) :: (.box 13, [.nils, .i x3, .i x4, .i x5, .i x6, .i x7, .i x8, .nils, .nils, .nils, .nils, .nils, .i x9]) :: (.box 6, [.fn 46 [] [], .fn 47 [] [], .fn 48 [] [], .fn 49 [] [], .fn 50 [] [], .fn 50 [] []]) :: (.box 13, [.own 4, .i x10, .i x11, .i x12, .i x13, .i x14, .i x15, .own 5, .own 6, .own 7, .own 8, .own 9, .i x16]) :: (.buf 38 (.slice (.slice T1383)) x17, []) :: (.buf 3 (.int .i64) x18, []) :: (.buf 58 T23b6 x19, []) :: (.buf 93 T713d x20, []) :: (.buf 3 (.int .i64) x21, []) :: (.buf 3 (.int .i64) x22, []) :: (.box 1, [.ptr 3 0]) :: l
abbrev R := (Bool) × Unit
noncomputable def s0 : St := ⟨16, [(0, .cv (.one (.i x1))), (1, .cv (.one (.ptr 10 0)))], (h0 x2 x3 x4 x5 x6 x7 x8 x9 x10 x11 x12 x13 x14 x15 x16 x17 x18 x19 x20 x21 x22 [])⟩
noncomputable def out (r : R) : St := ⟨16, [(3, .cv (.one (.bool r.1)))], (h0 x2 x3 x4 x5 x6 x7 x8 x9 x10 x11 x12 x13 x14 x15 x16 x17 x18 x19 x20 x21 x22 [])⟩
abbrev Q (r : R) := CallQ 11 (out x2 x3 x4 x5 x6 x7 x8 x9 x10 x11 x12 x13 x14 x15 x16 x17 x18 x19 x20 x21 x22 r)
noncomputable def f (k : Nat) (x1 : Int) (x2 : T26b3.T) (x3 x4 x5 x6 x7 x8 x9 x10 x11 x12 x13 x14 x15 x16 : Int) (x17 : List (List (List T1383.T))) (x18 : List Int) (x19 : List T23b6.T) (x20 : List T713d.T) (x21 x22 : List Int) : Option R :=
 if (decide (x1 < (0 : Int))) = true then
  some (true, ())
 else
  some ((decide (x1 ≥ (x17.length : Int))), ())
theorem f_ok {r k x1 x2 x3 x4 x5 x6 x7 x8 x9 x10 x11 x12 x13 x14 x15 x16 x17 x18 x19 x20 x21 x22} (H : f k x1 x2 x3 x4 x5 x6 x7 x8 x9 x10 x11 x12 x13 x14 x15 x16 x17 x18 x19 x20 x21 x22 = some r) : Gw P 11 (Q x2 x3 x4 x5 x6 x7 x8 x9 x10 x11 x12 x13 x14 x15 x16 x17 x18 x19 x20 x21 x22 r) (Px c0 1 []) (s0 x1 x2 x3 x4 x5 x6 x7 x8 x9 x10 x11 x12 x13 x14 x15 x16 x17 x18 x19 x20 x21 x22) := by
 unfold f at H
 refine Ra ?_
 rcases of_ite H with ⟨hb1, H⟩ | ⟨hb1, H⟩
 ·refine Rg V_ok 0 [(1, {bv := some true})] (ac hb1 az) ?_
  obtain rfl := Option.some.inj H
  exact Lq (tn [3] 11)
 ·refine Rg V_ok 0 [(1, {bv := some false})] (ac hb1 az) ?_
  obtain rfl := Option.some.inj H
  exact Lq (tn [3] 11)
theorem at_ : FnAt P 82 16 c0 f82.results := fnA func82
end i_control_controller_is_1_db3
namespace i_slices_IndexFunc_int_336
noncomputable def c0 : Code := bo f120
noncomputable def V : Env := eV []
theorem V_ok : EnvOk P V := eOk (slk_nil)
variable (x1 : T26b3.T) (x2 x3 x4 x5 x6 x7 x8 x9 x10 x11 x12 x13 x14 x15 : Int) (x16 : List (List (List T1383.T))) (x17 : List Int) (x18 : List T23b6.T) (x19 : List T713d.T) (x20 x21 : List Int)
noncomputable def h0 (l : Hl) : Hl := (.box 13, (encC .any T26b3 x1)) :: (.box 13, [.nils, .i x2, .i x3, .i x4, .i x5, .i x6, .i x7, .nils, .nils, .nils, .nils, .nils, .i x8]) :: (.box 6, [.fn 46 [] [], .fn 47 [] [], .fn 48 [] [], .fn 49 [] [], .fn 50 [] [], .fn 50 [] []]) :: (.box 13, [.own 4, .i x9, .i x10, .i x11, .i x12, .i x13, .i x14, .own 5, .own 6, .own 7, .own 8, .own 9, .i x15]) :: (.buf 38 (.slice (.slice T1383)) x16, []) :: (.buf 3 (.int .i64) x17, []) :: (.buf 58 T23b6 x18, []) :: (.buf 93 T713d x19, []) :: (.buf 3 (.int .i64) x20, []) :: (.buf 3 (.int .i64) x21, []) :: (.box 1, [.ptr 3 0]) :: l
abbrev R := (Int) × Unit
noncomputable def s0 : St := ⟨19, [(0, .cv (.one (.own 5))), (1, .cv (.one (.fn 82 [] [(10, 0)])))], (h0 x1 x2 x3 x4 x5 x6 x7 x8 x9 x10 x11 x12 x13 x14 x15 x16 x17 x18 x19 x20 x21 [])⟩
noncomputable def out (r : R) : St := ⟨19, [(4, .cv (.one (.i r.1)))], (h0 x1 x2 x3 x4 x5 x6 x7 x8 x9 x10 x11 x12 x13 x14 x15 x16 x17 x18 x19 x20 x21 [])⟩
abbrev Q (r : R) := CallQ 11 (out x1 x2 x3 x4 x5 x6 x7 x8 x9 x10 x11 x12 x13 x14 x15 x16 x17 x18 x19 x20 x21 r)
noncomputable def s1 (p1 p2 : Int) : St := ⟨19, [(0, .cv (.one (.own 5))), (1, .cv (.one (.fn 82 [] [(10, 0)]))), (7, .cv (.one (.i p1))), (8, .cv (.one (.i p2)))], (h0 x1 x2 x3 x4 x5 x6 x7 x8 x9 x10 x11 x12 x13 x14 x15 x16 x17 x18 x19 x20 x21 [])⟩
noncomputable def b1 (L1 : Int → Int → Option R) (k : Nat) (p1 p2 : Int) : Option R :=
 if (decide (p2 < p1)) = true then
 if 0 ≤ p2 then
  if p2 < (x17.length : Int) then
   (i_control_controller_is_1_db3.f k (att (.int .i64) x17 p2) x1 x2 x3 x4 x5 x6 x7 x8 x9 x10 x11 x12 x13 x14 x15 x16 x17 x18 x19 x20 x21).bind fun y4 =>
    if y4.1 = true then
     some (p2, ())
    else
     L1 p1 (IntKind.i64.wrap (p2 + 1))
  else none
 else none
else
 some ((-1), ())
theorem b1_ok {r x1 x2 x3 x4 x5 x6 x7 x8 x9 x10 x11 x12 x13 x14 x15 x16 x17 x18 x19 x20 x21} {L1 : Int → Int → Option R} {m1 : Nat} (hL1 : ∀ p1 p2, L1 p1 p2 = some r → Gw P 11 (Q x1 x2 x3 x4 x5 x6 x7 x8 x9 x10 x11 x12 x13 x14 x15 x16 x17 x18 x19 x20 x21 r) (Pb c0 21 [] m1) (s1 x1 x2 x3 x4 x5 x6 x7 x8 x9 x10 x11 x12 x13 x14 x15 x16 x17 x18 x19 x20 x21 p1 p2)) {k p1 p2} (H : b1 x1 x2 x3 x4 x5 x6 x7 x8 x9 x10 x11 x12 x13 x14 x15 x16 x17 x18 x19 x20 x21 L1 k p1 p2 = some r) : Gw P 11 (Q x1 x2 x3 x4 x5 x6 x7 x8 x9 x10 x11 x12 x13 x14 x15 x16 x17 x18 x19 x20 x21 r) (Px c0 37 [m1]) (s1 x1 x2 x3 x4 x5 x6 x7 x8 x9 x10 x11 x12 x13 x14 x15 x16 x17 x18 x19 x20 x21 p1 p2) := by
 unfold b1 at H
 refine Ra ?_
 rcases of_ite H with ⟨hb1, H⟩ | ⟨hb1, H⟩
 ·refine C1 hb1 ?_
  refine Ra ?_
  refine GT (tn [0, 1, 5, 7, 8] 11) (RI ?_)
  obtain ⟨n2, H⟩ := of_if H
  obtain ⟨n3, H⟩ := of_if H
  refine EV V_ok 0 [] 5 (ac n2 (ac n3 az)) ?_
  obtain ⟨y4, e5, H⟩ := of_bind H
  refine CL V_ok i_control_controller_is_1_db3.at_ (of_G (i_control_controller_is_1_db3.f_ok e5)) ?_
  refine RN ?_
  rcases of_ite H with ⟨hb6, H⟩ | ⟨hb6, H⟩
  ·refine C1 hb6 ?_
   refine Ra ?_
   obtain rfl := Option.some.inj H
   exact Lq (tn [4] 11)
  ·refine C0 hb6 ?_
   refine Ra ?_
   exact Jm (tn [0, 1, 7, 8] 11) (hL1 p1 (IntKind.i64.wrap (p2 + 1)) H)
 ·refine C0 hb1 ?_
  refine Ra ?_
  obtain rfl := Option.some.inj H
  exact Lq (tn [4] 11)
noncomputable def l1 (k : Nat) : Nat → Int → Int → Option R
 | 0, _, _ => none
 | m + 1, p1, p2 => b1 x1 x2 x3 x4 x5 x6 x7 x8 x9 x10 x11 x12 x13 x14 x15 x16 x17 x18 x19 x20 x21 (l1 k m) k p1 p2
theorem l1_ok {r x1 x2 x3 x4 x5 x6 x7 x8 x9 x10 x11 x12 x13 x14 x15 x16 x17 x18 x19 x20 x21} (k : Nat) : ∀ (m1 : Nat) (p1 : Int) (p2 : Int), l1 x1 x2 x3 x4 x5 x6 x7 x8 x9 x10 x11 x12 x13 x14 x15 x16 x17 x18 x19 x20 x21 k m1 p1 p2 = some r → Gw P 11 (Q x1 x2 x3 x4 x5 x6 x7 x8 x9 x10 x11 x12 x13 x14 x15 x16 x17 x18 x19 x20 x21 r) (Pb c0 21 [] m1) (s1 x1 x2 x3 x4 x5 x6 x7 x8 x9 x10 x11 x12 x13 x14 x15 x16 x17 x18 x19 x20 x21 p1 p2)
 | 0, _, _, H => by cases H
 | m1 + 1, p1, p2, H => SU (by kernel_rfl) (b1_ok (l1_ok k m1) H)
noncomputable def f (k : Nat) (x1 : T26b3.T) (x2 x3 x4 x5 x6 x7 x8 x9 x10 x11 x12 x13 x14 x15 : Int) (x16 : List (List (List T1383.T))) (x17 : List Int) (x18 : List T23b6.T) (x19 : List T713d.T) (x20 x21 : List Int) : Option R :=
 l1 x1 x2 x3 x4 x5 x6 x7 x8 x9 x10 x11 x12 x13 x14 x15 x16 x17 x18 x19 x20 x21 k k (x17.length : Int) 0
theorem f_ok {r k x1 x2 x3 x4 x5 x6 x7 x8 x9 x10 x11 x12 x13 x14 x15 x16 x17 x18 x19 x20 x21} (H : f k x1 x2 x3 x4 x5 x6 x7 x8 x9 x10 x11 x12 x13 x14 x15 x16 x17 x18 x19 x20 x21 = some r) : Gw P 11 (Q x1 x2 x3 x4 x5 x6 x7 x8 x9 x10 x11 x12 x13 x14 x15 x16 x17 x18 x19 x20 x21 r) (Px c0 1 []) (s0 x1 x2 x3 x4 x5 x6 x7 x8 x9 x10 x11 x12 x13 x14 x15 x16 x17 x18 x19 x20 x21) := by
 unfold f at H
 refine Ra ?_
 refine Ra ?_
 exact LP k (Jm (tn [0, 1, 7, 8] 11) (l1_ok k k (x17.length : Int) 0 H))
theorem at_ : FnAt P 120 19 c0 f120.results := fnA func120
end i_slices_IndexFunc_int_336
namespace i_slices_ContainsFunc_int_336
noncomputable def c0 : Code := bo f84
noncomputable def V : Env := eV []
theorem V_ok : EnvOk P V := eOk (slk_nil)
variable (x1 : T26b3.T) (x2 x3 x4 x5 x6 x7 x8 x9 x10 x11 x12 x13 x14 x15 : Int) (x16 : List (List (List T1383.T))) (x17 : List Int) (x18 : List T23b6.T) (x19 : List T713d.T) (x20 x21 : List Int)
noncomputable def h0 (l : Hl) : Hl := (.box 13, (encC .any T26b3 x1)) :: (.box 13, [.nils, .i x2, .i x3, .i x4, .i x5, .i x6, .i x7, .nils, .nils, .nils, .nils, .nils, .i x8]) :: (.box 6, [.fn 46 [] [], .fn 47 [] [], .fn 48 [] [], .fn 49 [] [], .fn 50 [] [], .fn 50 [] []]) :: (.box 13, [.own 4, .i x9, .i x10, .i x11, .i x12, .i x13, .i x14, .own 5, .own 6, .own 7, .own 8, .own 9, .i x15]) :: (.buf 38 (.slice (.slice T1383)) x16, []) :: (.buf 3 (.int .i64) x17, []) :: (.buf 58 T23b6 x18, []) :: (.buf 93 T713d x19, []) :: (.buf 3 (.int .i64) x20, []) :: (.buf 3 (.int .i64) x21, []) :: (.box 1, [.ptr 3 0]) :: l
abbrev R := (Bool) × Unit
noncomputable def s0 : St := ⟨9, [(0, .cv (.one (.own 5))), (1, .cv (.one (.fn 82 [] [(10, 0)])))], (h0 x1 x2 x3 x4 x5 x6 x7 x8 x9 x10 x11 x12 x13 x14 x15 x16 x17 x18 x19 x20 x21 [])⟩
noncomputable def out (r : R) : St := ⟨9, [(4, .cv (.one (.bool r.1)))], (h0 x1 x2 x3 x4 x5 x6 x7 x8 x9 x10 x11 x12 x13 x14 x15 x16 x17 x18 x19 x20 x21 [])⟩
abbrev Q (r : R) := CallQ 11 (out x1 x2 x3 x4 x5 x6 x7 x8 x9 x10 x11 x12 x13 x14 x15 x16 x17 x18 x19 x20 x21 r)
noncomputable def f (k : Nat) (x1 : T26b3.T) (x2 x3 x4 x5 x6 x7 x8 x9 x10 x11 x12 x13 x14 x15 : Int) (x16 : List (List (List T1383.T))) (x17 : List Int) (x18 : List T23b6.T) (x19 : List T713d.T) (x20 x21 : List Int) : Option R :=
 (i_slices_IndexFunc_int_336.f k x1 x2 x3 x4 x5 x6 x7 x8 x9 x10 x11 x12 x13 x14 x15 x16 x17 x18 x19 x20 x21).bind fun y1 =>
  some ((decide (y1.1 ≥ (0 : Int))), ())
theorem f_ok {r k x1 x2 x3 x4 x5 x6 x7 x8 x9 x10 x11 x12 x13 x14 x15 x16 x17 x18 x19 x20 x21} (H : f k x1 x2 x3 x4 x5 x6 x7 x8 x9 x10 x11 x12 x13 x14 x15 x16 x17 x18 x19 x20 x21 = some r) : Gw P 11 (Q x1 x2 x3 x4 x5 x6 x7 x8 x9 x10 x11 x12 x13 x14 x15 x16 x17 x18 x19 x20 x21 r) (Px c0 1 []) (s0 x1 x2 x3 x4 x5 x6 x7 x8 x9 x10 x11 x12 x13 x14 x15 x16 x17 x18 x19 x20 x21) := by
 unfold f at H
 refine Ra ?_
 refine GT (tn [0, 1] 11) (RI ?_)
 refine EV V_ok 0 [] 2 az ?_
 obtain ⟨y1, e2, H⟩ := of_bind H
 refine CL V_ok i_slices_IndexFunc_int_336.at_ (of_G (i_slices_IndexFunc_int_336.f_ok e2)) ?_
 refine EV V_ok 0 [] 2 az ?_
 refine RN ?_
 obtain rfl := Option.some.inj H
 exact Lq (tn [4] 11)
theorem at_ : FnAt P 84 9 c0 f84.results := fnA func84
end i_slices_ContainsFunc_int_336
namespace i_control_controller_is_d8b
noncomputable def c0 : Code := bo f33
noncomputable def V : Env := eV []
theorem V_ok : EnvOk P V := eOk (slk_nil)
variable (x1 : T26b3.T) (x2 x3 x4 x5 x6 x7 x8 x9 x10 x11 x12 x13 x14 x15 : Int) (x16 : List (List (List T1383.T))) (x17 : List Int) (x18 : List T23b6.T) (x19 : List T713d.T) (x20 x21 : List Int)
noncomputable def h0 (l : Hl) : Hl := (.box 13, (encC .any T26b3 x1)) :: (.box 13, [.nils, .i x2, .i x3, .i x4, .i x5, .i x6, .i x7, .nils, .nils, .nils, .nils, .nils, .i x8]) :: (.box 6, [.fn 46 [] [], .fn 47 [] [], .fn 48 [] [], .fn 49 [] [], .fn 50 [] [], .fn 50 [] []]) :: (.box 13, [.own 4, .i x9, .i x10, .i x11, .i x12, .i x13, .i x14, .own 5, .own 6, .own 7, .own 8, .own 9, .i x15]) :: (.buf 38 (.slice (.slice T1383)) x16, []) :: (.buf 3 (.int .i64) x17, []) :: (.buf 58 T23b6 x18, []) :: (.buf 93 T713d x19, []) :: (.buf 3 (.int .i64) x20, []) :: (.buf 3 (.int .i64) x21, []) :: l
abbrev R := (Bool) × Unit
noncomputable def s0 : St := ⟨57, [(0, .cv (.one (.ptr 3 0)))], (h0 x1 x2 x3 x4 x5 x6 x7 x8 x9 x10 x11 x12 x13 x14 x15 x16 x17 x18 x19 x20 x21 [])⟩
noncomputable def out (r : R) : St := ⟨57, [(2, .cv (.one (.bool r.1)))], (h0 x1 x2 x3 x4 x5 x6 x7 x8 x9 x10 x11 x12 x13 x14 x15 x16 x17 x18 x19 x20 x21 [])⟩
abbrev Q (r : R) := CallQ 10 (out x1 x2 x3 x4 x5 x6 x7 x8 x9 x10 x11 x12 x13 x14 x15 x16 x17 x18 x19 x20 x21 r)
noncomputable def s1 (p1 : Bool) : St := ⟨57, [(1, .cv (.one (.ptr 10 0))), (3, .cv (.one (.fn 82 [] [(10, 0)]))), (4, .cv (.one (.bool p1)))], (h0 x1 x2 x3 x4 x5 x6 x7 x8 x9 x10 x11 x12 x13 x14 x15 x16 x17 x18 x19 x20 x21 [(.box 1, [.ptr 3 0])])⟩
noncomputable def j1 (k : Nat) (p1 : Bool) : Option R :=
 if p1 = true then
 (i_control_controller_is_1_db3.f k x9 x1 x2 x3 x4 x5 x6 x7 x8 x9 x10 x11 x12 x13 x14 x15 x16 x17 x18 x19 x20 x21).bind fun y6 =>
  if (!y6.1) = true then
   (i_slices_ContainsFunc_int_336.f k x1 x2 x3 x4 x5 x6 x7 x8 x9 x10 x11 x12 x13 x14 x15 x16 x17 x18 x19 x20 x21).bind fun y9 =>
    if (!y9.1) = true then
     some ((decide ((x18.length : Int) ≤ (100 : Int))), ())
    else
     some (false, ())
  else
   some (false, ())
else
 some (false, ())
theorem j1_ok {r x1 x2 x3 x4 x5 x6 x7 x8 x9 x10 x11 x12 x13 x14 x15 x16 x17 x18 x19 x20 x21} {k p1} (H : j1 x1 x2 x3 x4 x5 x6 x7 x8 x9 x10 x11 x12 x13 x14 x15 x16 x17 x18 x19 x20 x21 k p1 = some r) : Gw P 10 (Q x1 x2 x3 x4 x5 x6 x7 x8 x9 x10 x11 x12 x13 x14 x15 x16 x17 x18 x19 x20 x21 r) (Px c0 15 []) (s1 x1 x2 x3 x4 x5 x6 x7 x8 x9 x10 x11 x12 x13 x14 x15 x16 x17 x18 x19 x20 x21 p1) := by
 unfold j1 at H
 refine GT (tn [1, 3, 4] 11) (RI ?_)
 refine EV V_ok 0 [] 2 az ?_
 rcases of_ite H with ⟨hb5, H⟩ | ⟨hb5, H⟩
 ·refine FXO 28 hb5 ?_
  refine EV V_ok 0 [] 6 az ?_
  obtain ⟨y6, e7, H⟩ := of_bind H
  refine CL V_ok i_control_controller_is_1_db3.at_ (of_G (i_control_controller_is_1_db3.f_ok e7)) ?_
  refine EV V_ok 0 [] 3 az ?_
  rcases of_ite H with ⟨hb8, H⟩ | ⟨hb8, H⟩
  ·refine FXO 38 hb8 ?_
   refine EV V_ok 0 [] 6 az ?_
   obtain ⟨y9, e10, H⟩ := of_bind H
   refine CL V_ok i_slices_ContainsFunc_int_336.at_ (of_G (i_slices_ContainsFunc_int_336.f_ok e10)) ?_
   refine EV V_ok 0 [] 3 az ?_
   rcases of_ite H with ⟨hb11, H⟩ | ⟨hb11, H⟩
   ·refine FXO 48 hb11 ?_
    refine EV V_ok 0 [] 9 az ?_
    refine RN ?_
    obtain rfl := Option.some.inj H
    exact Lq (tn [2] 10)
   ·refine FXO 48 hb11 ?_
    refine EV V_ok 0 [] 9 az ?_
    refine RN ?_
    obtain rfl := Option.some.inj H
    exact Lq (tn [2] 10)
  ·refine FXO 38 hb8 ?_
   refine EV V_ok 0 [] 10 az ?_
   refine EV V_ok 0 [] 9 az ?_
   refine RN ?_
   obtain rfl := Option.some.inj H
   exact Lq (tn [2] 10)
 ·refine FXO 28 hb5 ?_
  refine EV V_ok 0 [] 10 az ?_
  refine EV V_ok 0 [] 10 az ?_
  refine EV V_ok 0 [] 9 az ?_
  refine RN ?_
  obtain rfl := Option.some.inj H
  exact Lq (tn [2] 10)
noncomputable def f (k : Nat) (x1 : T26b3.T) (x2 x3 x4 x5 x6 x7 x8 x9 x10 x11 x12 x13 x14 x15 : Int) (x16 : List (List (List T1383.T))) (x17 : List Int) (x18 : List T23b6.T) (x19 : List T713d.T) (x20 x21 : List Int) : Option R :=
 if (x10 == (-1 : Int)) = true then
  (i_control_controller_two_ad0.f k x1 x2 x3 x4 x5 x6 x7 x8 x9 x10 x11 x12 x13 x14 x15 x16 x17 x18 x19 x20 x21).bind fun y2 =>
   if (!y2.1) = true then
    j1 x1 x2 x3 x4 x5 x6 x7 x8 x9 x10 x11 x12 x13 x14 x15 x16 x17 x18 x19 x20 x21 k true
   else
    (i_control_controller_is_1_db3.f k x10 x1 x2 x3 x4 x5 x6 x7 x8 x9 x10 x11 x12 x13 x14 x15 x16 x17 x18 x19 x20 x21).bind fun y12 =>
     j1 x1 x2 x3 x4 x5 x6 x7 x8 x9 x10 x11 x12 x13 x14 x15 x16 x17 x18 x19 x20 x21 k (!y12.1)
 else
  (i_control_controller_is_1_db3.f k x10 x1 x2 x3 x4 x5 x6 x7 x8 x9 x10 x11 x12 x13 x14 x15 x16 x17 x18 x19 x20 x21).bind fun y14 =>
   j1 x1 x2 x3 x4 x5 x6 x7 x8 x9 x10 x11 x12 x13 x14 x15 x16 x17 x18 x19 x20 x21 k (!y14.1)
theorem f_ok {r k x1 x2 x3 x4 x5 x6 x7 x8 x9 x10 x11 x12 x13 x14 x15 x16 x17 x18 x19 x20 x21} (H : f k x1 x2 x3 x4 x5 x6 x7 x8 x9 x10 x11 x12 x13 x14 x15 x16 x17 x18 x19 x20 x21 = some r) : Gw P 10 (Q x1 x2 x3 x4 x5 x6 x7 x8 x9 x10 x11 x12 x13 x14 x15 x16 x17 x18 x19 x20 x21 r) (Px c0 1 []) (s0 x1 x2 x3 x4 x5 x6 x7 x8 x9 x10 x11 x12 x13 x14 x15 x16 x17 x18 x19 x20 x21) := by
 unfold f at H
 refine Rg V_ok 1 [(0, hb 10)] az ?_
 refine Ra ?_
 refine GT (tn [1, 3] 11) (RI ?_)
 refine EV V_ok 0 [] 7 az ?_
 rcases of_ite H with ⟨hb1, H⟩ | ⟨hb1, H⟩
 ·refine FXO 12 hb1 ?_
  refine EV V_ok 0 [] 1 az ?_
  obtain ⟨y2, e3, H⟩ := of_bind H
  refine CL V_ok i_control_controller_two_ad0.at_ (of_G (i_control_controller_two_ad0.f_ok e3)) ?_
  refine EV V_ok 0 [] 3 az ?_
  rcases of_ite H with ⟨hb4, H⟩ | ⟨hb4, H⟩
  ·refine FXO 17 hb4 ?_
   refine EV V_ok 0 [] 10 az ?_
   refine RN ?_
   exact Jm (tn [1, 3, 4] 11) (j1_ok H)
  ·refine FXO 17 hb4 ?_
   refine EV V_ok 0 [] 6 az ?_
   obtain ⟨y12, e13, H⟩ := of_bind H
   refine CL V_ok i_control_controller_is_1_db3.at_ (of_G (i_control_controller_is_1_db3.f_ok e13)) ?_
   refine EV V_ok 0 [] 3 az ?_
   refine RN ?_
   exact Jm (tn [1, 3, 4] 11) (j1_ok H)
 ·refine FXO 12 hb1 ?_
  refine EV V_ok 0 [] 5 az ?_
  refine EV V_ok 0 [] 6 az ?_
  obtain ⟨y14, e15, H⟩ := of_bind H
  refine CL V_ok i_control_controller_is_1_db3.at_ (of_G (i_control_controller_is_1_db3.f_ok e15)) ?_
  refine EV V_ok 0 [] 3 az ?_
  refine RN ?_
  exact Jm (tn [1, 3, 4] 11) (j1_ok H)
theorem at_ : FnAt P 33 57 c0 f33.results := fnA func33
end i_control_controller_is_d8b
namespace i_control_controller_idle_1_0c7
noncomputable def c0 : Code := bo f100
noncomputable def V : Env := eV [(44, f_conf_At.S), (101, f_plan_Adds.S)]
theorem V_ok : EnvOk P V := eOk (slk_cons f_conf_At.fits (slk_cons f_plan_Adds.fits (slk_nil)))
variable (x1 : Int) (x2 : T26b3.T) (x3 x4 x5 x6 x7 x8 x9 x10 x11 x12 x13 x14 x15 : Int) (x16 : List Int) (x17 : Int) (x18 : List (List (List T1383.T))) (x19 : List T23b6.T) (x20 x21 : List Int) (x22 : List T713d.T)
noncomputable def h0 (l : Hl) : Hl := (.box 13, (encC .any T26b3 x2)) :: (.box 13, [.nils, .i x3, .i x4, .i x5, .i x6, .i x7, .i x8, .nils, .nils, .nils, .nils, .nils, .i x9]) :: (.box 6, [.fn 46 [] [], .fn 47 [] [], .fn 48 [] [], .fn 49 [] [], .fn 50 [] [], .fn 50 [] []]) :: (.box 13, [.own 4, .i x10, .i x11, .i x12, .i x13, .i x14, .i x15, .sl (.int .i64) x16 .any, .own 6, .own 11, .own 8, .own 9, .i x17]) :: (.buf 38 (.slice (.slice T1383)) x18, []) :: (.dead, []) :: (.buf 58 T23b6 x19, []) :: (.dead, []) :: (.buf 3 (.int .i64) x20, []) :: (.buf 3 (.int .i64) x21, []) :: (.box 1, [.ptr 3 0]) :: (.buf 93 T713d x22, []) :: l
abbrev R := (List T4414.T) × Unit
noncomputable def s0 : St := ⟨24, [(0, .cv (.one (.i x1))), (1, .cv (.one (.ptr 10 0)))], (h0 x2 x3 x4 x5 x6 x7 x8 x9 x10 x11 x12 x13 x14 x15 x16 x17 x18 x19 x20 x21 x22 [])⟩
noncomputable def out (r : R) : St := ⟨24, [(3, .cv (.one (.sl T4414 r.1 .any)))], (h0 x2 x3 x4 x5 x6 x7 x8 x9 x10 x11 x12 x13 x14 x15 x16 x17 x18 x19 x20 x21 x22 [])⟩
abbrev Q (r : R) := CallQ 12 (out x2 x3 x4 x5 x6 x7 x8 x9 x10 x11 x12 x13 x14 x15 x16 x17 x18 x19 x20 x21 x22 r)
noncomputable def f (k : Nat) (x1 : Int) (x2 : T26b3.T) (x3 x4 x5 x6 x7 x8 x9 x10 x11 x12 x13 x14 x15 : Int) (x16 : List Int) (x17 : Int) (x18 : List (List (List T1383.T))) (x19 : List T23b6.T) (x20 x21 : List Int) (x22 : List T713d.T) : Option R :=
 if 0 ≤ x11 then
  if x11 < (x18.length : Int) then
   (f_conf_At.f k (att (.slice (.slice T1383)) x18 x11) x1).bind fun y1 =>
    (f_plan_Adds.f k x13 y1.1).bind fun y2 =>
     some (y2.1, ())
  else none
 else none
theorem f_ok {r k x1 x2 x3 x4 x5 x6 x7 x8 x9 x10 x11 x12 x13 x14 x15 x16 x17 x18 x19 x20 x21 x22} (H : f k x1 x2 x3 x4 x5 x6 x7 x8 x9 x10 x11 x12 x13 x14 x15 x16 x17 x18 x19 x20 x21 x22 = some r) : Gw P 12 (Q x2 x3 x4 x5 x6 x7 x8 x9 x10 x11 x12 x13 x14 x15 x16 x17 x18 x19 x20 x21 x22 r) (Px c0 1 []) (s0 x1 x2 x3 x4 x5 x6 x7 x8 x9 x10 x11 x12 x13 x14 x15 x16 x17 x18 x19 x20 x21 x22) := by
 unfold f at H
 refine Ra ?_
 obtain ⟨n3, H⟩ := of_if H
 obtain ⟨n4, H⟩ := of_if H
 obtain ⟨y1, e5, H⟩ := of_bind H
 obtain ⟨y2, e6, H⟩ := of_bind H
 refine Rg V_ok 0 [(18, hr f_conf_At.S y1), (19, hr f_plan_Adds.S y2)] (ac n3 (ac n4 (ac (f_conf_At.rl e5) (ac (f_plan_Adds.rl e6) az)))) ?_
 obtain rfl := Option.some.inj H
 exact Lq (tn [3] 12)
theorem at_ : FnAt P 100 24 c0 f100.results := fnA func100
end i_control_controller_idle_1_0c7
namespace i_control_controller_tell_107
noncomputable def c0 : Code := bo f99
noncomputable def V : Env := eV [(85, f_plan_Push.S)]
theorem V_ok : EnvOk P V := eOk (slk_cons f_plan_Push.fits (slk_nil))
variable (x1 : T26b3.T) (x2 x3 x4 x5 x6 x7 x8 x9 x10 x11 x12 x13 x14 : Int) (x15 : List Int) (x16 : Int) (x17 : List (List (List T1383.T))) (x18 : List T23b6.T) (x19 x20 : List Int) (x21 : List T713d.T)
noncomputable def h0 (l : Hl) : Hl := (.box 13, (encC .any T26b3 x1)) :: (.box 13, [.nils, .i x2, .i x3, .i x4, .i x5, .i x6, .i x7, .nils, .nils, .nils, .nils, .nils, .i x8]) :: (.box 6, [.fn 46 [] [], .fn 47 [] [], .fn 48 [] [], .fn 49 [] [], .fn 50 [] [], .fn 50 [] []]) :: (.box 13, [.own 4, .i x9, .i x10, .i x11, .i x12, .i x13, .i x14, .sl (.int .i64) x15 .any, .own 6, .own 11, .own 8, .own 9, .i x16]) :: (.buf 38 (.slice (.slice T1383)) x17, []) :: (.dead, []) :: l
noncomputable def h1 (l : Hl) : Hl := (.dead, []) :: (.buf 3 (.int .i64) x19, []) :: (.buf 3 (.int .i64) x20, []) :: (.box 1, [.ptr 3 0]) :: (.buf 93 T713d x21, []) :: l
abbrev R := (List T23b6.T) × Unit
noncomputable def s0 : St := ⟨36, [(0, .cv (.one (.ptr 3 0))), (1, .cv (.one (.fn 100 [] [(10, 0)])))], (h0 x1 x2 x3 x4 x5 x6 x7 x8 x9 x10 x11 x12 x13 x14 x15 x16 x17 ((.buf 58 T23b6 x18, []) :: (h1 x19 x20 x21 [])))⟩
noncomputable def out (r : R) : St := ⟨36, [], (h0 x1 x2 x3 x4 x5 x6 x7 x8 x9 x10 x11 x12 x13 x14 x15 x16 x17 ((.buf 58 T23b6 r.1, []) :: (h1 x19 x20 x21 [])))⟩
abbrev Q (r : R) := CallQ 12 (out x1 x2 x3 x4 x5 x6 x7 x8 x9 x10 x11 x12 x13 x14 x15 x16 x17 x19 x20 x21 r)
noncomputable def s1 (p1 p2 : Int) (p20 : List T23b6.T) : St := ⟨36, [(0, .cv (.one (.ptr 3 0))), (1, .cv (.one (.fn 100 [] [(10, 0)]))), (10, .cv (.one (.i p1))), (11, .cv (.one (.i p2)))], (h0 x1 x2 x3 x4 x5 x6 x7 x8 x9 x10 x11 x12 x13 x14 x15 x16 x17 ((.buf 58 T23b6 p20, []) :: (h1 x19 x20 x21 [])))⟩
noncomputable def b1 (L1 : Int → Int → List T23b6.T → Option R) (k : Nat) (p1 p2 : Int) (p20 : List T23b6.T) : Option R :=
 if (decide (p2 < p1)) = true then
 if 0 ≤ p2 then
  if p2 < (p20.length : Int) then
   (i_control_controller_idle_1_0c7.f k p2 x1 x2 x3 x4 x5 x6 x7 x8 x9 x10 x11 x12 x13 x14 x15 x16 x17 p20 x19 x20 x21).bind fun y4 =>
    (f_plan_Push.f k (((att T23b6 p20 p2).2).2) y4.1).bind fun y6 =>
      L1 p1 (IntKind.i64.wrap (p2 + 1)) (p20.set p2.toNat ((att T23b6 p20 p2).1, (((att T23b6 p20 p2).2).1, y6.1)))
  else none
 else none
else
 some (p20, ())
theorem b1_ok {r x1 x2 x3 x4 x5 x6 x7 x8 x9 x10 x11 x12 x13 x14 x15 x16 x17 x19 x20 x21} {L1 : Int → Int → List T23b6.T → Option R} {m1 : Nat} (hL1 : ∀ p1 p2 p20, L1 p1 p2 p20 = some r → Gw P 12 (Q x1 x2 x3 x4 x5 x6 x7 x8 x9 x10 x11 x12 x13 x14 x15 x16 x17 x19 x20 x21 r) (Pb c0 5 [] m1) (s1 x1 x2 x3 x4 x5 x6 x7 x8 x9 x10 x11 x12 x13 x14 x15 x16 x17 x19 x20 x21 p1 p2 p20)) {k p1 p2 p20} (H : b1 x1 x2 x3 x4 x5 x6 x7 x8 x9 x10 x11 x12 x13 x14 x15 x16 x17 x19 x20 x21 L1 k p1 p2 p20 = some r) : Gw P 12 (Q x1 x2 x3 x4 x5 x6 x7 x8 x9 x10 x11 x12 x13 x14 x15 x16 x17 x19 x20 x21 r) (Px c0 9 [m1]) (s1 x1 x2 x3 x4 x5 x6 x7 x8 x9 x10 x11 x12 x13 x14 x15 x16 x17 x19 x20 x21 p1 p2 p20) := by
 unfold b1 at H
 refine Ra ?_
 rcases of_ite H with ⟨hb1, H⟩ | ⟨hb1, H⟩
 ·refine C1 hb1 ?_
  refine Ra ?_
  obtain ⟨n2, H⟩ := of_if H
  obtain ⟨n3, H⟩ := of_if H
  obtain ⟨y4, e5, H⟩ := of_bind H
  obtain ⟨y6, e7, H⟩ := of_bind H
  let x : Nx := (Px c0 409 [m1])
  let t0 : St := ⟨36, [(0, .cv (.one (.ptr 3 0))), (1, .cv (.one (.fn 100 [] [(10, 0)]))), (4, .cv (.one (.i p2))), (10, .cv (.one (.i p1))), (11, .cv (.one (.i p2)))], (h0 x1 x2 x3 x4 x5 x6 x7 x8 x9 x10 x11 x12 x13 x14 x15 x16 x17 ((.buf 58 T23b6 p20, []) :: (h1 x19 x20 x21 [])))⟩
  refine Jm (x' := x) (τ := t0) (tn [0, 1, 4, 10, 11] 12) ?_
  let Φ := phiX P 12 (Q x1 x2 x3 x4 x5 x6 x7 x8 x9 x10 x11 x12 x13 x14 x15 x16 x17 x19 x20 x21 r) x
  let o := fun (k m : Nat) (t : St) => WA P 12 (opsX x) k (bs 22 m) Φ t
  let t1 : St := stpS V x 0 [] 0 (tn [0, 1, 4, 10, 11, 14] 12) t0
  let t2 : St := stpS V x 0 [] 1 (tn [0, 1, 4, 10, 11, 15] 12) t1
  let t3 : St := stpS V x 0 [] 2 (tn [0, 1, 4, 10, 11, 16] 12) t2
  let t4 : St := stpS V x 0 [] 3 (tn [0, 1, 4, 10, 11, 17] 12) t3
  let t5 : St := stpS V x 0 [] 5 (tn [0, 1, 4, 10, 11, 17, 19] 12) t4
  let t6 : St := stpS V x 0 [] 6 (tn [0, 1, 4, 10, 11, 17, 19, 20] 12) t5
  let t7 : St := stpS V x 0 [] 7 (tn [0, 1, 4, 10, 11, 17, 19, 21] 12) t6
  let t8 : St := stpS V x 0 [] 8 (tn [0, 1, 4, 10, 11, 17, 19, 22] 12) t7
  let t9 : St := stpS V x 0 [] 9 (tn [0, 1, 4, 10, 11, 17, 19, 23] 12) t8
  let t10 : St := stpS V x 0 [] 11 (tn [0, 1, 4, 10, 11, 17, 19, 23, 25] 12) t9
  let t11 : St := stpS V x 0 [] 15 (tn [0, 1, 4, 10, 11, 17, 19, 23, 25, 29] 12) t10
  let t12 : St := stpS V x 0 [] 16 (tn [0, 1, 10, 11, 17, 19, 23, 25, 29, 30] 12) t11
  let t13 : St := stpS V x 0 [] 4 (tn [0, 1, 10, 11, 18, 19, 23, 25, 29, 30] 12) t12
  let t14 : St := stpS V x 0 [] 10 (tn [0, 1, 10, 11, 17, 19, 24, 25, 29, 30] 12) t12
  let u0 : St := i_control_controller_idle_1_0c7.out x1 x2 x3 x4 x5 x6 x7 x8 x9 x10 x11 x12 x13 x14 x15 x16 x17 p20 x19 x20 x21 y4
  let t15 : St := clT V.tt x 17 f100.results (tn [0, 1, 10, 11, 17, 19, 23, 25, 31] 12) t12 u0
  let t16 : St := stpS V x 0 [] 10 (tn [0, 1, 10, 11, 18, 19, 24, 25, 29, 30] 12) t13
  let t17 : St := clT V.tt x 17 f100.results (tn [0, 1, 10, 11, 18, 19, 23, 25, 31] 12) t13 u0
  let t18 : St := stpS V x 0 [] 12 (tn [0, 1, 10, 11, 17, 19, 26, 29, 30] 12) t14
  let t19 : St := clT V.tt x 17 f100.results (tn [0, 1, 10, 11, 17, 19, 24, 25, 31] 12) t14 u0
  let t20 : St := stpS V x 0 [] 12 (tn [0, 1, 10, 11, 18, 19, 26, 29, 30] 12) t16
  let t21 : St := clT V.tt x 17 f100.results (tn [0, 1, 10, 11, 18, 19, 24, 25, 31] 12) t16 u0
  let t22 : St := stpS V x 0 [] 13 (tn [0, 1, 10, 11, 17, 19, 27, 29, 30] 12) t18
  let t23 : St := stpS V x 0 [] 12 (tn [0, 1, 10, 11, 17, 19, 26, 31] 12) t19
  let t24 : St := stpS V x 0 [] 13 (tn [0, 1, 10, 11, 18, 19, 27, 29, 30] 12) t20
  let t25 : St := stpS V x 0 [] 12 (tn [0, 1, 10, 11, 18, 19, 26, 31] 12) t21
  let t26 : St := stpS V x 0 [] 14 (tn [0, 1, 10, 11, 17, 19, 28, 29, 30] 12) t22
  let t27 : St := clT V.tt x 17 f100.results (tn [0, 1, 10, 11, 17, 19, 27, 31] 12) t22 u0
  let t28 : St := stpS V x 0 [] 14 (tn [0, 1, 10, 11, 18, 19, 28, 29, 30] 12) t24
  let t29 : St := clT V.tt x 17 f100.results (tn [0, 1, 10, 11, 18, 19, 27, 31] 12) t24 u0
  let t30 : St := clT V.tt x 17 f100.results (tn [0, 1, 10, 11, 17, 19, 28, 31] 12) t26 u0
  let t31 : St := clT V.tt x 17 f100.results (tn [0, 1, 10, 11, 18, 19, 28, 31] 12) t28 u0
  let t32 : St := stpS V x 0 [(18, hr f_plan_Push.S y6)] 18 (tn [0, 1, 10, 11, 17, 19, 32] 12) t30
  let t33 : St := stpS V x 0 [(18, hr f_plan_Push.S y6)] 18 (tn [0, 1, 10, 11, 18, 19, 32] 12) t31
  let t34 : St := stpS V x 0 [] 19 (tn [0, 1, 10, 11, 32, 33] 12) t33
  let t35 : St := stpS V x 0 [] 20 (tn [0, 1, 10, 11, 32, 34] 12) t34
  let t36 : St := stpS V x 0 [] 21 (tn [0, 1, 10, 11] 12) t35
  have w36 : o 0 4194303 t36 := by
   refine WA_nil (by kernel_rfl) (RAn (by kernel_rfl) ?_)
   refine Ra ?_
   exact Jm (tn [0, 1, 10, 11] 12) (hL1 p1 (IntKind.i64.wrap (p2 + 1)) (p20.set p2.toNat ((att T23b6 p20 p2).1, (((att T23b6 p20 p2).2).1, y6.1))) H)
  have w35 : o 1 2097151 t35 := WAs (an (We az w36) aN)
  have w34 : o 2 1048575 t34 := Wt az w35
  have w33 : o 3 524287 t33 := WAs (an (We (ac n2 (ac n3 az)) w34) aN)
  have w32 : o 4 524271 t32 := WAs (an (WE V_ok 0 [] 4 (tn [0, 1, 10, 11, 18, 19, 32] 12) az w33) aN)
  have w31 : o 4 262143 t31 := WAs (an (We (ac (f_plan_Push.rl e7) az) w33) aN)
  have w30 : o 5 262127 t30 := WAs (an (WE V_ok 0 [] 4 (tn [0, 1, 10, 11, 18, 19, 28, 31] 12) az w31) (an (We (ac (f_plan_Push.rl e7) az) w32) aN))
  have w29 : o 5 245759 t29 := WAs (an (WE V_ok 0 [] 14 (tn [0, 1, 10, 11, 18, 19, 28, 31] 12) az w31) aN)
  have w28 : o 5 131071 t28 := WAs (an (Wc V_ok i_control_controller_idle_1_0c7.at_ (of_G (i_control_controller_idle_1_0c7.f_ok e5)) w31) aN)
  have w27 : o 6 245743 t27 := WAs (an (WE V_ok 0 [] 4 (tn [0, 1, 10, 11, 18, 19, 27, 31] 12) az w29) (an (WE V_ok 0 [] 14 (tn [0, 1, 10, 11, 17, 19, 28, 31] 12) az w30) aN))
  have w26 : o 6 131055 t26 := WAs (an (WE V_ok 0 [] 4 (tn [0, 1, 10, 11, 18, 19, 28, 29, 30] 12) az w28) (an (Wc V_ok i_control_controller_idle_1_0c7.at_ (of_G (i_control_controller_idle_1_0c7.f_ok e5)) w30) aN))
  have w25 : o 6 237567 t25 := WT V_ok [] 13 (tn [0, 1, 10, 11, 18, 19, 27, 31] 12) az w29
  have w24 : o 6 114687 t24 := WAs (an (We az w28) (an (Wc V_ok i_control_controller_idle_1_0c7.at_ (of_G (i_control_controller_idle_1_0c7.f_ok e5)) w29) aN))
  have w23 : o 7 237551 t23 := WT V_ok [] 13 (tn [0, 1, 10, 11, 17, 19, 27, 31] 12) az w27
  have w22 : o 7 114671 t22 := WAs (an (WE V_ok 0 [] 4 (tn [0, 1, 10, 11, 18, 19, 27, 29, 30] 12) az w24) (an (We az w26) (an (Wc V_ok i_control_controller_idle_1_0c7.at_ (of_G (i_control_controller_idle_1_0c7.f_ok e5)) w27) aN)))
  have w21 : o 7 233471 t21 := WAs (an (We (ac n2 (ac n3 az)) w25) aN)
  have w20 : o 7 106495 t20 := Wt az w24
  have w19 : o 8 233455 t19 := WAs (an (WE V_ok 0 [] 4 (tn [0, 1, 10, 11, 18, 19, 24, 25, 31] 12) az w21) (an (We (ac n2 (ac n3 az)) w23) aN))
  have w18 : o 8 106479 t18 := Wt az w22
  have w17 : o 8 232447 t17 := WAs (an (WE V_ok 0 [] 10 (tn [0, 1, 10, 11, 18, 19, 24, 25, 31] 12) az w21) aN)
  have w16 : o 8 102399 t16 := WAs (an (We (ac n2 (ac n3 az)) w20) (an (Wc V_ok i_control_controller_idle_1_0c7.at_ (of_G (i_control_controller_idle_1_0c7.f_ok e5)) w21) aN))
  have w15 : o 9 232431 t15 := WAs (an (WE V_ok 0 [] 4 (tn [0, 1, 10, 11, 18, 19, 23, 25, 31] 12) az w17) (an (WE V_ok 0 [] 10 (tn [0, 1, 10, 11, 17, 19, 24, 25, 31] 12) az w19) aN))
  have w14 : o 9 102383 t14 := WAs (an (WE V_ok 0 [] 4 (tn [0, 1, 10, 11, 18, 19, 24, 25, 29, 30] 12) az w16) (an (We (ac n2 (ac n3 az)) w18) (an (Wc V_ok i_control_controller_idle_1_0c7.at_ (of_G (i_control_controller_idle_1_0c7.f_ok e5)) w19) aN)))
  have w13 : o 9 101375 t13 := WAs (an (We az w16) (an (Wc V_ok i_control_controller_idle_1_0c7.at_ (of_G (i_control_controller_idle_1_0c7.f_ok e5)) w17) aN))
  have w12 : o 10 101359 t12 := WAs (an (We az w13) (an (We az w14) (an (Wc V_ok i_control_controller_idle_1_0c7.at_ (of_G (i_control_controller_idle_1_0c7.f_ok e5)) w15) aN)))
  have w11 : o 11 35823 t11 := Wt az w12
  have w10 : o 12 3055 t10 := Wt az w11
  have w9 : o 13 1007 t9 := Wt az w10
  have w8 : o 14 495 t8 := Wt az w9
  have w7 : o 15 239 t7 := Wt az w8
  have w6 : o 16 111 t6 := Wt az w7
  have w5 : o 17 47 t5 := Wt az w6
  have w4 : o 18 15 t4 := Wt az w5
  have w3 : o 19 7 t3 := Wt az w4
  have w2 : o 20 3 t2 := Wt az w3
  have w1 : o 21 1 t1 := Wt az w2
  have w0 : o 22 0 t0 := Wt az w1
  exact RA V_ok 22 (by kernel_rfl) (by kernel_rfl) (by kernel_rfl) w0
 ·refine C0 hb1 ?_
  obtain rfl := Option.some.inj H
  exact Lq (tn [] 12)
noncomputable def l1 (k : Nat) : Nat → Int → Int → List T23b6.T → Option R
 | 0, _, _, _ => none
 | m + 1, p1, p2, p20 => b1 x1 x2 x3 x4 x5 x6 x7 x8 x9 x10 x11 x12 x13 x14 x15 x16 x17 x19 x20 x21 (l1 k m) k p1 p2 p20
theorem l1_ok {r x1 x2 x3 x4 x5 x6 x7 x8 x9 x10 x11 x12 x13 x14 x15 x16 x17 x19 x20 x21} (k : Nat) : ∀ (m1 : Nat) (p1 p2 : Int) (p20 : List T23b6.T), l1 x1 x2 x3 x4 x5 x6 x7 x8 x9 x10 x11 x12 x13 x14 x15 x16 x17 x19 x20 x21 k m1 p1 p2 p20 = some r → Gw P 12 (Q x1 x2 x3 x4 x5 x6 x7 x8 x9 x10 x11 x12 x13 x14 x15 x16 x17 x19 x20 x21 r) (Pb c0 5 [] m1) (s1 x1 x2 x3 x4 x5 x6 x7 x8 x9 x10 x11 x12 x13 x14 x15 x16 x17 x19 x20 x21 p1 p2 p20)
 | 0, _, _, _, H => by cases H
 | m1 + 1, p1, p2, p20, H => SU (by kernel_rfl) (b1_ok (l1_ok k m1) H)
noncomputable def f (k : Nat) (x1 : T26b3.T) (x2 x3 x4 x5 x6 x7 x8 x9 x10 x11 x12 x13 x14 : Int) (x15 : List Int) (x16 : Int) (x17 : List (List (List T1383.T))) (x18 : List T23b6.T) (x19 x20 : List Int) (x21 : List T713d.T) : Option R :=
 l1 x1 x2 x3 x4 x5 x6 x7 x8 x9 x10 x11 x12 x13 x14 x15 x16 x17 x19 x20 x21 k k (x18.length : Int) 0 x18
theorem f_ok {r k x1 x2 x3 x4 x5 x6 x7 x8 x9 x10 x11 x12 x13 x14 x15 x16 x17 x18 x19 x20 x21} (H : f k x1 x2 x3 x4 x5 x6 x7 x8 x9 x10 x11 x12 x13 x14 x15 x16 x17 x18 x19 x20 x21 = some r) : Gw P 12 (Q x1 x2 x3 x4 x5 x6 x7 x8 x9 x10 x11 x12 x13 x14 x15 x16 x17 x19 x20 x21 r) (Px c0 1 []) (s0 x1 x2 x3 x4 x5 x6 x7 x8 x9 x10 x11 x12 x13 x14 x15 x16 x17 x18 x19 x20 x21) := by
 unfold f at H
 refine Ra ?_
 exact LP k (Jm (tn [0, 1, 10, 11] 12) (l1_ok k k (x18.length : Int) 0 x18 H))
theorem at_ : FnAt P 99 36 c0 f99.results := fnA func99
end i_control_controller_tell_107
namespace i_control_controller_done_1_481
noncomputable def c0 : Code := bo f139
noncomputable def V : Env := eV []
theorem V_ok : EnvOk P V := eOk (slk_nil)
variable (x1 : T23b6.T) (x2 : T26b3.T) (x3 x4 x5 x6 x7 x8 x9 x10 x11 x12 x13 x14 x15 x16 : Int) (x17 : List (List (List T1383.T))) (x18 : List Int) (x19 : List T23b6.T) (x20 : List T713d.T) (x21 x22 : List Int)
noncomputable def h0 (l : Hl) : Hl := (.box 13, (encC .any T26b3 x2)) :: (.box 13, [.nils, .i x3, .i x4, .i x5, .i x6, .i x7, .i x8, .nils, .nils, .nils, .nils, .nils, .i x9]) :: (.box 6, [.fn 46 [] [], .fn 47 [] [], .fn 48 [] [], .fn 49 [] [], .fn 50 [] [], .fn 50 [] []]) :: (.box 13, [.own 4, .i x10, .i x11, .i x12, .i x13, .i x14, .i x15, .own 5, .own 6, .own 7, .own 8, .own 9, .i x16]) :: (.buf 38 (.slice (.slice T1383)) x17, []) :: (.buf 3 (.int .i64) x18, []) :: (.buf 58 T23b6 x19, []) :: (.buf 93 T713d x20, []) :: (.buf 3 (.int .i64) x21, []) :: (.buf 3 (.int .i64) x22, []) :: (.box 1, [.ptr 3 0]) :: l
abbrev R := (Bool) × Unit
noncomputable def s0 : St := ⟨13, [(0, .cv (.agg (encC .any T23b6 x1)))], (h0 x2 x3 x4 x5 x6 x7 x8 x9 x10 x11 x12 x13 x14 x15 x16 x17 x18 x19 x20 x21 x22 [])⟩
noncomputable def out (r : R) : St := ⟨13, [(2, .cv (.one (.bool r.1)))], (h0 x2 x3 x4 x5 x6 x7 x8 x9 x10 x11 x12 x13 x14 x15 x16 x17 x18 x19 x20 x21 x22 [])⟩
abbrev Q (r : R) := CallQ 11 (out x2 x3 x4 x5 x6 x7 x8 x9 x10 x11 x12 x13 x14 x15 x16 x17 x18 x19 x20 x21 x22 r)
noncomputable def f (k : Nat) (x1 : T23b6.T) (x2 : T26b3.T) (x3 x4 x5 x6 x7 x8 x9 x10 x11 x12 x13 x14 x15 x16 : Int) (x17 : List (List (List T1383.T))) (x18 : List Int) (x19 : List T23b6.T) (x20 : List T713d.T) (x21 x22 : List Int) : Option R :=
 if (decide (x1.1 ≤ (0 : Int))) = true then
  some (true, ())
 else
  some ((decide ((x1.2.2.2.2.length : Int) > (0 : Int))), ())
theorem f_ok {r k x1 x2 x3 x4 x5 x6 x7 x8 x9 x10 x11 x12 x13 x14 x15 x16 x17 x18 x19 x20 x21 x22} (H : f k x1 x2 x3 x4 x5 x6 x7 x8 x9 x10 x11 x12 x13 x14 x15 x16 x17 x18 x19 x20 x21 x22 = some r) : Gw P 11 (Q x2 x3 x4 x5 x6 x7 x8 x9 x10 x11 x12 x13 x14 x15 x16 x17 x18 x19 x20 x21 x22 r) (Px c0 1 []) (s0 x1 x2 x3 x4 x5 x6 x7 x8 x9 x10 x11 x12 x13 x14 x15 x16 x17 x18 x19 x20 x21 x22) := by
 unfold f at H
 refine Rg V_ok 1 [(0, hb 11)] az ?_
 rcases of_ite H with ⟨hb1, H⟩ | ⟨hb1, H⟩
 ·refine Rg V_ok 0 [(2, {bv := some true})] (ac hb1 az) ?_
  obtain rfl := Option.some.inj H
  exact Lq (tn [2] 11)
 ·refine Rg V_ok 0 [(2, {bv := some false})] (ac hb1 az) ?_
  obtain rfl := Option.some.inj H
  exact Lq (tn [2] 11)
theorem at_ : FnAt P 139 13 c0 f139.results := fnA func139
end i_control_controller_done_1_481
namespace i_slices_IndexFunc_Peer_bc5
noncomputable def c0 : Code := bo f143
noncomputable def V : Env := eV []
theorem V_ok : EnvOk P V := eOk (slk_nil)
variable (x1 : T26b3.T) (x2 x3 x4 x5 x6 x7 x8 x9 x10 x11 x12 x13 x14 x15 : Int) (x16 : List (List (List T1383.T))) (x17 : List Int) (x18 : List T23b6.T) (x19 : List T713d.T) (x20 x21 : List Int)
noncomputable def h0 (l : Hl) : Hl := (.box 13, (encC .any T26b3 x1)) :: (.box 13, [.nils, .i x2, .i x3, .i x4, .i x5, .i x6, .i x7, .nils, .nils, .nils, .nils, .nils, .i x8]) :: (.box 6, [.fn 46 [] [], .fn 47 [] [], .fn 48 [] [], .fn 49 [] [], .fn 50 [] [], .fn 50 [] []]) :: (.box 13, [.own 4, .i x9, .i x10, .i x11, .i x12, .i x13, .i x14, .own 5, .own 6, .own 7, .own 8, .own 9, .i x15]) :: (.buf 38 (.slice (.slice T1383)) x16, []) :: (.buf 3 (.int .i64) x17, []) :: (.buf 58 T23b6 x18, []) :: (.buf 93 T713d x19, []) :: (.buf 3 (.int .i64) x20, []) :: (.buf 3 (.int .i64) x21, []) :: (.box 1, [.ptr 3 0]) :: l
abbrev R := (Int) × Unit
noncomputable def s0 : St := ⟨19, [(0, .cv (.one (.own 6))), (1, .cv (.one (.fn 139 [] [])))], (h0 x1 x2 x3 x4 x5 x6 x7 x8 x9 x10 x11 x12 x13 x14 x15 x16 x17 x18 x19 x20 x21 [])⟩
noncomputable def out (r : R) : St := ⟨19, [(4, .cv (.one (.i r.1)))], (h0 x1 x2 x3 x4 x5 x6 x7 x8 x9 x10 x11 x12 x13 x14 x15 x16 x17 x18 x19 x20 x21 [])⟩
abbrev Q (r : R) := CallQ 11 (out x1 x2 x3 x4 x5 x6 x7 x8 x9 x10 x11 x12 x13 x14 x15 x16 x17 x18 x19 x20 x21 r)
noncomputable def s1 (p1 p2 : Int) : St := ⟨19, [(0, .cv (.one (.own 6))), (1, .cv (.one (.fn 139 [] []))), (7, .cv (.one (.i p1))), (8, .cv (.one (.i p2)))], (h0 x1 x2 x3 x4 x5 x6 x7 x8 x9 x10 x11 x12 x13 x14 x15 x16 x17 x18 x19 x20 x21 [])⟩
noncomputable def b1 (L1 : Int → Int → Option R) (k : Nat) (p1 p2 : Int) : Option R :=
 if (decide (p2 < p1)) = true then
 if 0 ≤ p2 then
  if p2 < (x18.length : Int) then
   (i_control_controller_done_1_481.f k (att T23b6 x18 p2) x1 x2 x3 x4 x5 x6 x7 x8 x9 x10 x11 x12 x13 x14 x15 x16 x17 x18 x19 x20 x21).bind fun y4 =>
    if y4.1 = true then
     some (p2, ())
    else
     L1 p1 (IntKind.i64.wrap (p2 + 1))
  else none
 else none
else
 some ((-1), ())
theorem b1_ok {r x1 x2 x3 x4 x5 x6 x7 x8 x9 x10 x11 x12 x13 x14 x15 x16 x17 x18 x19 x20 x21} {L1 : Int → Int → Option R} {m1 : Nat} (hL1 : ∀ p1 p2, L1 p1 p2 = some r → Gw P 11 (Q x1 x2 x3 x4 x5 x6 x7 x8 x9 x10 x11 x12 x13 x14 x15 x16 x17 x18 x19 x20 x21 r) (Pb c0 21 [] m1) (s1 x1 x2 x3 x4 x5 x6 x7 x8 x9 x10 x11 x12 x13 x14 x15 x16 x17 x18 x19 x20 x21 p1 p2)) {k p1 p2} (H : b1 x1 x2 x3 x4 x5 x6 x7 x8 x9 x10 x11 x12 x13 x14 x15 x16 x17 x18 x19 x20 x21 L1 k p1 p2 = some r) : Gw P 11 (Q x1 x2 x3 x4 x5 x6 x7 x8 x9 x10 x11 x12 x13 x14 x15 x16 x17 x18 x19 x20 x21 r) (Px c0 37 [m1]) (s1 x1 x2 x3 x4 x5 x6 x7 x8 x9 x10 x11 x12 x13 x14 x15 x16 x17 x18 x19 x20 x21 p1 p2) := by
 unfold b1 at H
 refine Ra ?_
 rcases of_ite H with ⟨hb1, H⟩ | ⟨hb1, H⟩
 ·refine C1 hb1 ?_
  refine Ra ?_
  refine GT (tn [0, 1, 5, 7, 8] 11) (RI ?_)
  obtain ⟨n2, H⟩ := of_if H
  obtain ⟨n3, H⟩ := of_if H
  refine EV V_ok 0 [] 5 (ac n2 (ac n3 az)) ?_
  obtain ⟨y4, e5, H⟩ := of_bind H
  refine CL V_ok i_control_controller_done_1_481.at_ (of_G (i_control_controller_done_1_481.f_ok e5)) ?_
  refine RN ?_
  rcases of_ite H with ⟨hb6, H⟩ | ⟨hb6, H⟩
  ·refine C1 hb6 ?_
   refine Ra ?_
   obtain rfl := Option.some.inj H
   exact Lq (tn [4] 11)
  ·refine C0 hb6 ?_
   refine Ra ?_
   exact Jm (tn [0, 1, 7, 8] 11) (hL1 p1 (IntKind.i64.wrap (p2 + 1)) H)
 ·refine C0 hb1 ?_
  refine Ra ?_
  obtain rfl := Option.some.inj H
  exact Lq (tn [4] 11)
noncomputable def l1 (k : Nat) : Nat → Int → Int → Option R
 | 0, _, _ => none
 | m + 1, p1, p2 => b1 x1 x2 x3 x4 x5 x6 x7 x8 x9 x10 x11 x12 x13 x14 x15 x16 x17 x18 x19 x20 x21 (l1 k m) k p1 p2
theorem l1_ok {r x1 x2 x3 x4 x5 x6 x7 x8 x9 x10 x11 x12 x13 x14 x15 x16 x17 x18 x19 x20 x21} (k : Nat) : ∀ (m1 : Nat) (p1 : Int) (p2 : Int), l1 x1 x2 x3 x4 x5 x6 x7 x8 x9 x10 x11 x12 x13 x14 x15 x16 x17 x18 x19 x20 x21 k m1 p1 p2 = some r → Gw P 11 (Q x1 x2 x3 x4 x5 x6 x7 x8 x9 x10 x11 x12 x13 x14 x15 x16 x17 x18 x19 x20 x21 r) (Pb c0 21 [] m1) (s1 x1 x2 x3 x4 x5 x6 x7 x8 x9 x10 x11 x12 x13 x14 x15 x16 x17 x18 x19 x20 x21 p1 p2)
 | 0, _, _, H => by cases H
 | m1 + 1, p1, p2, H => SU (by kernel_rfl) (b1_ok (l1_ok k m1) H)
noncomputable def f (k : Nat) (x1 : T26b3.T) (x2 x3 x4 x5 x6 x7 x8 x9 x10 x11 x12 x13 x14 x15 : Int) (x16 : List (List (List T1383.T))) (x17 : List Int) (x18 : List T23b6.T) (x19 : List T713d.T) (x20 x21 : List Int) : Option R :=
 l1 x1 x2 x3 x4 x5 x6 x7 x8 x9 x10 x11 x12 x13 x14 x15 x16 x17 x18 x19 x20 x21 k k (x18.length : Int) 0
theorem f_ok {r k x1 x2 x3 x4 x5 x6 x7 x8 x9 x10 x11 x12 x13 x14 x15 x16 x17 x18 x19 x20 x21} (H : f k x1 x2 x3 x4 x5 x6 x7 x8 x9 x10 x11 x12 x13 x14 x15 x16 x17 x18 x19 x20 x21 = some r) : Gw P 11 (Q x1 x2 x3 x4 x5 x6 x7 x8 x9 x10 x11 x12 x13 x14 x15 x16 x17 x18 x19 x20 x21 r) (Px c0 1 []) (s0 x1 x2 x3 x4 x5 x6 x7 x8 x9 x10 x11 x12 x13 x14 x15 x16 x17 x18 x19 x20 x21) := by
 unfold f at H
 refine Ra ?_
 refine Ra ?_
 exact LP k (Jm (tn [0, 1, 7, 8] 11) (l1_ok k k (x18.length : Int) 0 H))
theorem at_ : FnAt P 143 19 c0 f143.results := fnA func143
end i_slices_IndexFunc_Peer_bc5
namespace i_slices_ContainsFunc_Peer_bc5
noncomputable def c0 : Code := bo f102
noncomputable def V : Env := eV []
theorem V_ok : EnvOk P V := eOk (slk_nil)
variable (x1 : T26b3.T) (x2 x3 x4 x5 x6 x7 x8 x9 x10 x11 x12 x13 x14 x15 : Int) (x16 : List (List (List T1383.T))) (x17 : List Int) (x18 : List T23b6.T) (x19 : List T713d.T) (x20 x21 : List Int)
noncomputable def h0 (l : Hl) : Hl := (.box 13, (encC .any T26b3 x1)) :: (.box 13, [.nils, .i x2, .i x3, .i x4, .i x5, .i x6, .i x7, .nils, .nils, .nils, .nils, .nils, .i x8]) :: (.box 6, [.fn 46 [] [], .fn 47 [] [], .fn 48 [] [], .fn 49 [] [], .fn 50 [] [], .fn 50 [] []]) :: (.box 13, [.own 4, .i x9, .i x10, .i x11, .i x12, .i x13, .i x14, .own 5, .own 6, .own 7, .own 8, .own 9, .i x15]) :: (.buf 38 (.slice (.slice T1383)) x16, []) :: (.buf 3 (.int .i64) x17, []) :: (.buf 58 T23b6 x18, []) :: (.buf 93 T713d x19, []) :: (.buf 3 (.int .i64) x20, []) :: (.buf 3 (.int .i64) x21, []) :: (.box 1, [.ptr 3 0]) :: l
abbrev R := (Bool) × Unit
noncomputable def s0 : St := ⟨9, [(0, .cv (.one (.own 6))), (1, .cv (.one (.fn 139 [] [])))], (h0 x1 x2 x3 x4 x5 x6 x7 x8 x9 x10 x11 x12 x13 x14 x15 x16 x17 x18 x19 x20 x21 [])⟩
noncomputable def out (r : R) : St := ⟨9, [(4, .cv (.one (.bool r.1)))], (h0 x1 x2 x3 x4 x5 x6 x7 x8 x9 x10 x11 x12 x13 x14 x15 x16 x17 x18 x19 x20 x21 [])⟩
abbrev Q (r : R) := CallQ 11 (out x1 x2 x3 x4 x5 x6 x7 x8 x9 x10 x11 x12 x13 x14 x15 x16 x17 x18 x19 x20 x21 r)
noncomputable def f (k : Nat) (x1 : T26b3.T) (x2 x3 x4 x5 x6 x7 x8 x9 x10 x11 x12 x13 x14 x15 : Int) (x16 : List (List (List T1383.T))) (x17 : List Int) (x18 : List T23b6.T) (x19 : List T713d.T) (x20 x21 : List Int) : Option R :=
 (i_slices_IndexFunc_Peer_bc5.f k x1 x2 x3 x4 x5 x6 x7 x8 x9 x10 x11 x12 x13 x14 x15 x16 x17 x18 x19 x20 x21).bind fun y1 =>
  some ((decide (y1.1 ≥ (0 : Int))), ())
theorem f_ok {r k x1 x2 x3 x4 x5 x6 x7 x8 x9 x10 x11 x12 x13 x14 x15 x16 x17 x18 x19 x20 x21} (H : f k x1 x2 x3 x4 x5 x6 x7 x8 x9 x10 x11 x12 x13 x14 x15 x16 x17 x18 x19 x20 x21 = some r) : Gw P 11 (Q x1 x2 x3 x4 x5 x6 x7 x8 x9 x10 x11 x12 x13 x14 x15 x16 x17 x18 x19 x20 x21 r) (Px c0 1 []) (s0 x1 x2 x3 x4 x5 x6 x7 x8 x9 x10 x11 x12 x13 x14 x15 x16 x17 x18 x19 x20 x21) := by
 unfold f at H
 refine Ra ?_
 refine GT (tn [0, 1] 11) (RI ?_)
 refine EV V_ok 0 [] 2 az ?_
 obtain ⟨y1, e2, H⟩ := of_bind H
 refine CL V_ok i_slices_IndexFunc_Peer_bc5.at_ (of_G (i_slices_IndexFunc_Peer_bc5.f_ok e2)) ?_
 refine EV V_ok 0 [] 2 az ?_
 refine RN ?_
 obtain rfl := Option.some.inj H
 exact Lq (tn [4] 11)
theorem at_ : FnAt P 102 9 c0 f102.results := fnA func102
end i_slices_ContainsFunc_Peer_bc5
namespace i_control_controller_done_ad0
noncomputable def c0 : Code := bo f97
noncomputable def V : Env := eV []
theorem V_ok : EnvOk P V := eOk (slk_nil)
variable (x1 : T26b3.T) (x2 x3 x4 x5 x6 x7 x8 x9 x10 x11 x12 x13 x14 x15 : Int) (x16 : List (List (List T1383.T))) (x17 : List Int) (x18 : List T23b6.T) (x19 : List T713d.T) (x20 x21 : List Int)
noncomputable def h0 (l : Hl) : Hl := (.box 13, (encC .any T26b3 x1)) :: (.box 13, [.nils, .i x2, .i x3, .i x4, .i x5, .i x6, .i x7, .nils, .nils, .nils, .nils, .nils, .i x8]) :: (.box 6, [.fn 46 [] [], .fn 47 [] [], .fn 48 [] [], .fn 49 [] [], .fn 50 [] [], .fn 50 [] []]) :: (.box 13, [.own 4, .i x9, .i x10, .i x11, .i x12, .i x13, .i x14, .own 5, .own 6, .own 7, .own 8, .own 9, .i x15]) :: (.buf 38 (.slice (.slice T1383)) x16, []) :: (.buf 3 (.int .i64) x17, []) :: (.buf 58 T23b6 x18, []) :: (.buf 93 T713d x19, []) :: (.buf 3 (.int .i64) x20, []) :: (.buf 3 (.int .i64) x21, []) :: (.box 1, [.ptr 3 0]) :: l
abbrev R := (Bool) × Unit
noncomputable def s0 : St := ⟨10, [(0, .cv (.one (.ptr 3 0)))], (h0 x1 x2 x3 x4 x5 x6 x7 x8 x9 x10 x11 x12 x13 x14 x15 x16 x17 x18 x19 x20 x21 [])⟩
noncomputable def out (r : R) : St := ⟨10, [(2, .cv (.one (.bool r.1)))], (h0 x1 x2 x3 x4 x5 x6 x7 x8 x9 x10 x11 x12 x13 x14 x15 x16 x17 x18 x19 x20 x21 [])⟩
abbrev Q (r : R) := CallQ 11 (out x1 x2 x3 x4 x5 x6 x7 x8 x9 x10 x11 x12 x13 x14 x15 x16 x17 x18 x19 x20 x21 r)
noncomputable def f (k : Nat) (x1 : T26b3.T) (x2 x3 x4 x5 x6 x7 x8 x9 x10 x11 x12 x13 x14 x15 : Int) (x16 : List (List (List T1383.T))) (x17 : List Int) (x18 : List T23b6.T) (x19 : List T713d.T) (x20 x21 : List Int) : Option R :=
 (i_slices_ContainsFunc_Peer_bc5.f k x1 x2 x3 x4 x5 x6 x7 x8 x9 x10 x11 x12 x13 x14 x15 x16 x17 x18 x19 x20 x21).bind fun y1 =>
  some ((!y1.1), ())
theorem f_ok {r k x1 x2 x3 x4 x5 x6 x7 x8 x9 x10 x11 x12 x13 x14 x15 x16 x17 x18 x19 x20 x21} (H : f k x1 x2 x3 x4 x5 x6 x7 x8 x9 x10 x11 x12 x13 x14 x15 x16 x17 x18 x19 x20 x21 = some r) : Gw P 11 (Q x1 x2 x3 x4 x5 x6 x7 x8 x9 x10 x11 x12 x13 x14 x15 x16 x17 x18 x19 x20 x21 r) (Px c0 1 []) (s0 x1 x2 x3 x4 x5 x6 x7 x8 x9 x10 x11 x12 x13 x14 x15 x16 x17 x18 x19 x20 x21) := by
 unfold f at H
 refine Ra ?_
 refine GT (tn [0] 11) (RI ?_)
 refine EV V_ok 0 [] 5 az ?_
 obtain ⟨y1, e2, H⟩ := of_bind H
 refine CL V_ok i_slices_ContainsFunc_Peer_bc5.at_ (of_G (i_slices_ContainsFunc_Peer_bc5.f_ok e2)) ?_
 refine EV V_ok 0 [] 2 az ?_
 refine RN ?_
 obtain rfl := Option.some.inj H
 exact Lq (tn [2] 11)
theorem at_ : FnAt P 97 10 c0 f97.results := fnA func97
end i_control_controller_done_ad0
namespace i_control_controller_idle_d8b
noncomputable def c0 : Code := bo f46
noncomputable def V : Env := eV [(98, f_tags_Next.S)]
theorem V_ok : EnvOk P V := eOk (slk_cons f_tags_Next.fits (slk_nil))
variable (x1 : T26b3.T) (x2 x3 x4 x5 x6 x7 x8 x9 x10 x11 x12 x13 x14 x15 : Int) (x16 : List (List (List T1383.T))) (x17 : List Int) (x18 : List T23b6.T) (x19 : List T713d.T) (x20 x21 : List Int)
noncomputable def h0 (l : Hl) : Hl := (.box 13, (encC .any T26b3 x1)) :: (.box 13, [.nils, .i x2, .i x3, .i x4, .i x5, .i x6, .i x7, .nils, .nils, .nils, .nils, .nils, .i x8]) :: (.box 6, [.fn 46 [] [], .fn 47 [] [], .fn 48 [] [], .fn 49 [] [], .fn 50 [] [], .fn 50 [] []]) :: l
abbrev R := (Int) × (Int) × (Int) × (List Int) × (List T713d.T) × (List T23b6.T) × Unit
noncomputable def s0 : St := ⟨74, [(0, .cv (.one (.ptr 3 0)))], (h0 x1 x2 x3 x4 x5 x6 x7 x8 [(.box 13, [.own 4, .i x9, .i x10, .i x11, .i x12, .i x13, .i x14, .own 5, .own 6, .own 7, .own 8, .own 9, .i x15]), (.buf 38 (.slice (.slice T1383)) x16, []), (.buf 3 (.int .i64) x17, []), (.buf 58 T23b6 x18, []), (.buf 93 T713d x19, []), (.buf 3 (.int .i64) x20, []), (.buf 3 (.int .i64) x21, [])])⟩
noncomputable def out (r : R) : St := ⟨74, [], (h0 x1 x2 x3 x4 x5 x6 x7 x8 [(.box 13, [.own 4, .i x9, .i r.1, .i x11, .i r.2.1, .i r.2.2.1, .i x14, .sl (.int .i64) r.2.2.2.1 .any, .own 6, .sl T713d r.2.2.2.2.1 .any, .own 8, .own 9, .i x15]), (.buf 38 (.slice (.slice T1383)) x16, []), (.dead, []), (.buf 58 T23b6 r.2.2.2.2.2.1, []), (.dead, []), (.buf 3 (.int .i64) x20, []), (.buf 3 (.int .i64) x21, [])])⟩
abbrev Q (r : R) := CallQ 10 (out x1 x2 x3 x4 x5 x6 x7 x8 x9 x11 x14 x15 x16 x20 x21 r)
noncomputable def s1 (p1 : Bool) : St := ⟨74, [(1, .cv (.one (.ptr 10 0))), (13, .cv (.one (.bool p1)))], (h0 x1 x2 x3 x4 x5 x6 x7 x8 [(.box 13, [.own 4, .i x9, .i x10, .i x11, .i x12, .i x13, .i x14, .own 5, .own 6, .own 7, .own 8, .own 9, .i x15]), (.buf 38 (.slice (.slice T1383)) x16, []), (.buf 3 (.int .i64) x17, []), (.buf 58 T23b6 x18, []), (.buf 93 T713d x19, []), (.buf 3 (.int .i64) x20, []), (.buf 3 (.int .i64) x21, []), (.box 1, [.ptr 3 0])])⟩
noncomputable def j1 (k : Nat) (p1 : Bool) : Option R :=
 if p1 = true then
 some (x10, (x12, (x13, (x17, (x19, (x18, ()))))))
else
 if (0 : Int) < (x17.length : Int) then
  if 0 ≤ (1 : Int) ∧ (1 : Int) ≤ (x17.length : Int) ∧ (x17.length : Int) ≤ (x17.length : Int) then
   (f_tags_Next.f k x11 []).bind fun y5 =>
    if (x19.length + 1) * 16 ≤ 140737488355328 then
     (i_control_controller_tell_107.f k x1 x2 x3 x4 x5 x6 x7 x8 x9 (att (.int .i64) x17 0) x11 y5.1 (1 : Int) x14 ((x17.take (x17.length : Int).toNat).drop (1 : Int).toNat) x15 x16 x18 x20 x21 (x19 ++ [(y5.1, (att (.int .i64) x17 0))])).bind fun y8 =>
      some ((att (.int .i64) x17 0), (y5.1, ((1 : Int), (((x17.take (x17.length : Int).toNat).drop (1 : Int).toNat), ((x19 ++ [(y5.1, (att (.int .i64) x17 0))]), (y8.1, ()))))))
    else none
  else none
 else none
theorem j1_ok {r x1 x2 x3 x4 x5 x6 x7 x8 x9 x10 x11 x12 x13 x14 x15 x16 x17 x18 x19 x20 x21} {k p1} (H : j1 x1 x2 x3 x4 x5 x6 x7 x8 x9 x10 x11 x12 x13 x14 x15 x16 x17 x18 x19 x20 x21 k p1 = some r) : Gw P 10 (Q x1 x2 x3 x4 x5 x6 x7 x8 x9 x11 x14 x15 x16 x20 x21 r) (Px c0 13 []) (s1 x1 x2 x3 x4 x5 x6 x7 x8 x9 x10 x11 x12 x13 x14 x15 x16 x17 x18 x19 x20 x21 p1) := by
 unfold j1 at H
 rcases of_ite H with ⟨hb2, H⟩ | ⟨hb2, H⟩
 ·refine C1 hb2 ?_
  obtain rfl := Option.some.inj H
  exact Lq {fz := [5, 7], gr := 0, ad := [], live := [], src := [some 0, some 1, some 2, some 3, some 4, some 5, some 6, some 7, some 8, some 9]}
 ·refine C0 hb2 ?_
  refine FZ 5 ?_
  obtain ⟨n3, H⟩ := of_if H
  obtain ⟨n4, H⟩ := of_if H
  refine Rg V_ok 0 [] (ac (show 0 ≤ (0 : Int) by decide) (ac n3 (ac n4 az))) ?_
  obtain ⟨y5, e6, H⟩ := of_bind H
  refine Rg V_ok 0 [(7, hr f_tags_Next.S y5)] (ac (f_tags_Next.rl e6) az) ?_
  obtain ⟨n7, H⟩ := of_if H
  refine Rg V_ok 1 [(18, hb 11)] (ac n7 az) ?_
  refine GT (tn [1] 12) (RI ?_)
  refine EV V_ok 0 [] 2 az ?_
  obtain ⟨y8, e9, H⟩ := of_bind H
  refine CL V_ok i_control_controller_tell_107.at_ (of_G (i_control_controller_tell_107.f_ok e9)) ?_
  refine RN ?_
  obtain rfl := Option.some.inj H
  exact Lq {fz := [11], gr := 0, ad := [], live := [], src := [some 0, some 1, some 2, some 3, some 4, some 5, some 6, some 7, some 8, some 9]}
noncomputable def f (k : Nat) (x1 : T26b3.T) (x2 x3 x4 x5 x6 x7 x8 x9 x10 x11 x12 x13 x14 x15 : Int) (x16 : List (List (List T1383.T))) (x17 : List Int) (x18 : List T23b6.T) (x19 : List T713d.T) (x20 x21 : List Int) : Option R :=
 if ((x17.length : Int) == (0 : Int)) = true then
  j1 x1 x2 x3 x4 x5 x6 x7 x8 x9 x10 x11 x12 x13 x14 x15 x16 x17 x18 x19 x20 x21 k true
 else
  (i_control_controller_done_ad0.f k x1 x2 x3 x4 x5 x6 x7 x8 x9 x10 x11 x12 x13 x14 x15 x16 x17 x18 x19 x20 x21).bind fun y10 =>
   j1 x1 x2 x3 x4 x5 x6 x7 x8 x9 x10 x11 x12 x13 x14 x15 x16 x17 x18 x19 x20 x21 k (!y10.1)
theorem f_ok {r k x1 x2 x3 x4 x5 x6 x7 x8 x9 x10 x11 x12 x13 x14 x15 x16 x17 x18 x19 x20 x21} (H : f k x1 x2 x3 x4 x5 x6 x7 x8 x9 x10 x11 x12 x13 x14 x15 x16 x17 x18 x19 x20 x21 = some r) : Gw P 10 (Q x1 x2 x3 x4 x5 x6 x7 x8 x9 x11 x14 x15 x16 x20 x21 r) (Px c0 1 []) (s0 x1 x2 x3 x4 x5 x6 x7 x8 x9 x10 x11 x12 x13 x14 x15 x16 x17 x18 x19 x20 x21) := by
 unfold f at H
 refine Rg V_ok 1 [(0, hb 10)] az ?_
 refine GT (tn [1] 11) (RI ?_)
 refine EV V_ok 0 [] 8 az ?_
 rcases of_ite H with ⟨hb1, H⟩ | ⟨hb1, H⟩
 ·refine FXO 9 hb1 ?_
  refine EV V_ok 0 [] 4 az ?_
  refine RN ?_
  exact Jm (tn [1, 13] 11) (j1_ok H)
 ·refine FXO 9 hb1 ?_
  refine EV V_ok 0 [] 1 az ?_
  obtain ⟨y10, e11, H⟩ := of_bind H
  refine CL V_ok i_control_controller_done_ad0.at_ (of_G (i_control_controller_done_ad0.f_ok e11)) ?_
  refine EV V_ok 0 [] 2 az ?_
  refine RN ?_
  exact Jm (tn [1, 13] 11) (j1_ok H)
theorem at_ : FnAt P 46 74 c0 f46.results := fnA func46
end i_control_controller_idle_d8b
namespace i_control_controller_install_1_71d
noncomputable def c0 : Code := bo f103
noncomputable def V : Env := eV []
theorem V_ok : EnvOk P V := eOk (slk_nil)
variable (x1 : T23b6.T) (x2 : T26b3.T) (x3 x4 x5 x6 x7 x8 x9 x10 x11 x12 x13 x14 x15 x16 : Int) (x17 : List (List (List T1383.T))) (x18 : List Int) (x19 : List T23b6.T) (x20 : List T713d.T) (x21 x22 : List Int)
noncomputable def h0 (l : Hl) : Hl := (.box 13, (encC .any T26b3 x2)) :: (.box 13, [.nils, .i x3, .i x4, .i x5, .i x6, .i x7, .i x8, .nils, .nils, .nils, .nils, .nils, .i x9]) :: (.box 6, [.fn 46 [] [], .fn 47 [] [], .fn 48 [] [], .fn 49 [] [], .fn 50 [] [], .fn 50 [] []]) :: (.box 13, [.own 4, .i x10, .i x11, .i x12, .i x13, .i x14, .i x15, .own 5, .own 6, .own 7, .own 8, .own 9, .i x16]) :: (.buf 38 (.slice (.slice T1383)) x17, []) :: (.buf 3 (.int .i64) x18, []) :: (.buf 58 T23b6 x19, []) :: (.buf 93 T713d x20, []) :: (.buf 3 (.int .i64) x21, []) :: (.buf 3 (.int .i64) x22, []) :: (.box 1, [.ptr 3 0]) :: l
abbrev R := (Bool) × Unit
noncomputable def s0 : St := ⟨12, [(0, .cv (.agg (encC .any T23b6 x1))), (1, .cv (.one (.ptr 10 0)))], (h0 x2 x3 x4 x5 x6 x7 x8 x9 x10 x11 x12 x13 x14 x15 x16 x17 x18 x19 x20 x21 x22 [])⟩
noncomputable def out (r : R) : St := ⟨12, [(3, .cv (.one (.bool r.1)))], (h0 x2 x3 x4 x5 x6 x7 x8 x9 x10 x11 x12 x13 x14 x15 x16 x17 x18 x19 x20 x21 x22 [])⟩
abbrev Q (r : R) := CallQ 11 (out x2 x3 x4 x5 x6 x7 x8 x9 x10 x11 x12 x13 x14 x15 x16 x17 x18 x19 x20 x21 x22 r)
noncomputable def f (k : Nat) (x1 : T23b6.T) (x2 : T26b3.T) (x3 x4 x5 x6 x7 x8 x9 x10 x11 x12 x13 x14 x15 x16 : Int) (x17 : List (List (List T1383.T))) (x18 : List Int) (x19 : List T23b6.T) (x20 : List T713d.T) (x21 x22 : List Int) : Option R :=
 some ((x1.2.1 == x13), ())
theorem f_ok {r k x1 x2 x3 x4 x5 x6 x7 x8 x9 x10 x11 x12 x13 x14 x15 x16 x17 x18 x19 x20 x21 x22} (H : f k x1 x2 x3 x4 x5 x6 x7 x8 x9 x10 x11 x12 x13 x14 x15 x16 x17 x18 x19 x20 x21 x22 = some r) : Gw P 11 (Q x2 x3 x4 x5 x6 x7 x8 x9 x10 x11 x12 x13 x14 x15 x16 x17 x18 x19 x20 x21 x22 r) (Px c0 1 []) (s0 x1 x2 x3 x4 x5 x6 x7 x8 x9 x10 x11 x12 x13 x14 x15 x16 x17 x18 x19 x20 x21 x22) := by
 unfold f at H
 refine Rg V_ok 1 [(0, hb 11)] az ?_
 refine Ra ?_
 obtain rfl := Option.some.inj H
 exact Lq (tn [3] 11)
theorem at_ : FnAt P 103 12 c0 f103.results := fnA func103
end i_control_controller_install_1_71d
namespace i_slices_IndexFunc_Peer_d2b
noncomputable def c0 : Code := bo f143
noncomputable def V : Env := eV []
theorem V_ok : EnvOk P V := eOk (slk_nil)
variable (x1 : T26b3.T) (x2 x3 x4 x5 x6 x7 x8 x9 x10 x11 x12 x13 x14 x15 : Int) (x16 : List (List (List T1383.T))) (x17 : List Int) (x18 : List T23b6.T) (x19 : List T713d.T) (x20 x21 : List Int)
noncomputable def h0 (l : Hl) : Hl := (.box 13, (encC .any T26b3 x1)) :: (.box 13, [.nils, .i x2, .i x3, .i x4, .i x5, .i x6, .i x7, .nils, .nils, .nils, .nils, .nils, .i x8]) :: (.box 6, [.fn 46 [] [], .fn 47 [] [], .fn 48 [] [], .fn 49 [] [], .fn 50 [] [], .fn 50 [] []]) :: (.box 13, [.own 4, .i x9, .i x10, .i x11, .i x12, .i x13, .i x14, .own 5, .own 6, .own 7, .own 8, .own 9, .i x15]) :: (.buf 38 (.slice (.slice T1383)) x16, []) :: (.buf 3 (.int .i64) x17, []) :: (.buf 58 T23b6 x18, []) :: (.buf 93 T713d x19, []) :: (.buf 3 (.int .i64) x20, []) :: (.buf 3 (.int .i64) x21, []) :: (.box 1, [.ptr 3 0]) :: l
abbrev R := (Int) × Unit
noncomputable def s0 : St := ⟨19, [(0, .cv (.one (.own 6))), (1, .cv (.one (.fn 103 [] [(10, 0)])))], (h0 x1 x2 x3 x4 x5 x6 x7 x8 x9 x10 x11 x12 x13 x14 x15 x16 x17 x18 x19 x20 x21 [])⟩
noncomputable def out (r : R) : St := ⟨19, [(4, .cv (.one (.i r.1)))], (h0 x1 x2 x3 x4 x5 x6 x7 x8 x9 x10 x11 x12 x13 x14 x15 x16 x17 x18 x19 x20 x21 [])⟩
abbrev Q (r : R) := CallQ 11 (out x1 x2 x3 x4 x5 x6 x7 x8 x9 x10 x11 x12 x13 x14 x15 x16 x17 x18 x19 x20 x21 r)
noncomputable def s1 (p1 p2 : Int) : St := ⟨19, [(0, .cv (.one (.own 6))), (1, .cv (.one (.fn 103 [] [(10, 0)]))), (7, .cv (.one (.i p1))), (8, .cv (.one (.i p2)))], (h0 x1 x2 x3 x4 x5 x6 x7 x8 x9 x10 x11 x12 x13 x14 x15 x16 x17 x18 x19 x20 x21 [])⟩
noncomputable def b1 (L1 : Int → Int → Option R) (k : Nat) (p1 p2 : Int) : Option R :=
 if (decide (p2 < p1)) = true then
 if 0 ≤ p2 then
  if p2 < (x18.length : Int) then
   (i_control_controller_install_1_71d.f k (att T23b6 x18 p2) x1 x2 x3 x4 x5 x6 x7 x8 x9 x10 x11 x12 x13 x14 x15 x16 x17 x18 x19 x20 x21).bind fun y4 =>
    if y4.1 = true then
     some (p2, ())
    else
     L1 p1 (IntKind.i64.wrap (p2 + 1))
  else none
 else none
else
 some ((-1), ())
theorem b1_ok {r x1 x2 x3 x4 x5 x6 x7 x8 x9 x10 x11 x12 x13 x14 x15 x16 x17 x18 x19 x20 x21} {L1 : Int → Int → Option R} {m1 : Nat} (hL1 : ∀ p1 p2, L1 p1 p2 = some r → Gw P 11 (Q x1 x2 x3 x4 x5 x6 x7 x8 x9 x10 x11 x12 x13 x14 x15 x16 x17 x18 x19 x20 x21 r) (Pb c0 21 [] m1) (s1 x1 x2 x3 x4 x5 x6 x7 x8 x9 x10 x11 x12 x13 x14 x15 x16 x17 x18 x19 x20 x21 p1 p2)) {k p1 p2} (H : b1 x1 x2 x3 x4 x5 x6 x7 x8 x9 x10 x11 x12 x13 x14 x15 x16 x17 x18 x19 x20 x21 L1 k p1 p2 = some r) : Gw P 11 (Q x1 x2 x3 x4 x5 x6 x7 x8 x9 x10 x11 x12 x13 x14 x15 x16 x17 x18 x19 x20 x21 r) (Px c0 37 [m1]) (s1 x1 x2 x3 x4 x5 x6 x7 x8 x9 x10 x11 x12 x13 x14 x15 x16 x17 x18 x19 x20 x21 p1 p2) := by
 unfold b1 at H
 refine Ra ?_
 rcases of_ite H with ⟨hb1, H⟩ | ⟨hb1, H⟩
 ·refine C1 hb1 ?_
  refine Ra ?_
  refine GT (tn [0, 1, 5, 7, 8] 11) (RI ?_)
  obtain ⟨n2, H⟩ := of_if H
  obtain ⟨n3, H⟩ := of_if H
  refine EV V_ok 0 [] 5 (ac n2 (ac n3 az)) ?_
  obtain ⟨y4, e5, H⟩ := of_bind H
  refine CL V_ok i_control_controller_install_1_71d.at_ (of_G (i_control_controller_install_1_71d.f_ok e5)) ?_
  refine RN ?_
  rcases of_ite H with ⟨hb6, H⟩ | ⟨hb6, H⟩
  ·refine C1 hb6 ?_
   refine Ra ?_
   obtain rfl := Option.some.inj H
   exact Lq (tn [4] 11)
  ·refine C0 hb6 ?_
   refine Ra ?_
   exact Jm (tn [0, 1, 7, 8] 11) (hL1 p1 (IntKind.i64.wrap (p2 + 1)) H)
 ·refine C0 hb1 ?_
  refine Ra ?_
  obtain rfl := Option.some.inj H
  exact Lq (tn [4] 11)
noncomputable def l1 (k : Nat) : Nat → Int → Int → Option R
 | 0, _, _ => none
 | m + 1, p1, p2 => b1 x1 x2 x3 x4 x5 x6 x7 x8 x9 x10 x11 x12 x13 x14 x15 x16 x17 x18 x19 x20 x21 (l1 k m) k p1 p2
theorem l1_ok {r x1 x2 x3 x4 x5 x6 x7 x8 x9 x10 x11 x12 x13 x14 x15 x16 x17 x18 x19 x20 x21} (k : Nat) : ∀ (m1 : Nat) (p1 : Int) (p2 : Int), l1 x1 x2 x3 x4 x5 x6 x7 x8 x9 x10 x11 x12 x13 x14 x15 x16 x17 x18 x19 x20 x21 k m1 p1 p2 = some r → Gw P 11 (Q x1 x2 x3 x4 x5 x6 x7 x8 x9 x10 x11 x12 x13 x14 x15 x16 x17 x18 x19 x20 x21 r) (Pb c0 21 [] m1) (s1 x1 x2 x3 x4 x5 x6 x7 x8 x9 x10 x11 x12 x13 x14 x15 x16 x17 x18 x19 x20 x21 p1 p2)
 | 0, _, _, H => by cases H
 | m1 + 1, p1, p2, H => SU (by kernel_rfl) (b1_ok (l1_ok k m1) H)
noncomputable def f (k : Nat) (x1 : T26b3.T) (x2 x3 x4 x5 x6 x7 x8 x9 x10 x11 x12 x13 x14 x15 : Int) (x16 : List (List (List T1383.T))) (x17 : List Int) (x18 : List T23b6.T) (x19 : List T713d.T) (x20 x21 : List Int) : Option R :=
 l1 x1 x2 x3 x4 x5 x6 x7 x8 x9 x10 x11 x12 x13 x14 x15 x16 x17 x18 x19 x20 x21 k k (x18.length : Int) 0
theorem f_ok {r k x1 x2 x3 x4 x5 x6 x7 x8 x9 x10 x11 x12 x13 x14 x15 x16 x17 x18 x19 x20 x21} (H : f k x1 x2 x3 x4 x5 x6 x7 x8 x9 x10 x11 x12 x13 x14 x15 x16 x17 x18 x19 x20 x21 = some r) : Gw P 11 (Q x1 x2 x3 x4 x5 x6 x7 x8 x9 x10 x11 x12 x13 x14 x15 x16 x17 x18 x19 x20 x21 r) (Px c0 1 []) (s0 x1 x2 x3 x4 x5 x6 x7 x8 x9 x10 x11 x12 x13 x14 x15 x16 x17 x18 x19 x20 x21) := by
 unfold f at H
 refine Ra ?_
 refine Ra ?_
 exact LP k (Jm (tn [0, 1, 7, 8] 11) (l1_ok k k (x18.length : Int) 0 H))
theorem at_ : FnAt P 143 19 c0 f143.results := fnA func143
end i_slices_IndexFunc_Peer_d2b
namespace i_slices_ContainsFunc_Peer_d2b
noncomputable def c0 : Code := bo f102
noncomputable def V : Env := eV []
theorem V_ok : EnvOk P V := eOk (slk_nil)
variable (x1 : T26b3.T) (x2 x3 x4 x5 x6 x7 x8 x9 x10 x11 x12 x13 x14 x15 : Int) (x16 : List (List (List T1383.T))) (x17 : List Int) (x18 : List T23b6.T) (x19 : List T713d.T) (x20 x21 : List Int)
noncomputable def h0 (l : Hl) : Hl := (.box 13, (encC .any T26b3 x1)) :: (.box 13, [.nils, .i x2, .i x3, .i x4, .i x5, .i x6, .i x7, .nils, .nils, .nils, .nils, .nils, .i x8]) :: (.box 6, [.fn 46 [] [], .fn 47 [] [], .fn 48 [] [], .fn 49 [] [], .fn 50 [] [], .fn 50 [] []]) :: (.box 13, [.own 4, .i x9, .i x10, .i x11, .i x12, .i x13, .i x14, .own 5, .own 6, .own 7, .own 8, .own 9, .i x15]) :: (.buf 38 (.slice (.slice T1383)) x16, []) :: (.buf 3 (.int .i64) x17, []) :: (.buf 58 T23b6 x18, []) :: (.buf 93 T713d x19, []) :: (.buf 3 (.int .i64) x20, []) :: (.buf 3 (.int .i64) x21, []) :: (.box 1, [.ptr 3 0]) :: l
abbrev R := (Bool) × Unit
noncomputable def s0 : St := ⟨9, [(0, .cv (.one (.own 6))), (1, .cv (.one (.fn 103 [] [(10, 0)])))], (h0 x1 x2 x3 x4 x5 x6 x7 x8 x9 x10 x11 x12 x13 x14 x15 x16 x17 x18 x19 x20 x21 [])⟩
noncomputable def out (r : R) : St := ⟨9, [(4, .cv (.one (.bool r.1)))], (h0 x1 x2 x3 x4 x5 x6 x7 x8 x9 x10 x11 x12 x13 x14 x15 x16 x17 x18 x19 x20 x21 [])⟩
abbrev Q (r : R) := CallQ 11 (out x1 x2 x3 x4 x5 x6 x7 x8 x9 x10 x11 x12 x13 x14 x15 x16 x17 x18 x19 x20 x21 r)
noncomputable def f (k : Nat) (x1 : T26b3.T) (x2 x3 x4 x5 x6 x7 x8 x9 x10 x11 x12 x13 x14 x15 : Int) (x16 : List (List (List T1383.T))) (x17 : List Int) (x18 : List T23b6.T) (x19 : List T713d.T) (x20 x21 : List Int) : Option R :=
 (i_slices_IndexFunc_Peer_d2b.f k x1 x2 x3 x4 x5 x6 x7 x8 x9 x10 x11 x12 x13 x14 x15 x16 x17 x18 x19 x20 x21).bind fun y1 =>
  some ((decide (y1.1 ≥ (0 : Int))), ())
theorem f_ok {r k x1 x2 x3 x4 x5 x6 x7 x8 x9 x10 x11 x12 x13 x14 x15 x16 x17 x18 x19 x20 x21} (H : f k x1 x2 x3 x4 x5 x6 x7 x8 x9 x10 x11 x12 x13 x14 x15 x16 x17 x18 x19 x20 x21 = some r) : Gw P 11 (Q x1 x2 x3 x4 x5 x6 x7 x8 x9 x10 x11 x12 x13 x14 x15 x16 x17 x18 x19 x20 x21 r) (Px c0 1 []) (s0 x1 x2 x3 x4 x5 x6 x7 x8 x9 x10 x11 x12 x13 x14 x15 x16 x17 x18 x19 x20 x21) := by
 unfold f at H
 refine Ra ?_
 refine GT (tn [0, 1] 11) (RI ?_)
 refine EV V_ok 0 [] 2 az ?_
 obtain ⟨y1, e2, H⟩ := of_bind H
 refine CL V_ok i_slices_IndexFunc_Peer_d2b.at_ (of_G (i_slices_IndexFunc_Peer_d2b.f_ok e2)) ?_
 refine EV V_ok 0 [] 2 az ?_
 refine RN ?_
 obtain rfl := Option.some.inj H
 exact Lq (tn [4] 11)
theorem at_ : FnAt P 102 9 c0 f102.results := fnA func102
end i_slices_ContainsFunc_Peer_d2b
namespace i_control_all_518
noncomputable def c0 : Code := bo f104
noncomputable def V : Env := eV []
theorem V_ok : EnvOk P V := eOk (slk_nil)
variable (x1 x2 : Int) (x3 : T26b3.T) (x4 x5 x6 x7 x8 x9 x10 x11 x12 x13 x14 x15 x16 x17 : Int) (x18 : List (List (List T1383.T))) (x19 : List Int) (x20 : List T23b6.T) (x21 : List T713d.T) (x22 x23 : List Int)
noncomputable def h0 (l : Hl) : Hl := (.box 13, (encC .any T26b3 x3)) :: (.box 13, [.nils, .i x4, .i x5, .i x6, .i x7, .i x8, .i x9, .nils, .nils, .nils, .nils, .nils, .i x10]) :: (.box 6, [.fn 46 [] [], .fn 47 [] [], .fn 48 [] [], .fn 49 [] [], .fn 50 [] [], .fn 50 [] []]) :: (.box 13, [.own 4, .i x11, .i x12, .i x13, .i x14, .i x15, .i x16, .own 5, .own 6, .own 7, .own 8, .own 9, .i x17]) :: (.buf 38 (.slice (.slice T1383)) x18, []) :: (.buf 3 (.int .i64) x19, []) :: (.buf 58 T23b6 x20, []) :: (.buf 93 T713d x21, []) :: (.buf 3 (.int .i64) x22, []) :: (.buf 3 (.int .i64) x23, []) :: (.box 1, [.ptr 3 0]) :: l
abbrev R := Unit
noncomputable def s0 : St := ⟨6, [(0, .cv (.one (.i x1))), (1, .cv (.one (.i x2)))], (h0 x3 x4 x5 x6 x7 x8 x9 x10 x11 x12 x13 x14 x15 x16 x17 x18 x19 x20 x21 x22 x23 [])⟩
noncomputable def out (r : R) : St := ⟨6, [(4, .cv (.one (.fn 144 [] [(11, 0), (12, 0)])))], (h0 x3 x4 x5 x6 x7 x8 x9 x10 x11 x12 x13 x14 x15 x16 x17 x18 x19 x20 x21 x22 x23 [(.box 1, [.i x1]), (.box 1, [.i x2])])⟩
abbrev Q (r : R) := CallQ 11 (out x1 x2 x3 x4 x5 x6 x7 x8 x9 x10 x11 x12 x13 x14 x15 x16 x17 x18 x19 x20 x21 x22 x23 r)
noncomputable def f (k : Nat) (x1 x2 : Int) (x3 : T26b3.T) (x4 x5 x6 x7 x8 x9 x10 x11 x12 x13 x14 x15 x16 x17 : Int) (x18 : List (List (List T1383.T))) (x19 : List Int) (x20 : List T23b6.T) (x21 : List T713d.T) (x22 x23 : List Int) : Option R :=
 some ()
theorem f_ok {r k x1 x2 x3 x4 x5 x6 x7 x8 x9 x10 x11 x12 x13 x14 x15 x16 x17 x18 x19 x20 x21 x22 x23} (H : f k x1 x2 x3 x4 x5 x6 x7 x8 x9 x10 x11 x12 x13 x14 x15 x16 x17 x18 x19 x20 x21 x22 x23 = some r) : Gw P 11 (Q x1 x2 x3 x4 x5 x6 x7 x8 x9 x10 x11 x12 x13 x14 x15 x16 x17 x18 x19 x20 x21 x22 x23 r) (Px c0 1 []) (s0 x1 x2 x3 x4 x5 x6 x7 x8 x9 x10 x11 x12 x13 x14 x15 x16 x17 x18 x19 x20 x21 x22 x23) := by
 unfold f at H
 refine Rg V_ok 2 [(0, hb 11), (1, hb 12)] az ?_
 refine Ra ?_
 obtain rfl := Option.some.inj H
 exact Lq (tn [4] 13)
theorem at_ : FnAt P 104 6 c0 f104.results := fnA func104
end i_control_all_518
namespace i_control_all_1_8b1
noncomputable def c0 : Code := bo f144
noncomputable def V : Env := eV []
theorem V_ok : EnvOk P V := eOk (slk_nil)
variable (x1 : Int) (x2 : T26b3.T) (x3 x4 x5 x6 x7 x8 x9 x10 x11 x12 x13 x14 x15 x16 : Int) (x17 : List (List (List T1383.T))) (x18 : List Int) (x19 : List T23b6.T) (x20 : List T713d.T) (x21 x22 : List Int) (x23 x24 : Int)
noncomputable def h0 (l : Hl) : Hl := (.box 13, (encC .any T26b3 x2)) :: (.box 13, [.nils, .i x3, .i x4, .i x5, .i x6, .i x7, .i x8, .nils, .nils, .nils, .nils, .nils, .i x9]) :: (.box 6, [.fn 46 [] [], .fn 47 [] [], .fn 48 [] [], .fn 49 [] [], .fn 50 [] [], .fn 50 [] []]) :: (.box 13, [.own 4, .i x10, .i x11, .i x12, .i x13, .i x14, .i x15, .own 5, .own 6, .own 7, .own 8, .own 9, .i x16]) :: (.buf 38 (.slice (.slice T1383)) x17, []) :: (.buf 3 (.int .i64) x18, []) :: (.buf 58 T23b6 x19, []) :: (.buf 93 T713d x20, []) :: (.buf 3 (.int .i64) x21, []) :: (.buf 3 (.int .i64) x22, []) :: (.box 1, [.ptr 3 0]) :: (.box 1, [.i x23]) :: (.box 1, [.i x24]) :: l
abbrev R := (List T4414.T) × Unit
noncomputable def s0 : St := ⟨9, [(0, .cv (.one (.i x1))), (1, .cv (.one (.ptr 11 0))), (2, .cv (.one (.ptr 12 0)))], (h0 x2 x3 x4 x5 x6 x7 x8 x9 x10 x11 x12 x13 x14 x15 x16 x17 x18 x19 x20 x21 x22 x23 x24 [])⟩
noncomputable def out (r : R) : St := ⟨9, [(4, .cv (.one (.sl T4414 r.1 .full)))], (h0 x2 x3 x4 x5 x6 x7 x8 x9 x10 x11 x12 x13 x14 x15 x16 x17 x18 x19 x20 x21 x22 x23 x24 [])⟩
abbrev Q (r : R) := CallQ 13 (out x2 x3 x4 x5 x6 x7 x8 x9 x10 x11 x12 x13 x14 x15 x16 x17 x18 x19 x20 x21 x22 x23 x24 r)
noncomputable def f (k : Nat) (x1 : Int) (x2 : T26b3.T) (x3 x4 x5 x6 x7 x8 x9 x10 x11 x12 x13 x14 x15 x16 : Int) (x17 : List (List (List T1383.T))) (x18 : List Int) (x19 : List T23b6.T) (x20 : List T713d.T) (x21 x22 : List Int) (x23 x24 : Int) : Option R :=
 some ([(x23, (0, (0, (x24, ((0, 0), (0, (0, (0, 0))))))))], ())
theorem f_ok {r k x1 x2 x3 x4 x5 x6 x7 x8 x9 x10 x11 x12 x13 x14 x15 x16 x17 x18 x19 x20 x21 x22 x23 x24} (H : f k x1 x2 x3 x4 x5 x6 x7 x8 x9 x10 x11 x12 x13 x14 x15 x16 x17 x18 x19 x20 x21 x22 x23 x24 = some r) : Gw P 13 (Q x2 x3 x4 x5 x6 x7 x8 x9 x10 x11 x12 x13 x14 x15 x16 x17 x18 x19 x20 x21 x22 x23 x24 r) (Px c0 1 []) (s0 x1 x2 x3 x4 x5 x6 x7 x8 x9 x10 x11 x12 x13 x14 x15 x16 x17 x18 x19 x20 x21 x22 x23 x24) := by
 unfold f at H
 refine Ra ?_
 refine Ra ?_
 obtain rfl := Option.some.inj H
 exact Lq (tn [4] 13)
theorem at_ : FnAt P 144 9 c0 f144.results := fnA func144
end i_control_all_1_8b1
namespace i_control_controller_tell_cd9
noncomputable def c0 : Code := bo f99
noncomputable def V : Env := eV [(85, f_plan_Push.S)]
theorem V_ok : EnvOk P V := eOk (slk_cons f_plan_Push.fits (slk_nil))
variable (x1 : T26b3.T) (x2 x3 x4 x5 x6 x7 x8 x9 x10 x11 x12 x13 x14 x15 : Int) (x16 : List (List (List T1383.T))) (x17 : List Int) (x18 : List T23b6.T) (x19 : List T713d.T) (x20 x21 : List Int) (x22 x23 : Int)
noncomputable def h0 (l : Hl) : Hl := (.box 13, (encC .any T26b3 x1)) :: (.box 13, [.nils, .i x2, .i x3, .i x4, .i x5, .i x6, .i x7, .nils, .nils, .nils, .nils, .nils, .i x8]) :: (.box 6, [.fn 46 [] [], .fn 47 [] [], .fn 48 [] [], .fn 49 [] [], .fn 50 [] [], .fn 50 [] []]) :: (.box 13, [.own 4, .i x9, .i x10, .i x11, .i x12, .i x13, .i x14, .own 5, .own 6, .own 7, .own 8, .own 9, .i x15]) :: (.buf 38 (.slice (.slice T1383)) x16, []) :: (.buf 3 (.int .i64) x17, []) :: l
noncomputable def h1 (l : Hl) : Hl := (.buf 93 T713d x19, []) :: (.buf 3 (.int .i64) x20, []) :: (.buf 3 (.int .i64) x21, []) :: (.box 1, [.ptr 3 0]) :: (.box 1, [.i x22]) :: (.box 1, [.i x23]) :: l
abbrev R := (List T23b6.T) × Unit
noncomputable def s0 : St := ⟨36, [(0, .cv (.one (.ptr 3 0))), (1, .cv (.one (.fn 144 [] [(11, 0), (12, 0)])))], (h0 x1 x2 x3 x4 x5 x6 x7 x8 x9 x10 x11 x12 x13 x14 x15 x16 x17 ((.buf 58 T23b6 x18, []) :: (h1 x19 x20 x21 x22 x23 [])))⟩
noncomputable def out (r : R) : St := ⟨36, [], (h0 x1 x2 x3 x4 x5 x6 x7 x8 x9 x10 x11 x12 x13 x14 x15 x16 x17 ((.buf 58 T23b6 r.1, []) :: (h1 x19 x20 x21 x22 x23 [])))⟩
abbrev Q (r : R) := CallQ 13 (out x1 x2 x3 x4 x5 x6 x7 x8 x9 x10 x11 x12 x13 x14 x15 x16 x17 x19 x20 x21 x22 x23 r)
noncomputable def s1 (p1 p2 : Int) (p20 : List T23b6.T) : St := ⟨36, [(0, .cv (.one (.ptr 3 0))), (1, .cv (.one (.fn 144 [] [(11, 0), (12, 0)]))), (10, .cv (.one (.i p1))), (11, .cv (.one (.i p2)))], (h0 x1 x2 x3 x4 x5 x6 x7 x8 x9 x10 x11 x12 x13 x14 x15 x16 x17 ((.buf 58 T23b6 p20, []) :: (h1 x19 x20 x21 x22 x23 [])))⟩
noncomputable def b1 (L1 : Int → Int → List T23b6.T → Option R) (k : Nat) (p1 p2 : Int) (p20 : List T23b6.T) : Option R :=
 if (decide (p2 < p1)) = true then
 if 0 ≤ p2 then
  if p2 < (p20.length : Int) then
   (i_control_all_1_8b1.f k p2 x1 x2 x3 x4 x5 x6 x7 x8 x9 x10 x11 x12 x13 x14 x15 x16 x17 p20 x19 x20 x21 x22 x23).bind fun y4 =>
    (f_plan_Push.f k (((att T23b6 p20 p2).2).2) y4.1).bind fun y6 =>
      L1 p1 (IntKind.i64.wrap (p2 + 1)) (p20.set p2.toNat ((att T23b6 p20 p2).1, (((att T23b6 p20 p2).2).1, y6.1)))
  else none
 else none
else
 some (p20, ())
theorem b1_ok {r x1 x2 x3 x4 x5 x6 x7 x8 x9 x10 x11 x12 x13 x14 x15 x16 x17 x19 x20 x21 x22 x23} {L1 : Int → Int → List T23b6.T → Option R} {m1 : Nat} (hL1 : ∀ p1 p2 p20, L1 p1 p2 p20 = some r → Gw P 13 (Q x1 x2 x3 x4 x5 x6 x7 x8 x9 x10 x11 x12 x13 x14 x15 x16 x17 x19 x20 x21 x22 x23 r) (Pb c0 5 [] m1) (s1 x1 x2 x3 x4 x5 x6 x7 x8 x9 x10 x11 x12 x13 x14 x15 x16 x17 x19 x20 x21 x22 x23 p1 p2 p20)) {k p1 p2 p20} (H : b1 x1 x2 x3 x4 x5 x6 x7 x8 x9 x10 x11 x12 x13 x14 x15 x16 x17 x19 x20 x21 x22 x23 L1 k p1 p2 p20 = some r) : Gw P 13 (Q x1 x2 x3 x4 x5 x6 x7 x8 x9 x10 x11 x12 x13 x14 x15 x16 x17 x19 x20 x21 x22 x23 r) (Px c0 9 [m1]) (s1 x1 x2 x3 x4 x5 x6 x7 x8 x9 x10 x11 x12 x13 x14 x15 x16 x17 x19 x20 x21 x22 x23 p1 p2 p20) := by
 unfold b1 at H
 refine Ra ?_
 rcases of_ite H with ⟨hb1, H⟩ | ⟨hb1, H⟩
 ·refine C1 hb1 ?_
  refine Ra ?_
  obtain ⟨n2, H⟩ := of_if H
  obtain ⟨n3, H⟩ := of_if H
  obtain ⟨y4, e5, H⟩ := of_bind H
  obtain ⟨y6, e7, H⟩ := of_bind H
  let x : Nx := (Px c0 409 [m1])
  let t0 : St := ⟨36, [(0, .cv (.one (.ptr 3 0))), (1, .cv (.one (.fn 144 [] [(11, 0), (12, 0)]))), (4, .cv (.one (.i p2))), (10, .cv (.one (.i p1))), (11, .cv (.one (.i p2)))], (h0 x1 x2 x3 x4 x5 x6 x7 x8 x9 x10 x11 x12 x13 x14 x15 x16 x17 ((.buf 58 T23b6 p20, []) :: (h1 x19 x20 x21 x22 x23 [])))⟩
  refine Jm (x' := x) (τ := t0) (tn [0, 1, 4, 10, 11] 13) ?_
  let Φ := phiX P 13 (Q x1 x2 x3 x4 x5 x6 x7 x8 x9 x10 x11 x12 x13 x14 x15 x16 x17 x19 x20 x21 x22 x23 r) x
  let o := fun (k m : Nat) (t : St) => WA P 13 (opsX x) k (bs 22 m) Φ t
  let t1 : St := stpS V x 0 [] 0 (tn [0, 1, 4, 10, 11, 14] 13) t0
  let t2 : St := stpS V x 0 [] 1 (tn [0, 1, 4, 10, 11, 15] 13) t1
  let t3 : St := stpS V x 0 [] 2 (tn [0, 1, 4, 10, 11, 16] 13) t2
  let t4 : St := stpS V x 0 [] 3 (tn [0, 1, 4, 10, 11, 17] 13) t3
  let t5 : St := stpS V x 0 [] 5 (tn [0, 1, 4, 10, 11, 17, 19] 13) t4
  let t6 : St := stpS V x 0 [] 6 (tn [0, 1, 4, 10, 11, 17, 19, 20] 13) t5
  let t7 : St := stpS V x 0 [] 7 (tn [0, 1, 4, 10, 11, 17, 19, 21] 13) t6
  let t8 : St := stpS V x 0 [] 8 (tn [0, 1, 4, 10, 11, 17, 19, 22] 13) t7
  let t9 : St := stpS V x 0 [] 9 (tn [0, 1, 4, 10, 11, 17, 19, 23] 13) t8
  let t10 : St := stpS V x 0 [] 11 (tn [0, 1, 4, 10, 11, 17, 19, 23, 25] 13) t9
  let t11 : St := stpS V x 0 [] 15 (tn [0, 1, 4, 10, 11, 17, 19, 23, 25, 29] 13) t10
  let t12 : St := stpS V x 0 [] 16 (tn [0, 1, 10, 11, 17, 19, 23, 25, 29, 30] 13) t11
  let t13 : St := stpS V x 0 [] 4 (tn [0, 1, 10, 11, 18, 19, 23, 25, 29, 30] 13) t12
  let t14 : St := stpS V x 0 [] 10 (tn [0, 1, 10, 11, 17, 19, 24, 25, 29, 30] 13) t12
  let u0 : St := i_control_all_1_8b1.out x1 x2 x3 x4 x5 x6 x7 x8 x9 x10 x11 x12 x13 x14 x15 x16 x17 p20 x19 x20 x21 x22 x23 y4
  let t15 : St := clT V.tt x 17 f144.results (tn [0, 1, 10, 11, 17, 19, 23, 25, 31] 13) t12 u0
  let t16 : St := stpS V x 0 [] 10 (tn [0, 1, 10, 11, 18, 19, 24, 25, 29, 30] 13) t13
  let t17 : St := clT V.tt x 17 f144.results (tn [0, 1, 10, 11, 18, 19, 23, 25, 31] 13) t13 u0
  let t18 : St := stpS V x 0 [] 12 (tn [0, 1, 10, 11, 17, 19, 26, 29, 30] 13) t14
  let t19 : St := clT V.tt x 17 f144.results (tn [0, 1, 10, 11, 17, 19, 24, 25, 31] 13) t14 u0
  let t20 : St := stpS V x 0 [] 12 (tn [0, 1, 10, 11, 18, 19, 26, 29, 30] 13) t16
  let t21 : St := clT V.tt x 17 f144.results (tn [0, 1, 10, 11, 18, 19, 24, 25, 31] 13) t16 u0
  let t22 : St := stpS V x 0 [] 13 (tn [0, 1, 10, 11, 17, 19, 27, 29, 30] 13) t18
  let t23 : St := stpS V x 0 [] 12 (tn [0, 1, 10, 11, 17, 19, 26, 31] 13) t19
  let t24 : St := stpS V x 0 [] 13 (tn [0, 1, 10, 11, 18, 19, 27, 29, 30] 13) t20
  let t25 : St := stpS V x 0 [] 12 (tn [0, 1, 10, 11, 18, 19, 26, 31] 13) t21
  let t26 : St := stpS V x 0 [] 14 (tn [0, 1, 10, 11, 17, 19, 28, 29, 30] 13) t22
  let t27 : St := clT V.tt x 17 f144.results (tn [0, 1, 10, 11, 17, 19, 27, 31] 13) t22 u0
  let t28 : St := stpS V x 0 [] 14 (tn [0, 1, 10, 11, 18, 19, 28, 29, 30] 13) t24
  let t29 : St := clT V.tt x 17 f144.results (tn [0, 1, 10, 11, 18, 19, 27, 31] 13) t24 u0
  let t30 : St := clT V.tt x 17 f144.results (tn [0, 1, 10, 11, 17, 19, 28, 31] 13) t26 u0
  let t31 : St := clT V.tt x 17 f144.results (tn [0, 1, 10, 11, 18, 19, 28, 31] 13) t28 u0
  let t32 : St := stpS V x 0 [(18, hr f_plan_Push.S y6)] 18 (tn [0, 1, 10, 11, 17, 19, 32] 13) t30
  let t33 : St := stpS V x 0 [(18, hr f_plan_Push.S y6)] 18 (tn [0, 1, 10, 11, 18, 19, 32] 13) t31
  let t34 : St := stpS V x 0 [] 19 (tn [0, 1, 10, 11, 32, 33] 13) t33
  let t35 : St := stpS V x 0 [] 20 (tn [0, 1, 10, 11, 32, 34] 13) t34
  let t36 : St := stpS V x 0 [] 21 (tn [0, 1, 10, 11] 13) t35
  have w36 : o 0 4194303 t36 := by
   refine WA_nil (by kernel_rfl) (RAn (by kernel_rfl) ?_)
   refine Ra ?_
   exact Jm (tn [0, 1, 10, 11] 13) (hL1 p1 (IntKind.i64.wrap (p2 + 1)) (p20.set p2.toNat ((att T23b6 p20 p2).1, (((att T23b6 p20 p2).2).1, y6.1))) H)
  have w35 : o 1 2097151 t35 := WAs (an (We az w36) aN)
  have w34 : o 2 1048575 t34 := Wt az w35
  have w33 : o 3 524287 t33 := WAs (an (We (ac n2 (ac n3 az)) w34) aN)
  have w32 : o 4 524271 t32 := WAs (an (WE V_ok 0 [] 4 (tn [0, 1, 10, 11, 18, 19, 32] 13) az w33) aN)
  have w31 : o 4 262143 t31 := WAs (an (We (ac (f_plan_Push.rl e7) az) w33) aN)
  have w30 : o 5 262127 t30 := WAs (an (WE V_ok 0 [] 4 (tn [0, 1, 10, 11, 18, 19, 28, 31] 13) az w31) (an (We (ac (f_plan_Push.rl e7) az) w32) aN))
  have w29 : o 5 245759 t29 := WAs (an (WE V_ok 0 [] 14 (tn [0, 1, 10, 11, 18, 19, 28, 31] 13) az w31) aN)
  have w28 : o 5 131071 t28 := WAs (an (Wc V_ok i_control_all_1_8b1.at_ (of_G (i_control_all_1_8b1.f_ok e5)) w31) aN)
  have w27 : o 6 245743 t27 := WAs (an (WE V_ok 0 [] 4 (tn [0, 1, 10, 11, 18, 19, 27, 31] 13) az w29) (an (WE V_ok 0 [] 14 (tn [0, 1, 10, 11, 17, 19, 28, 31] 13) az w30) aN))
  have w26 : o 6 131055 t26 := WAs (an (WE V_ok 0 [] 4 (tn [0, 1, 10, 11, 18, 19, 28, 29, 30] 13) az w28) (an (Wc V_ok i_control_all_1_8b1.at_ (of_G (i_control_all_1_8b1.f_ok e5)) w30) aN))
  have w25 : o 6 237567 t25 := WT V_ok [] 13 (tn [0, 1, 10, 11, 18, 19, 27, 31] 13) az w29
  have w24 : o 6 114687 t24 := WAs (an (We az w28) (an (Wc V_ok i_control_all_1_8b1.at_ (of_G (i_control_all_1_8b1.f_ok e5)) w29) aN))
  have w23 : o 7 237551 t23 := WT V_ok [] 13 (tn [0, 1, 10, 11, 17, 19, 27, 31] 13) az w27
  have w22 : o 7 114671 t22 := WAs (an (WE V_ok 0 [] 4 (tn [0, 1, 10, 11, 18, 19, 27, 29, 30] 13) az w24) (an (We az w26) (an (Wc V_ok i_control_all_1_8b1.at_ (of_G (i_control_all_1_8b1.f_ok e5)) w27) aN)))
  have w21 : o 7 233471 t21 := WAs (an (We (ac n2 (ac n3 az)) w25) aN)
  have w20 : o 7 106495 t20 := Wt az w24
  have w19 : o 8 233455 t19 := WAs (an (WE V_ok 0 [] 4 (tn [0, 1, 10, 11, 18, 19, 24, 25, 31] 13) az w21) (an (We (ac n2 (ac n3 az)) w23) aN))
  have w18 : o 8 106479 t18 := Wt az w22
  have w17 : o 8 232447 t17 := WAs (an (WE V_ok 0 [] 10 (tn [0, 1, 10, 11, 18, 19, 24, 25, 31] 13) az w21) aN)
  have w16 : o 8 102399 t16 := WAs (an (We (ac n2 (ac n3 az)) w20) (an (Wc V_ok i_control_all_1_8b1.at_ (of_G (i_control_all_1_8b1.f_ok e5)) w21) aN))
  have w15 : o 9 232431 t15 := WAs (an (WE V_ok 0 [] 4 (tn [0, 1, 10, 11, 18, 19, 23, 25, 31] 13) az w17) (an (WE V_ok 0 [] 10 (tn [0, 1, 10, 11, 17, 19, 24, 25, 31] 13) az w19) aN))
  have w14 : o 9 102383 t14 := WAs (an (WE V_ok 0 [] 4 (tn [0, 1, 10, 11, 18, 19, 24, 25, 29, 30] 13) az w16) (an (We (ac n2 (ac n3 az)) w18) (an (Wc V_ok i_control_all_1_8b1.at_ (of_G (i_control_all_1_8b1.f_ok e5)) w19) aN)))
  have w13 : o 9 101375 t13 := WAs (an (We az w16) (an (Wc V_ok i_control_all_1_8b1.at_ (of_G (i_control_all_1_8b1.f_ok e5)) w17) aN))
  have w12 : o 10 101359 t12 := WAs (an (We az w13) (an (We az w14) (an (Wc V_ok i_control_all_1_8b1.at_ (of_G (i_control_all_1_8b1.f_ok e5)) w15) aN)))
  have w11 : o 11 35823 t11 := Wt az w12
  have w10 : o 12 3055 t10 := Wt az w11
  have w9 : o 13 1007 t9 := Wt az w10
  have w8 : o 14 495 t8 := Wt az w9
  have w7 : o 15 239 t7 := Wt az w8
  have w6 : o 16 111 t6 := Wt az w7
  have w5 : o 17 47 t5 := Wt az w6
  have w4 : o 18 15 t4 := Wt az w5
  have w3 : o 19 7 t3 := Wt az w4
  have w2 : o 20 3 t2 := Wt az w3
  have w1 : o 21 1 t1 := Wt az w2
  have w0 : o 22 0 t0 := Wt az w1
  exact RA V_ok 22 (by kernel_rfl) (by kernel_rfl) (by kernel_rfl) w0
 ·refine C0 hb1 ?_
  obtain rfl := Option.some.inj H
  exact Lq (tn [] 13)
noncomputable def l1 (k : Nat) : Nat → Int → Int → List T23b6.T → Option R
 | 0, _, _, _ => none
 | m + 1, p1, p2, p20 => b1 x1 x2 x3 x4 x5 x6 x7 x8 x9 x10 x11 x12 x13 x14 x15 x16 x17 x19 x20 x21 x22 x23 (l1 k m) k p1 p2 p20
theorem l1_ok {r x1 x2 x3 x4 x5 x6 x7 x8 x9 x10 x11 x12 x13 x14 x15 x16 x17 x19 x20 x21 x22 x23} (k : Nat) : ∀ (m1 : Nat) (p1 p2 : Int) (p20 : List T23b6.T), l1 x1 x2 x3 x4 x5 x6 x7 x8 x9 x10 x11 x12 x13 x14 x15 x16 x17 x19 x20 x21 x22 x23 k m1 p1 p2 p20 = some r → Gw P 13 (Q x1 x2 x3 x4 x5 x6 x7 x8 x9 x10 x11 x12 x13 x14 x15 x16 x17 x19 x20 x21 x22 x23 r) (Pb c0 5 [] m1) (s1 x1 x2 x3 x4 x5 x6 x7 x8 x9 x10 x11 x12 x13 x14 x15 x16 x17 x19 x20 x21 x22 x23 p1 p2 p20)
 | 0, _, _, _, H => by cases H
 | m1 + 1, p1, p2, p20, H => SU (by kernel_rfl) (b1_ok (l1_ok k m1) H)
noncomputable def f (k : Nat) (x1 : T26b3.T) (x2 x3 x4 x5 x6 x7 x8 x9 x10 x11 x12 x13 x14 x15 : Int) (x16 : List (List (List T1383.T))) (x17 : List Int) (x18 : List T23b6.T) (x19 : List T713d.T) (x20 x21 : List Int) (x22 x23 : Int) : Option R :=
 l1 x1 x2 x3 x4 x5 x6 x7 x8 x9 x10 x11 x12 x13 x14 x15 x16 x17 x19 x20 x21 x22 x23 k k (x18.length : Int) 0 x18
theorem f_ok {r k x1 x2 x3 x4 x5 x6 x7 x8 x9 x10 x11 x12 x13 x14 x15 x16 x17 x18 x19 x20 x21 x22 x23} (H : f k x1 x2 x3 x4 x5 x6 x7 x8 x9 x10 x11 x12 x13 x14 x15 x16 x17 x18 x19 x20 x21 x22 x23 = some r) : Gw P 13 (Q x1 x2 x3 x4 x5 x6 x7 x8 x9 x10 x11 x12 x13 x14 x15 x16 x17 x19 x20 x21 x22 x23 r) (Px c0 1 []) (s0 x1 x2 x3 x4 x5 x6 x7 x8 x9 x10 x11 x12 x13 x14 x15 x16 x17 x18 x19 x20 x21 x22 x23) := by
 unfold f at H
 refine Ra ?_
 exact LP k (Jm (tn [0, 1, 10, 11] 13) (l1_ok k k (x18.length : Int) 0 x18 H))
theorem at_ : FnAt P 99 36 c0 f99.results := fnA func99
end i_control_controller_tell_cd9
namespace i_control_controller_end_2b1
noncomputable def c0 : Code := bo f105
noncomputable def V : Env := eV []
theorem V_ok : EnvOk P V := eOk (slk_nil)
variable (x1 : Int) (x2 : T26b3.T) (x3 x4 x5 x6 x7 x8 x9 x10 x11 x12 x13 x14 x15 x16 : Int) (x17 : List (List (List T1383.T))) (x18 : List Int) (x19 : List T23b6.T) (x20 : List T713d.T) (x21 x22 : List Int)
abbrev R := (Int) × (Int) × Unit
noncomputable def s0 : St := ⟨17, [(0, .cv (.one (.ptr 3 0))), (1, .cv (.one (.i x1)))], [(.box 13, (encC .any T26b3 x2)), (.box 13, [.nils, .i x3, .i x4, .i x5, .i x6, .i x7, .i x8, .nils, .nils, .nils, .nils, .nils, .i x9]), (.box 6, [.fn 46 [] [], .fn 47 [] [], .fn 48 [] [], .fn 49 [] [], .fn 50 [] [], .fn 50 [] []]), (.box 13, [.own 4, .i x10, .i x11, .i x12, .i x13, .i x14, .i x15, .own 5, .own 6, .own 7, .own 8, .own 11, .i x16]), (.buf 38 (.slice (.slice T1383)) x17, []), (.buf 3 (.int .i64) x18, []), (.buf 58 T23b6 x19, []), (.buf 93 T713d x20, []), (.buf 3 (.int .i64) x21, []), (.dead, []), (.box 1, [.ptr 3 0]), (.buf 3 (.int .i64) x22, [])]⟩
noncomputable def out (r : R) : St := ⟨17, [], [(.box 13, (encC .any T26b3 x2)), (.box 13, [.nils, .i x3, .i x4, .i x5, .i x6, .i x7, .i x8, .nils, .nils, .nils, .nils, .nils, .i x9]), (.box 6, [.fn 46 [] [], .fn 47 [] [], .fn 48 [] [], .fn 49 [] [], .fn 50 [] [], .fn 50 [] []]), (.box 13, [.own 4, .i x10, .i r.1, .i x12, .i r.2.1, .i x1, .i x15, .own 5, .own 6, .own 7, .own 8, .own 11, .i x16]), (.buf 38 (.slice (.slice T1383)) x17, []), (.buf 3 (.int .i64) x18, []), (.buf 58 T23b6 x19, []), (.buf 93 T713d x20, []), (.buf 3 (.int .i64) x21, []), (.dead, []), (.box 1, [.ptr 3 0]), (.buf 3 (.int .i64) x22, [])]⟩
abbrev Q (r : R) := CallQ 12 (out x1 x2 x3 x4 x5 x6 x7 x8 x9 x10 x12 x15 x16 x17 x18 x19 x20 x21 x22 r)
noncomputable def f (k : Nat) (x1 : Int) (x2 : T26b3.T) (x3 x4 x5 x6 x7 x8 x9 x10 x11 x12 x13 x14 x15 x16 : Int) (x17 : List (List (List T1383.T))) (x18 : List Int) (x19 : List T23b6.T) (x20 : List T713d.T) (x21 x22 : List Int) : Option R :=
 some ((-1), ((0 : Int), ()))
theorem f_ok {r k x1 x2 x3 x4 x5 x6 x7 x8 x9 x10 x11 x12 x13 x14 x15 x16 x17 x18 x19 x20 x21 x22} (H : f k x1 x2 x3 x4 x5 x6 x7 x8 x9 x10 x11 x12 x13 x14 x15 x16 x17 x18 x19 x20 x21 x22 = some r) : Gw P 12 (Q x1 x2 x3 x4 x5 x6 x7 x8 x9 x10 x12 x15 x16 x17 x18 x19 x20 x21 x22 r) (Px c0 1 []) (s0 x1 x2 x3 x4 x5 x6 x7 x8 x9 x10 x11 x12 x13 x14 x15 x16 x17 x18 x19 x20 x21 x22) := by
 unfold f at H
 refine Ra ?_
 obtain rfl := Option.some.inj H
 exact Lq (tn [] 12)
theorem at_ : FnAt P 105 17 c0 f105.results := fnA func105
end i_control_controller_end_2b1
namespace i_control_controller_install_d8b
noncomputable def c0 : Code := bo f47
noncomputable def V : Env := eV []
theorem V_ok : EnvOk P V := eOk (slk_nil)
variable (x1 : T26b3.T) (x2 x3 x4 x5 x6 x7 x8 x9 x10 x11 x12 x13 x14 x15 : Int) (x16 : List (List (List T1383.T))) (x17 : List Int) (x18 : List T23b6.T) (x19 : List T713d.T) (x20 x21 : List Int)
noncomputable def h0 (l : Hl) : Hl := (.box 13, (encC .any T26b3 x1)) :: (.box 13, [.nils, .i x2, .i x3, .i x4, .i x5, .i x6, .i x7, .nils, .nils, .nils, .nils, .nils, .i x8]) :: (.box 6, [.fn 46 [] [], .fn 47 [] [], .fn 48 [] [], .fn 49 [] [], .fn 50 [] [], .fn 50 [] []]) :: l
noncomputable def h1 (l : Hl) : Hl := (.buf 38 (.slice (.slice T1383)) x16, []) :: (.buf 3 (.int .i64) x17, []) :: l
abbrev R := (Int) × (Int) × (Int) × (List Int) × (List T23b6.T) × Unit
noncomputable def s0 : St := ⟨51, [(0, .cv (.one (.ptr 3 0)))], (h0 x1 x2 x3 x4 x5 x6 x7 x8 ((.box 13, [.own 4, .i x9, .i x10, .i x11, .i x12, .i x13, .i x14, .own 5, .own 6, .own 7, .own 8, .own 9, .i x15]) :: (h1 x16 x17 [(.buf 58 T23b6 x18, []), (.buf 93 T713d x19, []), (.buf 3 (.int .i64) x20, []), (.buf 3 (.int .i64) x21, [])])))⟩
noncomputable def out (r : R) : St := ⟨51, [], (h0 x1 x2 x3 x4 x5 x6 x7 x8 ((.box 13, [.own 4, .i x9, .i r.1, .i x11, .i r.2.1, .i r.2.2.1, .i x14, .own 5, .own 6, .own 7, .own 8, .sl (.int .i64) r.2.2.2.1 .any, .i x15]) :: (h1 x16 x17 [(.buf 58 T23b6 r.2.2.2.2.1, []), (.buf 93 T713d x19, []), (.buf 3 (.int .i64) x20, []), (.dead, [])])))⟩
abbrev Q (r : R) := CallQ 10 (out x1 x2 x3 x4 x5 x6 x7 x8 x9 x11 x14 x15 x16 x17 x19 x20 r)
noncomputable def f (k : Nat) (x1 : T26b3.T) (x2 x3 x4 x5 x6 x7 x8 x9 x10 x11 x12 x13 x14 x15 : Int) (x16 : List (List (List T1383.T))) (x17 : List Int) (x18 : List T23b6.T) (x19 : List T713d.T) (x20 x21 : List Int) : Option R :=
 (i_slices_ContainsFunc_Peer_d2b.f k x1 x2 x3 x4 x5 x6 x7 x8 x9 x10 x11 x12 x13 x14 x15 x16 x17 x18 x19 x20 x21).bind fun y1 =>
  if y1.1 = true then
   (i_control_all_518.f k (4 : Int) x12 x1 x2 x3 x4 x5 x6 x7 x8 x9 x10 x11 x12 x13 x14 x15 x16 x17 x18 x19 x20 x21).bind fun y4 =>
    (i_control_controller_tell_cd9.f k x1 x2 x3 x4 x5 x6 x7 x8 x9 x10 x11 x12 x13 x14 x15 x16 x17 x18 x19 x20 x21 (4 : Int) x12).bind fun y6 =>
     if (x21.length + 1) * 8 ≤ 140737488355328 then
      (i_control_controller_end_2b1.f k (5 : Int) x1 x2 x3 x4 x5 x6 x7 x8 x9 x10 x11 x12 x13 x14 x15 x16 x17 y6.1 x19 x20 (x21 ++ [x10])).bind fun y9 =>
       some (y9.1, (y9.2.1, ((5 : Int), ((x21 ++ [x10]), (y6.1, ())))))
     else none
  else
   (i_control_controller_done_ad0.f k x1 x2 x3 x4 x5 x6 x7 x8 x9 x10 x11 x12 x13 x14 x15 x16 x17 x18 x19 x20 x21).bind fun y11 =>
    if y11.1 = true then
     (i_control_all_518.f k (3 : Int) x12 x1 x2 x3 x4 x5 x6 x7 x8 x9 x10 x11 x12 x13 x14 x15 x16 x17 x18 x19 x20 x21).bind fun y14 =>
      (i_control_controller_tell_cd9.f k x1 x2 x3 x4 x5 x6 x7 x8 x9 x10 x11 x12 x13 x14 x15 x16 x17 x18 x19 x20 x21 (3 : Int) x12).bind fun y16 =>
       some (x10, (x12, ((2 : Int), (x21, (y16.1, ())))))
    else
     some (x10, (x12, (x13, (x21, (x18, ())))))
theorem f_ok {r k x1 x2 x3 x4 x5 x6 x7 x8 x9 x10 x11 x12 x13 x14 x15 x16 x17 x18 x19 x20 x21} (H : f k x1 x2 x3 x4 x5 x6 x7 x8 x9 x10 x11 x12 x13 x14 x15 x16 x17 x18 x19 x20 x21 = some r) : Gw P 10 (Q x1 x2 x3 x4 x5 x6 x7 x8 x9 x11 x14 x15 x16 x17 x19 x20 r) (Px c0 1 []) (s0 x1 x2 x3 x4 x5 x6 x7 x8 x9 x10 x11 x12 x13 x14 x15 x16 x17 x18 x19 x20 x21) := by
 unfold f at H
 refine Rg V_ok 1 [(0, hb 10)] az ?_
 refine GT (tn [1] 11) (RI ?_)
 refine EV V_ok 0 [] 6 az ?_
 obtain ⟨y1, e2, H⟩ := of_bind H
 refine CL V_ok i_slices_ContainsFunc_Peer_d2b.at_ (of_G (i_slices_ContainsFunc_Peer_d2b.f_ok e2)) ?_
 refine EV V_ok 0 [] 1 az ?_
 refine RN ?_
 rcases of_ite H with ⟨hb3, H⟩ | ⟨hb3, H⟩
 ·refine C1 hb3 ?_
  obtain ⟨y4, e5, H⟩ := of_bind H
  obtain ⟨y6, e7, H⟩ := of_bind H
  let x : Nx := (Px c0 37 [])
  let t0 : St := ⟨51, [(1, .cv (.one (.ptr 10 0)))], (h0 x1 x2 x3 x4 x5 x6 x7 x8 ((.box 13, [.own 4, .i x9, .i x10, .i x11, .i x12, .i x13, .i x14, .own 5, .own 6, .own 7, .own 8, .own 9, .i x15]) :: (h1 x16 x17 [(.buf 58 T23b6 x18, []), (.buf 93 T713d x19, []), (.buf 3 (.int .i64) x20, []), (.buf 3 (.int .i64) x21, []), (.box 1, [.ptr 3 0])])))⟩
  refine Jm (x' := x) (τ := t0) (tn [1] 11) ?_
  let Φ := phiX P 10 (Q x1 x2 x3 x4 x5 x6 x7 x8 x9 x11 x14 x15 x16 x17 x19 x20 r) x
  let o := fun (k m : Nat) (t : St) => WA P 10 (opsX x) k (bs 8 m) Φ t
  let t1 : St := stpS V x 0 [] 0 (tn [1, 10] 11) t0
  let t2 : St := stpS V x 0 [] 1 (tn [1, 11] 11) t0
  let t3 : St := stpS V x 0 [] 1 (tn [1, 10, 11] 11) t1
  let t4 : St := stpS V x 0 [] 2 (tn [1, 12] 11) t2
  let t5 : St := stpS V x 0 [] 2 (tn [1, 10, 12] 11) t3
  let t6 : St := stpS V x 0 [] 3 (tn [1, 13] 11) t4
  let t7 : St := stpS V x 0 [] 3 (tn [1, 10, 13] 11) t5
  let t8 : St := stpS V x 0 [] 4 (tn [1, 14] 11) t6
  let t9 : St := stpS V x 0 [] 4 (tn [1, 10, 14] 11) t7
  let t10 : St := stpS V x 0 [] 5 (tn [1, 15] 11) t8
  let t11 : St := stpS V x 0 [] 5 (tn [1, 10, 15] 11) t9
  let u0 : St := i_control_all_518.out (4 : Int) x12 x1 x2 x3 x4 x5 x6 x7 x8 x9 x10 x11 x12 x13 x14 x15 x16 x17 x18 x19 x20 x21 y4
  let t12 : St := clT V.tt x 6 f104.results (tn [1, 16] 13) t10 u0
  let t13 : St := clT V.tt x 6 f104.results (tn [1, 10, 16] 13) t11 u0
  let u1 : St := i_control_controller_tell_cd9.out x1 x2 x3 x4 x5 x6 x7 x8 x9 x10 x11 x12 x13 x14 x15 x16 x17 x19 x20 x21 (4 : Int) x12 y6
  let t14 : St := clT V.tt x 7 f99.results (tn [1] 11) t13 u1
  have w14 : o 0 255 t14 := by
   refine WA_nil (by kernel_rfl) (RAn (by kernel_rfl) ?_)
   obtain ⟨n8, H⟩ := of_if H
   refine Rg V_ok 1 [(12, hb 11)] (ac n8 az) ?_
   refine GT (tn [1] 12) (RI ?_)
   refine EV V_ok 0 [] 1 az ?_
   obtain ⟨y9, e10, H⟩ := of_bind H
   refine CL V_ok i_control_controller_end_2b1.at_ (of_G (i_control_controller_end_2b1.f_ok e10)) ?_
   refine RN ?_
   obtain rfl := Option.some.inj H
   exact Lq {fz := [11], gr := 0, ad := [], live := [], src := [some 0, some 1, some 2, some 3, some 4, some 5, some 6, some 7, some 8, some 9]}
  have w13 : o 1 127 t13 := WAs (an (Wc V_ok i_control_controller_tell_cd9.at_ (of_G (i_control_controller_tell_cd9.f_ok e7)) w14) aN)
  have w12 : o 2 126 t12 := WAs (an (WE V_ok 0 [] 0 (tn [1, 10, 16] 13) az w13) aN)
  have w11 : o 2 63 t11 := WAs (an (Wc V_ok i_control_all_518.at_ (of_G (i_control_all_518.f_ok e5)) w13) aN)
  have w10 : o 3 62 t10 := WAs (an (WE V_ok 0 [] 0 (tn [1, 10, 15] 11) az w11) (an (Wc V_ok i_control_all_518.at_ (of_G (i_control_all_518.f_ok e5)) w12) aN))
  have w9 : o 3 31 t9 := WAs (an (We az w11) aN)
  have w8 : o 4 30 t8 := WAs (an (WE V_ok 0 [] 0 (tn [1, 10, 14] 11) az w9) (an (We az w10) aN))
  have w7 : o 4 15 t7 := Wt az w9
  have w6 : o 5 14 t6 := Wt az w8
  have w5 : o 5 7 t5 := Wt az w7
  have w4 : o 6 6 t4 := Wt az w6
  have w3 : o 6 3 t3 := Wt az w5
  have w2 : o 7 2 t2 := Wt az w4
  have w1 : o 7 1 t1 := WAs (an (We az w3) aN)
  have w0 : o 8 0 t0 := WAs (an (We az w1) (an (We az w2) aN))
  exact RA V_ok 8 (by kernel_rfl) (by kernel_rfl) (by kernel_rfl) w0
 ·refine C0 hb3 ?_
  refine GT (tn [1] 11) (RI ?_)
  refine EV V_ok 0 [] 1 az ?_
  obtain ⟨y11, e12, H⟩ := of_bind H
  refine CL V_ok i_control_controller_done_ad0.at_ (of_G (i_control_controller_done_ad0.f_ok e12)) ?_
  refine EV V_ok 0 [] 1 az ?_
  refine RN ?_
  rcases of_ite H with ⟨hb13, H⟩ | ⟨hb13, H⟩
  ·refine C1 hb13 ?_
   obtain ⟨y14, e15, H⟩ := of_bind H
   obtain ⟨y16, e17, H⟩ := of_bind H
   let x : Nx := (Px c0 157 [])
   let t0 : St := ⟨51, [(1, .cv (.one (.ptr 10 0)))], (h0 x1 x2 x3 x4 x5 x6 x7 x8 ((.box 13, [.own 4, .i x9, .i x10, .i x11, .i x12, .i x13, .i x14, .own 5, .own 6, .own 7, .own 8, .own 9, .i x15]) :: (h1 x16 x17 [(.buf 58 T23b6 x18, []), (.buf 93 T713d x19, []), (.buf 3 (.int .i64) x20, []), (.buf 3 (.int .i64) x21, []), (.box 1, [.ptr 3 0])])))⟩
   refine Jm (x' := x) (τ := t0) (tn [1] 11) ?_
   let Φ := phiX P 10 (Q x1 x2 x3 x4 x5 x6 x7 x8 x9 x11 x14 x15 x16 x17 x19 x20 r) x
   let o := fun (k m : Nat) (t : St) => WA P 10 (opsX x) k (bs 8 m) Φ t
   let t1 : St := stpS V x 0 [] 0 (tn [1, 39] 11) t0
   let t2 : St := stpS V x 0 [] 1 (tn [1, 40] 11) t0
   let t3 : St := stpS V x 0 [] 1 (tn [1, 39, 40] 11) t1
   let t4 : St := stpS V x 0 [] 2 (tn [1, 41] 11) t2
   let t5 : St := stpS V x 0 [] 2 (tn [1, 39, 41] 11) t3
   let t6 : St := stpS V x 0 [] 3 (tn [1, 42] 11) t4
   let t7 : St := stpS V x 0 [] 3 (tn [1, 39, 42] 11) t5
   let t8 : St := stpS V x 0 [] 4 (tn [1, 43] 11) t6
   let t9 : St := stpS V x 0 [] 4 (tn [1, 39, 43] 11) t7
   let t10 : St := stpS V x 0 [] 5 (tn [1, 44] 11) t8
   let t11 : St := stpS V x 0 [] 5 (tn [1, 39, 44] 11) t9
   let u0 : St := i_control_all_518.out (3 : Int) x12 x1 x2 x3 x4 x5 x6 x7 x8 x9 x10 x11 x12 x13 x14 x15 x16 x17 x18 x19 x20 x21 y14
   let t12 : St := clT V.tt x 6 f104.results (tn [1, 45] 13) t10 u0
   let t13 : St := clT V.tt x 6 f104.results (tn [1, 39, 45] 13) t11 u0
   let u1 : St := i_control_controller_tell_cd9.out x1 x2 x3 x4 x5 x6 x7 x8 x9 x10 x11 x12 x13 x14 x15 x16 x17 x19 x20 x21 (3 : Int) x12 y16
   let t14 : St := clT V.tt x 7 f99.results (tn [1] 11) t13 u1
   have w14 : o 0 255 t14 := by
    refine WA_nil (by kernel_rfl) (RAn (by kernel_rfl) ?_)
    refine Ra ?_
    obtain rfl := Option.some.inj H
    exact Lq {fz := [9], gr := 0, ad := [], live := [], src := [some 0, some 1, some 2, some 3, some 4, some 5, some 6, some 7, some 8, some 9]}
   have w13 : o 1 127 t13 := WAs (an (Wc V_ok i_control_controller_tell_cd9.at_ (of_G (i_control_controller_tell_cd9.f_ok e17)) w14) aN)
   have w12 : o 2 126 t12 := WAs (an (WE V_ok 0 [] 0 (tn [1, 39, 45] 13) az w13) aN)
   have w11 : o 2 63 t11 := WAs (an (Wc V_ok i_control_all_518.at_ (of_G (i_control_all_518.f_ok e15)) w13) aN)
   have w10 : o 3 62 t10 := WAs (an (WE V_ok 0 [] 0 (tn [1, 39, 44] 11) az w11) (an (Wc V_ok i_control_all_518.at_ (of_G (i_control_all_518.f_ok e15)) w12) aN))
   have w9 : o 3 31 t9 := WAs (an (We az w11) aN)
   have w8 : o 4 30 t8 := WAs (an (WE V_ok 0 [] 0 (tn [1, 39, 43] 11) az w9) (an (We az w10) aN))
   have w7 : o 4 15 t7 := Wt az w9
   have w6 : o 5 14 t6 := Wt az w8
   have w5 : o 5 7 t5 := Wt az w7
   have w4 : o 6 6 t4 := Wt az w6
   have w3 : o 6 3 t3 := Wt az w5
   have w2 : o 7 2 t2 := Wt az w4
   have w1 : o 7 1 t1 := WAs (an (We az w3) aN)
   have w0 : o 8 0 t0 := WAs (an (We az w1) (an (We az w2) aN))
   exact RA V_ok 8 (by kernel_rfl) (by kernel_rfl) (by kernel_rfl) w0
  ·refine C0 hb13 ?_
   obtain rfl := Option.some.inj H
   exact Lq {fz := [9], gr := 0, ad := [], live := [], src := [some 0, some 1, some 2, some 3, some 4, some 5, some 6, some 7, some 8, some 9]}
theorem at_ : FnAt P 47 51 c0 f47.results := fnA func47
end i_control_controller_install_d8b
namespace i_control_controller_done_1_d62
noncomputable def c0 : Code := bo f139
noncomputable def V : Env := eV []
theorem V_ok : EnvOk P V := eOk (slk_nil)
variable (x1 : T23b6.T) (x2 : T26b3.T) (x3 x4 x5 x6 x7 x8 x9 x10 x11 x12 x13 x14 x15 x16 : Int) (x17 : List (List (List T1383.T))) (x18 : List Int) (x19 : List T23b6.T) (x20 : List T713d.T) (x21 x22 : List Int)
noncomputable def h0 (l : Hl) : Hl := (.box 13, (encC .any T26b3 x2)) :: (.box 13, [.nils, .i x3, .i x4, .i x5, .i x6, .i x7, .i x8, .nils, .nils, .nils, .nils, .nils, .i x9]) :: (.box 6, [.fn 46 [] [], .fn 47 [] [], .fn 48 [] [], .fn 49 [] [], .fn 50 [] [], .fn 50 [] []]) :: (.box 13, [.own 4, .i x10, .i x11, .i x12, .i x13, .i x14, .i x15, .own 5, .own 6, .own 7, .own 8, .own 9, .i x16]) :: (.buf 38 (.slice (.slice T1383)) x17, []) :: (.buf 3 (.int .i64) x18, []) :: (.buf 58 T23b6 x19, []) :: (.buf 93 T713d x20, []) :: (.buf 3 (.int .i64) x21, []) :: (.buf 3 (.int .i64) x22, []) :: l
abbrev R := (Bool) × Unit
noncomputable def s0 : St := ⟨13, [(0, .cv (.agg (encC .any T23b6 x1)))], (h0 x2 x3 x4 x5 x6 x7 x8 x9 x10 x11 x12 x13 x14 x15 x16 x17 x18 x19 x20 x21 x22 [])⟩
noncomputable def out (r : R) : St := ⟨13, [(2, .cv (.one (.bool r.1)))], (h0 x2 x3 x4 x5 x6 x7 x8 x9 x10 x11 x12 x13 x14 x15 x16 x17 x18 x19 x20 x21 x22 [])⟩
abbrev Q (r : R) := CallQ 10 (out x2 x3 x4 x5 x6 x7 x8 x9 x10 x11 x12 x13 x14 x15 x16 x17 x18 x19 x20 x21 x22 r)
noncomputable def f (k : Nat) (x1 : T23b6.T) (x2 : T26b3.T) (x3 x4 x5 x6 x7 x8 x9 x10 x11 x12 x13 x14 x15 x16 : Int) (x17 : List (List (List T1383.T))) (x18 : List Int) (x19 : List T23b6.T) (x20 : List T713d.T) (x21 x22 : List Int) : Option R :=
 if (decide (x1.1 ≤ (0 : Int))) = true then
  some (true, ())
 else
  some ((decide ((x1.2.2.2.2.length : Int) > (0 : Int))), ())
theorem f_ok {r k x1 x2 x3 x4 x5 x6 x7 x8 x9 x10 x11 x12 x13 x14 x15 x16 x17 x18 x19 x20 x21 x22} (H : f k x1 x2 x3 x4 x5 x6 x7 x8 x9 x10 x11 x12 x13 x14 x15 x16 x17 x18 x19 x20 x21 x22 = some r) : Gw P 10 (Q x2 x3 x4 x5 x6 x7 x8 x9 x10 x11 x12 x13 x14 x15 x16 x17 x18 x19 x20 x21 x22 r) (Px c0 1 []) (s0 x1 x2 x3 x4 x5 x6 x7 x8 x9 x10 x11 x12 x13 x14 x15 x16 x17 x18 x19 x20 x21 x22) := by
 unfold f at H
 refine Rg V_ok 1 [(0, hb 10)] az ?_
 rcases of_ite H with ⟨hb1, H⟩ | ⟨hb1, H⟩
 ·refine Rg V_ok 0 [(2, {bv := some true})] (ac hb1 az) ?_
  obtain rfl := Option.some.inj H
  exact Lq (tn [2] 10)
 ·refine Rg V_ok 0 [(2, {bv := some false})] (ac hb1 az) ?_
  obtain rfl := Option.some.inj H
  exact Lq (tn [2] 10)
theorem at_ : FnAt P 139 13 c0 f139.results := fnA func139
end i_control_controller_done_1_d62
namespace i_slices_IndexFunc_Peer_dc1
noncomputable def c0 : Code := bo f143
noncomputable def V : Env := eV []
theorem V_ok : EnvOk P V := eOk (slk_nil)
variable (x1 : T26b3.T) (x2 x3 x4 x5 x6 x7 x8 x9 x10 x11 x12 x13 x14 x15 : Int) (x16 : List (List (List T1383.T))) (x17 : List Int) (x18 : List T23b6.T) (x19 : List T713d.T) (x20 x21 : List Int)
noncomputable def h0 (l : Hl) : Hl := (.box 13, (encC .any T26b3 x1)) :: (.box 13, [.nils, .i x2, .i x3, .i x4, .i x5, .i x6, .i x7, .nils, .nils, .nils, .nils, .nils, .i x8]) :: (.box 6, [.fn 46 [] [], .fn 47 [] [], .fn 48 [] [], .fn 49 [] [], .fn 50 [] [], .fn 50 [] []]) :: (.box 13, [.own 4, .i x9, .i x10, .i x11, .i x12, .i x13, .i x14, .own 5, .own 6, .own 7, .own 8, .own 9, .i x15]) :: (.buf 38 (.slice (.slice T1383)) x16, []) :: (.buf 3 (.int .i64) x17, []) :: (.buf 58 T23b6 x18, []) :: (.buf 93 T713d x19, []) :: (.buf 3 (.int .i64) x20, []) :: (.buf 3 (.int .i64) x21, []) :: l
abbrev R := (Int) × Unit
noncomputable def s0 : St := ⟨19, [(0, .cv (.one (.own 6))), (1, .cv (.one (.fn 139 [] [])))], (h0 x1 x2 x3 x4 x5 x6 x7 x8 x9 x10 x11 x12 x13 x14 x15 x16 x17 x18 x19 x20 x21 [])⟩
noncomputable def out (r : R) : St := ⟨19, [(4, .cv (.one (.i r.1)))], (h0 x1 x2 x3 x4 x5 x6 x7 x8 x9 x10 x11 x12 x13 x14 x15 x16 x17 x18 x19 x20 x21 [])⟩
abbrev Q (r : R) := CallQ 10 (out x1 x2 x3 x4 x5 x6 x7 x8 x9 x10 x11 x12 x13 x14 x15 x16 x17 x18 x19 x20 x21 r)
noncomputable def s1 (p1 p2 : Int) : St := ⟨19, [(0, .cv (.one (.own 6))), (1, .cv (.one (.fn 139 [] []))), (7, .cv (.one (.i p1))), (8, .cv (.one (.i p2)))], (h0 x1 x2 x3 x4 x5 x6 x7 x8 x9 x10 x11 x12 x13 x14 x15 x16 x17 x18 x19 x20 x21 [])⟩
noncomputable def b1 (L1 : Int → Int → Option R) (k : Nat) (p1 p2 : Int) : Option R :=
 if (decide (p2 < p1)) = true then
 if 0 ≤ p2 then
  if p2 < (x18.length : Int) then
   (i_control_controller_done_1_d62.f k (att T23b6 x18 p2) x1 x2 x3 x4 x5 x6 x7 x8 x9 x10 x11 x12 x13 x14 x15 x16 x17 x18 x19 x20 x21).bind fun y4 =>
    if y4.1 = true then
     some (p2, ())
    else
     L1 p1 (IntKind.i64.wrap (p2 + 1))
  else none
 else none
else
 some ((-1), ())
theorem b1_ok {r x1 x2 x3 x4 x5 x6 x7 x8 x9 x10 x11 x12 x13 x14 x15 x16 x17 x18 x19 x20 x21} {L1 : Int → Int → Option R} {m1 : Nat} (hL1 : ∀ p1 p2, L1 p1 p2 = some r → Gw P 10 (Q x1 x2 x3 x4 x5 x6 x7 x8 x9 x10 x11 x12 x13 x14 x15 x16 x17 x18 x19 x20 x21 r) (Pb c0 21 [] m1) (s1 x1 x2 x3 x4 x5 x6 x7 x8 x9 x10 x11 x12 x13 x14 x15 x16 x17 x18 x19 x20 x21 p1 p2)) {k p1 p2} (H : b1 x1 x2 x3 x4 x5 x6 x7 x8 x9 x10 x11 x12 x13 x14 x15 x16 x17 x18 x19 x20 x21 L1 k p1 p2 = some r) : Gw P 10 (Q x1 x2 x3 x4 x5 x6 x7 x8 x9 x10 x11 x12 x13 x14 x15 x16 x17 x18 x19 x20 x21 r) (Px c0 37 [m1]) (s1 x1 x2 x3 x4 x5 x6 x7 x8 x9 x10 x11 x12 x13 x14 x15 x16 x17 x18 x19 x20 x21 p1 p2) := by
 unfold b1 at H
 refine Ra ?_
 rcases of_ite H with ⟨hb1, H⟩ | ⟨hb1, H⟩
 ·refine C1 hb1 ?_
  refine Ra ?_
  refine GT (tn [0, 1, 5, 7, 8] 10) (RI ?_)
  obtain ⟨n2, H⟩ := of_if H
  obtain ⟨n3, H⟩ := of_if H
  refine EV V_ok 0 [] 5 (ac n2 (ac n3 az)) ?_
  obtain ⟨y4, e5, H⟩ := of_bind H
  refine CL V_ok i_control_controller_done_1_d62.at_ (of_G (i_control_controller_done_1_d62.f_ok e5)) ?_
  refine RN ?_
  rcases of_ite H with ⟨hb6, H⟩ | ⟨hb6, H⟩
  ·refine C1 hb6 ?_
   refine Ra ?_
   obtain rfl := Option.some.inj H
   exact Lq (tn [4] 10)
  ·refine C0 hb6 ?_
   refine Ra ?_
   exact Jm (tn [0, 1, 7, 8] 10) (hL1 p1 (IntKind.i64.wrap (p2 + 1)) H)
 ·refine C0 hb1 ?_
  refine Ra ?_
  obtain rfl := Option.some.inj H
  exact Lq (tn [4] 10)
noncomputable def l1 (k : Nat) : Nat → Int → Int → Option R
 | 0, _, _ => none
 | m + 1, p1, p2 => b1 x1 x2 x3 x4 x5 x6 x7 x8 x9 x10 x11 x12 x13 x14 x15 x16 x17 x18 x19 x20 x21 (l1 k m) k p1 p2
theorem l1_ok {r x1 x2 x3 x4 x5 x6 x7 x8 x9 x10 x11 x12 x13 x14 x15 x16 x17 x18 x19 x20 x21} (k : Nat) : ∀ (m1 : Nat) (p1 : Int) (p2 : Int), l1 x1 x2 x3 x4 x5 x6 x7 x8 x9 x10 x11 x12 x13 x14 x15 x16 x17 x18 x19 x20 x21 k m1 p1 p2 = some r → Gw P 10 (Q x1 x2 x3 x4 x5 x6 x7 x8 x9 x10 x11 x12 x13 x14 x15 x16 x17 x18 x19 x20 x21 r) (Pb c0 21 [] m1) (s1 x1 x2 x3 x4 x5 x6 x7 x8 x9 x10 x11 x12 x13 x14 x15 x16 x17 x18 x19 x20 x21 p1 p2)
 | 0, _, _, H => by cases H
 | m1 + 1, p1, p2, H => SU (by kernel_rfl) (b1_ok (l1_ok k m1) H)
noncomputable def f (k : Nat) (x1 : T26b3.T) (x2 x3 x4 x5 x6 x7 x8 x9 x10 x11 x12 x13 x14 x15 : Int) (x16 : List (List (List T1383.T))) (x17 : List Int) (x18 : List T23b6.T) (x19 : List T713d.T) (x20 x21 : List Int) : Option R :=
 l1 x1 x2 x3 x4 x5 x6 x7 x8 x9 x10 x11 x12 x13 x14 x15 x16 x17 x18 x19 x20 x21 k k (x18.length : Int) 0
theorem f_ok {r k x1 x2 x3 x4 x5 x6 x7 x8 x9 x10 x11 x12 x13 x14 x15 x16 x17 x18 x19 x20 x21} (H : f k x1 x2 x3 x4 x5 x6 x7 x8 x9 x10 x11 x12 x13 x14 x15 x16 x17 x18 x19 x20 x21 = some r) : Gw P 10 (Q x1 x2 x3 x4 x5 x6 x7 x8 x9 x10 x11 x12 x13 x14 x15 x16 x17 x18 x19 x20 x21 r) (Px c0 1 []) (s0 x1 x2 x3 x4 x5 x6 x7 x8 x9 x10 x11 x12 x13 x14 x15 x16 x17 x18 x19 x20 x21) := by
 unfold f at H
 refine Ra ?_
 refine Ra ?_
 exact LP k (Jm (tn [0, 1, 7, 8] 10) (l1_ok k k (x18.length : Int) 0 H))
theorem at_ : FnAt P 143 19 c0 f143.results := fnA func143
end i_slices_IndexFunc_Peer_dc1
namespace i_slices_ContainsFunc_Peer_dc1
noncomputable def c0 : Code := bo f102
noncomputable def V : Env := eV []
theorem V_ok : EnvOk P V := eOk (slk_nil)
variable (x1 : T26b3.T) (x2 x3 x4 x5 x6 x7 x8 x9 x10 x11 x12 x13 x14 x15 : Int) (x16 : List (List (List T1383.T))) (x17 : List Int) (x18 : List T23b6.T) (x19 : List T713d.T) (x20 x21 : List Int)
noncomputable def h0 (l : Hl) : Hl := (.box 13, (encC .any T26b3 x1)) :: (.box 13, [.nils, .i x2, .i x3, .i x4, .i x5, .i x6, .i x7, .nils, .nils, .nils, .nils, .nils, .i x8]) :: (.box 6, [.fn 46 [] [], .fn 47 [] [], .fn 48 [] [], .fn 49 [] [], .fn 50 [] [], .fn 50 [] []]) :: (.box 13, [.own 4, .i x9, .i x10, .i x11, .i x12, .i x13, .i x14, .own 5, .own 6, .own 7, .own 8, .own 9, .i x15]) :: (.buf 38 (.slice (.slice T1383)) x16, []) :: (.buf 3 (.int .i64) x17, []) :: (.buf 58 T23b6 x18, []) :: (.buf 93 T713d x19, []) :: (.buf 3 (.int .i64) x20, []) :: (.buf 3 (.int .i64) x21, []) :: l
abbrev R := (Bool) × Unit
noncomputable def s0 : St := ⟨9, [(0, .cv (.one (.own 6))), (1, .cv (.one (.fn 139 [] [])))], (h0 x1 x2 x3 x4 x5 x6 x7 x8 x9 x10 x11 x12 x13 x14 x15 x16 x17 x18 x19 x20 x21 [])⟩
noncomputable def out (r : R) : St := ⟨9, [(4, .cv (.one (.bool r.1)))], (h0 x1 x2 x3 x4 x5 x6 x7 x8 x9 x10 x11 x12 x13 x14 x15 x16 x17 x18 x19 x20 x21 [])⟩
abbrev Q (r : R) := CallQ 10 (out x1 x2 x3 x4 x5 x6 x7 x8 x9 x10 x11 x12 x13 x14 x15 x16 x17 x18 x19 x20 x21 r)
noncomputable def f (k : Nat) (x1 : T26b3.T) (x2 x3 x4 x5 x6 x7 x8 x9 x10 x11 x12 x13 x14 x15 : Int) (x16 : List (List (List T1383.T))) (x17 : List Int) (x18 : List T23b6.T) (x19 : List T713d.T) (x20 x21 : List Int) : Option R :=
 (i_slices_IndexFunc_Peer_dc1.f k x1 x2 x3 x4 x5 x6 x7 x8 x9 x10 x11 x12 x13 x14 x15 x16 x17 x18 x19 x20 x21).bind fun y1 =>
  some ((decide (y1.1 ≥ (0 : Int))), ())
theorem f_ok {r k x1 x2 x3 x4 x5 x6 x7 x8 x9 x10 x11 x12 x13 x14 x15 x16 x17 x18 x19 x20 x21} (H : f k x1 x2 x3 x4 x5 x6 x7 x8 x9 x10 x11 x12 x13 x14 x15 x16 x17 x18 x19 x20 x21 = some r) : Gw P 10 (Q x1 x2 x3 x4 x5 x6 x7 x8 x9 x10 x11 x12 x13 x14 x15 x16 x17 x18 x19 x20 x21 r) (Px c0 1 []) (s0 x1 x2 x3 x4 x5 x6 x7 x8 x9 x10 x11 x12 x13 x14 x15 x16 x17 x18 x19 x20 x21) := by
 unfold f at H
 refine Ra ?_
 refine GT (tn [0, 1] 10) (RI ?_)
 refine EV V_ok 0 [] 2 az ?_
 obtain ⟨y1, e2, H⟩ := of_bind H
 refine CL V_ok i_slices_IndexFunc_Peer_dc1.at_ (of_G (i_slices_IndexFunc_Peer_dc1.f_ok e2)) ?_
 refine EV V_ok 0 [] 2 az ?_
 refine RN ?_
 obtain rfl := Option.some.inj H
 exact Lq (tn [4] 10)
theorem at_ : FnAt P 102 9 c0 f102.results := fnA func102
end i_slices_ContainsFunc_Peer_dc1
namespace i_control_controller_done_d8b
noncomputable def c0 : Code := bo f97
noncomputable def V : Env := eV []
theorem V_ok : EnvOk P V := eOk (slk_nil)
variable (x1 : T26b3.T) (x2 x3 x4 x5 x6 x7 x8 x9 x10 x11 x12 x13 x14 x15 : Int) (x16 : List (List (List T1383.T))) (x17 : List Int) (x18 : List T23b6.T) (x19 : List T713d.T) (x20 x21 : List Int)
noncomputable def h0 (l : Hl) : Hl := (.box 13, (encC .any T26b3 x1)) :: (.box 13, [.nils, .i x2, .i x3, .i x4, .i x5, .i x6, .i x7, .nils, .nils, .nils, .nils, .nils, .i x8]) :: (.box 6, [.fn 46 [] [], .fn 47 [] [], .fn 48 [] [], .fn 49 [] [], .fn 50 [] [], .fn 50 [] []]) :: (.box 13, [.own 4, .i x9, .i x10, .i x11, .i x12, .i x13, .i x14, .own 5, .own 6, .own 7, .own 8, .own 9, .i x15]) :: (.buf 38 (.slice (.slice T1383)) x16, []) :: (.buf 3 (.int .i64) x17, []) :: (.buf 58 T23b6 x18, []) :: (.buf 93 T713d x19, []) :: (.buf 3 (.int .i64) x20, []) :: (.buf 3 (.int .i64) x21, []) :: l
abbrev R := (Bool) × Unit
noncomputable def s0 : St := ⟨10, [(0, .cv (.one (.ptr 3 0)))], (h0 x1 x2 x3 x4 x5 x6 x7 x8 x9 x10 x11 x12 x13 x14 x15 x16 x17 x18 x19 x20 x21 [])⟩
noncomputable def out (r : R) : St := ⟨10, [(2, .cv (.one (.bool r.1)))], (h0 x1 x2 x3 x4 x5 x6 x7 x8 x9 x10 x11 x12 x13 x14 x15 x16 x17 x18 x19 x20 x21 [])⟩
abbrev Q (r : R) := CallQ 10 (out x1 x2 x3 x4 x5 x6 x7 x8 x9 x10 x11 x12 x13 x14 x15 x16 x17 x18 x19 x20 x21 r)
noncomputable def f (k : Nat) (x1 : T26b3.T) (x2 x3 x4 x5 x6 x7 x8 x9 x10 x11 x12 x13 x14 x15 : Int) (x16 : List (List (List T1383.T))) (x17 : List Int) (x18 : List T23b6.T) (x19 : List T713d.T) (x20 x21 : List Int) : Option R :=
 (i_slices_ContainsFunc_Peer_dc1.f k x1 x2 x3 x4 x5 x6 x7 x8 x9 x10 x11 x12 x13 x14 x15 x16 x17 x18 x19 x20 x21).bind fun y1 =>
  some ((!y1.1), ())
theorem f_ok {r k x1 x2 x3 x4 x5 x6 x7 x8 x9 x10 x11 x12 x13 x14 x15 x16 x17 x18 x19 x20 x21} (H : f k x1 x2 x3 x4 x5 x6 x7 x8 x9 x10 x11 x12 x13 x14 x15 x16 x17 x18 x19 x20 x21 = some r) : Gw P 10 (Q x1 x2 x3 x4 x5 x6 x7 x8 x9 x10 x11 x12 x13 x14 x15 x16 x17 x18 x19 x20 x21 r) (Px c0 1 []) (s0 x1 x2 x3 x4 x5 x6 x7 x8 x9 x10 x11 x12 x13 x14 x15 x16 x17 x18 x19 x20 x21) := by
 unfold f at H
 refine Ra ?_
 refine GT (tn [0] 10) (RI ?_)
 refine EV V_ok 0 [] 5 az ?_
 obtain ⟨y1, e2, H⟩ := of_bind H
 refine CL V_ok i_slices_ContainsFunc_Peer_dc1.at_ (of_G (i_slices_ContainsFunc_Peer_dc1.f_ok e2)) ?_
 refine EV V_ok 0 [] 2 az ?_
 refine RN ?_
 obtain rfl := Option.some.inj H
 exact Lq (tn [2] 10)
theorem at_ : FnAt P 97 10 c0 f97.results := fnA func97
end i_control_controller_done_d8b
namespace i_control_controller_flip_d8b
noncomputable def c0 : Code := bo f48
noncomputable def V : Env := eV []
theorem V_ok : EnvOk P V := eOk (slk_nil)
variable (x1 : T26b3.T) (x2 x3 x4 x5 x6 x7 x8 x9 x10 x11 x12 x13 x14 x15 : Int) (x16 : List (List (List T1383.T))) (x17 : List Int) (x18 : List T23b6.T) (x19 : List T713d.T) (x20 x21 : List Int)
abbrev R := (Int) × (Int) × Unit
noncomputable def s0 : St := ⟨12, [(0, .cv (.one (.ptr 3 0)))], [(.box 13, (encC .any T26b3 x1)), (.box 13, [.nils, .i x2, .i x3, .i x4, .i x5, .i x6, .i x7, .nils, .nils, .nils, .nils, .nils, .i x8]), (.box 6, [.fn 46 [] [], .fn 47 [] [], .fn 48 [] [], .fn 49 [] [], .fn 50 [] [], .fn 50 [] []]), (.box 13, [.own 4, .i x9, .i x10, .i x11, .i x12, .i x13, .i x14, .own 5, .own 6, .own 7, .own 8, .own 9, .i x15]), (.buf 38 (.slice (.slice T1383)) x16, []), (.buf 3 (.int .i64) x17, []), (.buf 58 T23b6 x18, []), (.buf 93 T713d x19, []), (.buf 3 (.int .i64) x20, []), (.buf 3 (.int .i64) x21, [])]⟩
noncomputable def out (r : R) : St := ⟨12, [], [(.box 13, (encC .any T26b3 x1)), (.box 13, [.nils, .i x2, .i x3, .i x4, .i x5, .i x6, .i x7, .nils, .nils, .nils, .nils, .nils, .i x8]), (.box 6, [.fn 46 [] [], .fn 47 [] [], .fn 48 [] [], .fn 49 [] [], .fn 50 [] [], .fn 50 [] []]), (.box 13, [.own 4, .i x9, .i x10, .i x11, .i x12, .i r.1, .i r.2.1, .own 5, .own 6, .own 7, .own 8, .own 9, .i x15]), (.buf 38 (.slice (.slice T1383)) x16, []), (.buf 3 (.int .i64) x17, []), (.buf 58 T23b6 x18, []), (.buf 93 T713d x19, []), (.buf 3 (.int .i64) x20, []), (.buf 3 (.int .i64) x21, [])]⟩
abbrev Q (r : R) := CallQ 10 (out x1 x2 x3 x4 x5 x6 x7 x8 x9 x10 x11 x12 x15 x16 x17 x18 x19 x20 x21 r)
noncomputable def f (k : Nat) (x1 : T26b3.T) (x2 x3 x4 x5 x6 x7 x8 x9 x10 x11 x12 x13 x14 x15 : Int) (x16 : List (List (List T1383.T))) (x17 : List Int) (x18 : List T23b6.T) (x19 : List T713d.T) (x20 x21 : List Int) : Option R :=
 (i_control_controller_done_d8b.f k x1 x2 x3 x4 x5 x6 x7 x8 x9 x10 x11 x12 x13 x14 x15 x16 x17 x18 x19 x20 x21).bind fun y1 =>
  if y1.1 = true then
   some ((3 : Int), ((18 : Int), ()))
  else
   some (x13, (x14, ()))
theorem f_ok {r k x1 x2 x3 x4 x5 x6 x7 x8 x9 x10 x11 x12 x13 x14 x15 x16 x17 x18 x19 x20 x21} (H : f k x1 x2 x3 x4 x5 x6 x7 x8 x9 x10 x11 x12 x13 x14 x15 x16 x17 x18 x19 x20 x21 = some r) : Gw P 10 (Q x1 x2 x3 x4 x5 x6 x7 x8 x9 x10 x11 x12 x15 x16 x17 x18 x19 x20 x21 r) (Px c0 1 []) (s0 x1 x2 x3 x4 x5 x6 x7 x8 x9 x10 x11 x12 x13 x14 x15 x16 x17 x18 x19 x20 x21) := by
 unfold f at H
 refine GT (tn [0] 10) (RI ?_)
 refine EV V_ok 0 [] 1 az ?_
 obtain ⟨y1, e2, H⟩ := of_bind H
 refine CL V_ok i_control_controller_done_d8b.at_ (of_G (i_control_controller_done_d8b.f_ok e2)) ?_
 refine RN ?_
 rcases of_ite H with ⟨hb3, H⟩ | ⟨hb3, H⟩
 ·refine C1 hb3 ?_
  refine Ra ?_
  obtain rfl := Option.some.inj H
  exact Lq (tn [] 10)
 ·refine C0 hb3 ?_
  obtain rfl := Option.some.inj H
  exact Lq (tn [] 10)
theorem at_ : FnAt P 48 12 c0 f48.results := fnA func48
end i_control_controller_flip_d8b
namespace i_control_all_1a4
noncomputable def c0 : Code := bo f104
noncomputable def V : Env := eV []
theorem V_ok : EnvOk P V := eOk (slk_nil)
variable (x1 x2 : Int) (x3 : T26b3.T) (x4 x5 x6 x7 x8 x9 x10 x11 x12 x13 x14 x15 x16 x17 : Int) (x18 : List (List (List T1383.T))) (x19 : List Int) (x20 : List T23b6.T) (x21 : List T713d.T) (x22 x23 : List Int)
noncomputable def h0 (l : Hl) : Hl := (.box 13, (encC .any T26b3 x3)) :: (.box 13, [.nils, .i x4, .i x5, .i x6, .i x7, .i x8, .i x9, .nils, .nils, .nils, .nils, .nils, .i x10]) :: (.box 6, [.fn 46 [] [], .fn 47 [] [], .fn 48 [] [], .fn 49 [] [], .fn 50 [] [], .fn 50 [] []]) :: (.box 13, [.own 4, .i x11, .i x12, .i x13, .i x14, .i x15, .i x16, .own 5, .own 6, .own 7, .own 8, .own 9, .i x17]) :: (.buf 38 (.slice (.slice T1383)) x18, []) :: (.buf 3 (.int .i64) x19, []) :: (.buf 58 T23b6 x20, []) :: (.buf 93 T713d x21, []) :: (.buf 3 (.int .i64) x22, []) :: (.buf 3 (.int .i64) x23, []) :: l
abbrev R := Unit
noncomputable def s0 : St := ⟨6, [(0, .cv (.one (.i x1))), (1, .cv (.one (.i x2)))], (h0 x3 x4 x5 x6 x7 x8 x9 x10 x11 x12 x13 x14 x15 x16 x17 x18 x19 x20 x21 x22 x23 [])⟩
noncomputable def out (r : R) : St := ⟨6, [(4, .cv (.one (.fn 144 [] [(10, 0), (11, 0)])))], (h0 x3 x4 x5 x6 x7 x8 x9 x10 x11 x12 x13 x14 x15 x16 x17 x18 x19 x20 x21 x22 x23 [(.box 1, [.i x1]), (.box 1, [.i x2])])⟩
abbrev Q (r : R) := CallQ 10 (out x1 x2 x3 x4 x5 x6 x7 x8 x9 x10 x11 x12 x13 x14 x15 x16 x17 x18 x19 x20 x21 x22 x23 r)
noncomputable def f (k : Nat) (x1 x2 : Int) (x3 : T26b3.T) (x4 x5 x6 x7 x8 x9 x10 x11 x12 x13 x14 x15 x16 x17 : Int) (x18 : List (List (List T1383.T))) (x19 : List Int) (x20 : List T23b6.T) (x21 : List T713d.T) (x22 x23 : List Int) : Option R :=
 some ()
theorem f_ok {r k x1 x2 x3 x4 x5 x6 x7 x8 x9 x10 x11 x12 x13 x14 x15 x16 x17 x18 x19 x20 x21 x22 x23} (H : f k x1 x2 x3 x4 x5 x6 x7 x8 x9 x10 x11 x12 x13 x14 x15 x16 x17 x18 x19 x20 x21 x22 x23 = some r) : Gw P 10 (Q x1 x2 x3 x4 x5 x6 x7 x8 x9 x10 x11 x12 x13 x14 x15 x16 x17 x18 x19 x20 x21 x22 x23 r) (Px c0 1 []) (s0 x1 x2 x3 x4 x5 x6 x7 x8 x9 x10 x11 x12 x13 x14 x15 x16 x17 x18 x19 x20 x21 x22 x23) := by
 unfold f at H
 refine Rg V_ok 2 [(0, hb 10), (1, hb 11)] az ?_
 refine Ra ?_
 obtain rfl := Option.some.inj H
 exact Lq (tn [4] 12)
theorem at_ : FnAt P 104 6 c0 f104.results := fnA func104
end i_control_all_1a4
namespace i_control_all_1_252
noncomputable def c0 : Code := bo f144
noncomputable def V : Env := eV []
theorem V_ok : EnvOk P V := eOk (slk_nil)
variable (x1 : Int) (x2 : T26b3.T) (x3 x4 x5 x6 x7 x8 x9 x10 x11 x12 x13 x14 x15 x16 : Int) (x17 : List (List (List T1383.T))) (x18 : List Int) (x19 : List T23b6.T) (x20 : List T713d.T) (x21 x22 : List Int) (x23 x24 : Int)
noncomputable def h0 (l : Hl) : Hl := (.box 13, (encC .any T26b3 x2)) :: (.box 13, [.nils, .i x3, .i x4, .i x5, .i x6, .i x7, .i x8, .nils, .nils, .nils, .nils, .nils, .i x9]) :: (.box 6, [.fn 46 [] [], .fn 47 [] [], .fn 48 [] [], .fn 49 [] [], .fn 50 [] [], .fn 50 [] []]) :: (.box 13, [.own 4, .i x10, .i x11, .i x12, .i x13, .i x14, .i x15, .own 5, .own 6, .own 7, .own 8, .own 9, .i x16]) :: (.buf 38 (.slice (.slice T1383)) x17, []) :: (.buf 3 (.int .i64) x18, []) :: (.buf 58 T23b6 x19, []) :: (.buf 93 T713d x20, []) :: (.buf 3 (.int .i64) x21, []) :: (.buf 3 (.int .i64) x22, []) :: (.box 1, [.i x23]) :: (.box 1, [.i x24]) :: l
abbrev R := (List T4414.T) × Unit
noncomputable def s0 : St := ⟨9, [(0, .cv (.one (.i x1))), (1, .cv (.one (.ptr 10 0))), (2, .cv (.one (.ptr 11 0)))], (h0 x2 x3 x4 x5 x6 x7 x8 x9 x10 x11 x12 x13 x14 x15 x16 x17 x18 x19 x20 x21 x22 x23 x24 [])⟩
noncomputable def out (r : R) : St := ⟨9, [(4, .cv (.one (.sl T4414 r.1 .full)))], (h0 x2 x3 x4 x5 x6 x7 x8 x9 x10 x11 x12 x13 x14 x15 x16 x17 x18 x19 x20 x21 x22 x23 x24 [])⟩
abbrev Q (r : R) := CallQ 12 (out x2 x3 x4 x5 x6 x7 x8 x9 x10 x11 x12 x13 x14 x15 x16 x17 x18 x19 x20 x21 x22 x23 x24 r)
noncomputable def f (k : Nat) (x1 : Int) (x2 : T26b3.T) (x3 x4 x5 x6 x7 x8 x9 x10 x11 x12 x13 x14 x15 x16 : Int) (x17 : List (List (List T1383.T))) (x18 : List Int) (x19 : List T23b6.T) (x20 : List T713d.T) (x21 x22 : List Int) (x23 x24 : Int) : Option R :=
 some ([(x23, (0, (0, (x24, ((0, 0), (0, (0, (0, 0))))))))], ())
theorem f_ok {r k x1 x2 x3 x4 x5 x6 x7 x8 x9 x10 x11 x12 x13 x14 x15 x16 x17 x18 x19 x20 x21 x22 x23 x24} (H : f k x1 x2 x3 x4 x5 x6 x7 x8 x9 x10 x11 x12 x13 x14 x15 x16 x17 x18 x19 x20 x21 x22 x23 x24 = some r) : Gw P 12 (Q x2 x3 x4 x5 x6 x7 x8 x9 x10 x11 x12 x13 x14 x15 x16 x17 x18 x19 x20 x21 x22 x23 x24 r) (Px c0 1 []) (s0 x1 x2 x3 x4 x5 x6 x7 x8 x9 x10 x11 x12 x13 x14 x15 x16 x17 x18 x19 x20 x21 x22 x23 x24) := by
 unfold f at H
 refine Ra ?_
 refine Ra ?_
 obtain rfl := Option.some.inj H
 exact Lq (tn [4] 12)
theorem at_ : FnAt P 144 9 c0 f144.results := fnA func144
end i_control_all_1_252
namespace i_control_controller_tell_863
noncomputable def c0 : Code := bo f99
noncomputable def V : Env := eV [(85, f_plan_Push.S)]
theorem V_ok : EnvOk P V := eOk (slk_cons f_plan_Push.fits (slk_nil))
variable (x1 : T26b3.T) (x2 x3 x4 x5 x6 x7 x8 x9 x10 x11 x12 x13 x14 x15 : Int) (x16 : List (List (List T1383.T))) (x17 : List Int) (x18 : List T23b6.T) (x19 : List T713d.T) (x20 x21 : List Int) (x22 x23 : Int)
noncomputable def h0 (l : Hl) : Hl := (.box 13, (encC .any T26b3 x1)) :: (.box 13, [.nils, .i x2, .i x3, .i x4, .i x5, .i x6, .i x7, .nils, .nils, .nils, .nils, .nils, .i x8]) :: (.box 6, [.fn 46 [] [], .fn 47 [] [], .fn 48 [] [], .fn 49 [] [], .fn 50 [] [], .fn 50 [] []]) :: (.box 13, [.own 4, .i x9, .i x10, .i x11, .i x12, .i x13, .i x14, .own 5, .own 6, .own 7, .own 8, .own 9, .i x15]) :: (.buf 38 (.slice (.slice T1383)) x16, []) :: (.buf 3 (.int .i64) x17, []) :: l
noncomputable def h1 (l : Hl) : Hl := (.buf 93 T713d x19, []) :: (.buf 3 (.int .i64) x20, []) :: (.buf 3 (.int .i64) x21, []) :: (.box 1, [.i x22]) :: (.box 1, [.i x23]) :: l
abbrev R := (List T23b6.T) × Unit
noncomputable def s0 : St := ⟨36, [(0, .cv (.one (.ptr 3 0))), (1, .cv (.one (.fn 144 [] [(10, 0), (11, 0)])))], (h0 x1 x2 x3 x4 x5 x6 x7 x8 x9 x10 x11 x12 x13 x14 x15 x16 x17 ((.buf 58 T23b6 x18, []) :: (h1 x19 x20 x21 x22 x23 [])))⟩
noncomputable def out (r : R) : St := ⟨36, [], (h0 x1 x2 x3 x4 x5 x6 x7 x8 x9 x10 x11 x12 x13 x14 x15 x16 x17 ((.buf 58 T23b6 r.1, []) :: (h1 x19 x20 x21 x22 x23 [])))⟩
abbrev Q (r : R) := CallQ 12 (out x1 x2 x3 x4 x5 x6 x7 x8 x9 x10 x11 x12 x13 x14 x15 x16 x17 x19 x20 x21 x22 x23 r)
noncomputable def s1 (p1 p2 : Int) (p20 : List T23b6.T) : St := ⟨36, [(0, .cv (.one (.ptr 3 0))), (1, .cv (.one (.fn 144 [] [(10, 0), (11, 0)]))), (10, .cv (.one (.i p1))), (11, .cv (.one (.i p2)))], (h0 x1 x2 x3 x4 x5 x6 x7 x8 x9 x10 x11 x12 x13 x14 x15 x16 x17 ((.buf 58 T23b6 p20, []) :: (h1 x19 x20 x21 x22 x23 [])))⟩
noncomputable def b1 (L1 : Int → Int → List T23b6.T → Option R) (k : Nat) (p1 p2 : Int) (p20 : List T23b6.T) : Option R :=
 if (decide (p2 < p1)) = true then
 if 0 ≤ p2 then
  if p2 < (p20.length : Int) then
   (i_control_all_1_252.f k p2 x1 x2 x3 x4 x5 x6 x7 x8 x9 x10 x11 x12 x13 x14 x15 x16 x17 p20 x19 x20 x21 x22 x23).bind fun y4 =>
    (f_plan_Push.f k (((att T23b6 p20 p2).2).2) y4.1).bind fun y6 =>
      L1 p1 (IntKind.i64.wrap (p2 + 1)) (p20.set p2.toNat ((att T23b6 p20 p2).1, (((att T23b6 p20 p2).2).1, y6.1)))
  else none
 else none
else
 some (p20, ())
theorem b1_ok {r x1 x2 x3 x4 x5 x6 x7 x8 x9 x10 x11 x12 x13 x14 x15 x16 x17 x19 x20 x21 x22 x23} {L1 : Int → Int → List T23b6.T → Option R} {m1 : Nat} (hL1 : ∀ p1 p2 p20, L1 p1 p2 p20 = some r → Gw P 12 (Q x1 x2 x3 x4 x5 x6 x7 x8 x9 x10 x11 x12 x13 x14 x15 x16 x17 x19 x20 x21 x22 x23 r) (Pb c0 5 [] m1) (s1 x1 x2 x3 x4 x5 x6 x7 x8 x9 x10 x11 x12 x13 x14 x15 x16 x17 x19 x20 x21 x22 x23 p1 p2 p20)) {k p1 p2 p20} (H : b1 x1 x2 x3 x4 x5 x6 x7 x8 x9 x10 x11 x12 x13 x14 x15 x16 x17 x19 x20 x21 x22 x23 L1 k p1 p2 p20 = some r) : Gw P 12 (Q x1 x2 x3 x4 x5 x6 x7 x8 x9 x10 x11 x12 x13 x14 x15 x16 x17 x19 x20 x21 x22 x23 r) (Px c0 9 [m1]) (s1 x1 x2 x3 x4 x5 x6 x7 x8 x9 x10 x11 x12 x13 x14 x15 x16 x17 x19 x20 x21 x22 x23 p1 p2 p20) := by
 unfold b1 at H
 refine Ra ?_
 rcases of_ite H with ⟨hb1, H⟩ | ⟨hb1, H⟩
 ·refine C1 hb1 ?_
  refine Ra ?_
  obtain ⟨n2, H⟩ := of_if H
  obtain ⟨n3, H⟩ := of_if H
  obtain ⟨y4, e5, H⟩ := of_bind H
  obtain ⟨y6, e7, H⟩ := of_bind H
  let x : Nx := (Px c0 409 [m1])
  let t0 : St := ⟨36, [(0, .cv (.one (.ptr 3 0))), (1, .cv (.one (.fn 144 [] [(10, 0), (11, 0)]))), (4, .cv (.one (.i p2))), (10, .cv (.one (.i p1))), (11, .cv (.one (.i p2)))], (h0 x1 x2 x3 x4 x5 x6 x7 x8 x9 x10 x11 x12 x13 x14 x15 x16 x17 ((.buf 58 T23b6 p20, []) :: (h1 x19 x20 x21 x22 x23 [])))⟩
  refine Jm (x' := x) (τ := t0) (tn [0, 1, 4, 10, 11] 12) ?_
  let Φ := phiX P 12 (Q x1 x2 x3 x4 x5 x6 x7 x8 x9 x10 x11 x12 x13 x14 x15 x16 x17 x19 x20 x21 x22 x23 r) x
  let o := fun (k m : Nat) (t : St) => WA P 12 (opsX x) k (bs 22 m) Φ t
  let t1 : St := stpS V x 0 [] 0 (tn [0, 1, 4, 10, 11, 14] 12) t0
  let t2 : St := stpS V x 0 [] 1 (tn [0, 1, 4, 10, 11, 15] 12) t1
  let t3 : St := stpS V x 0 [] 2 (tn [0, 1, 4, 10, 11, 16] 12) t2
  let t4 : St := stpS V x 0 [] 3 (tn [0, 1, 4, 10, 11, 17] 12) t3
  let t5 : St := stpS V x 0 [] 5 (tn [0, 1, 4, 10, 11, 17, 19] 12) t4
  let t6 : St := stpS V x 0 [] 6 (tn [0, 1, 4, 10, 11, 17, 19, 20] 12) t5
  let t7 : St := stpS V x 0 [] 7 (tn [0, 1, 4, 10, 11, 17, 19, 21] 12) t6
  let t8 : St := stpS V x 0 [] 8 (tn [0, 1, 4, 10, 11, 17, 19, 22] 12) t7
  let t9 : St := stpS V x 0 [] 9 (tn [0, 1, 4, 10, 11, 17, 19, 23] 12) t8
  let t10 : St := stpS V x 0 [] 11 (tn [0, 1, 4, 10, 11, 17, 19, 23, 25] 12) t9
  let t11 : St := stpS V x 0 [] 15 (tn [0, 1, 4, 10, 11, 17, 19, 23, 25, 29] 12) t10
  let t12 : St := stpS V x 0 [] 16 (tn [0, 1, 10, 11, 17, 19, 23, 25, 29, 30] 12) t11
  let t13 : St := stpS V x 0 [] 4 (tn [0, 1, 10, 11, 18, 19, 23, 25, 29, 30] 12) t12
  let t14 : St := stpS V x 0 [] 10 (tn [0, 1, 10, 11, 17, 19, 24, 25, 29, 30] 12) t12
  let u0 : St := i_control_all_1_252.out x1 x2 x3 x4 x5 x6 x7 x8 x9 x10 x11 x12 x13 x14 x15 x16 x17 p20 x19 x20 x21 x22 x23 y4
  let t15 : St := clT V.tt x 17 f144.results (tn [0, 1, 10, 11, 17, 19, 23, 25, 31] 12) t12 u0
  let t16 : St := stpS V x 0 [] 10 (tn [0, 1, 10, 11, 18, 19, 24, 25, 29, 30] 12) t13
  let t17 : St := clT V.tt x 17 f144.results (tn [0, 1, 10, 11, 18, 19, 23, 25, 31] 12) t13 u0
  let t18 : St := stpS V x 0 [] 12 (tn [0, 1, 10, 11, 17, 19, 26, 29, 30] 12) t14
  let t19 : St := clT V.tt x 17 f144.results (tn [0, 1, 10, 11, 17, 19, 24, 25, 31] 12) t14 u0
  let t20 : St := stpS V x 0 [] 12 (tn [0, 1, 10, 11, 18, 19, 26, 29, 30] 12) t16
  let t21 : St := clT V.tt x 17 f144.results (tn [0, 1, 10, 11, 18, 19, 24, 25, 31] 12) t16 u0
  let t22 : St := stpS V x 0 [] 13 (tn [0, 1, 10, 11, 17, 19, 27, 29, 30] 12) t18
  let t23 : St := stpS V x 0 [] 12 (tn [0, 1, 10, 11, 17, 19, 26, 31] 12) t19
  let t24 : St := stpS V x 0 [] 13 (tn [0, 1, 10, 11, 18, 19, 27, 29, 30] 12) t20
  let t25 : St := stpS V x 0 [] 12 (tn [0, 1, 10, 11, 18, 19, 26, 31] 12) t21
  let t26 : St := stpS V x 0 [] 14 (tn [0, 1, 10, 11, 17, 19, 28, 29, 30] 12) t22
  let t27 : St := clT V.tt x 17 f144.results (tn [0, 1, 10, 11, 17, 19, 27, 31] 12) t22 u0
  let t28 : St := stpS V x 0 [] 14 (tn [0, 1, 10, 11, 18, 19, 28, 29, 30] 12) t24
  let t29 : St := clT V.tt x 17 f144.results (tn [0, 1, 10, 11, 18, 19, 27, 31] 12) t24 u0
  let t30 : St := clT V.tt x 17 f144.results (tn [0, 1, 10, 11, 17, 19, 28, 31] 12) t26 u0
  let t31 : St := clT V.tt x 17 f144.results (tn [0, 1, 10, 11, 18, 19, 28, 31] 12) t28 u0
  let t32 : St := stpS V x 0 [(18, hr f_plan_Push.S y6)] 18 (tn [0, 1, 10, 11, 17, 19, 32] 12) t30
  let t33 : St := stpS V x 0 [(18, hr f_plan_Push.S y6)] 18 (tn [0, 1, 10, 11, 18, 19, 32] 12) t31
  let t34 : St := stpS V x 0 [] 19 (tn [0, 1, 10, 11, 32, 33] 12) t33
  let t35 : St := stpS V x 0 [] 20 (tn [0, 1, 10, 11, 32, 34] 12) t34
  let t36 : St := stpS V x 0 [] 21 (tn [0, 1, 10, 11] 12) t35
  have w36 : o 0 4194303 t36 := by
   refine WA_nil (by kernel_rfl) (RAn (by kernel_rfl) ?_)
   refine Ra ?_
   exact Jm (tn [0, 1, 10, 11] 12) (hL1 p1 (IntKind.i64.wrap (p2 + 1)) (p20.set p2.toNat ((att T23b6 p20 p2).1, (((att T23b6 p20 p2).2).1, y6.1))) H)
  have w35 : o 1 2097151 t35 := WAs (an (We az w36) aN)
  have w34 : o 2 1048575 t34 := Wt az w35
  have w33 : o 3 524287 t33 := WAs (an (We (ac n2 (ac n3 az)) w34) aN)
  have w32 : o 4 524271 t32 := WAs (an (WE V_ok 0 [] 4 (tn [0, 1, 10, 11, 18, 19, 32] 12) az w33) aN)
  have w31 : o 4 262143 t31 := WAs (an (We (ac (f_plan_Push.rl e7) az) w33) aN)
  have w30 : o 5 262127 t30 := WAs (an (WE V_ok 0 [] 4 (tn [0, 1, 10, 11, 18, 19, 28, 31] 12) az w31) (an (We (ac (f_plan_Push.rl e7) az) w32) aN))
  have w29 : o 5 245759 t29 := WAs (an (WE V_ok 0 [] 14 (tn [0, 1, 10, 11, 18, 19, 28, 31] 12) az w31) aN)
  have w28 : o 5 131071 t28 := WAs (an (Wc V_ok i_control_all_1_252.at_ (of_G (i_control_all_1_252.f_ok e5)) w31) aN)
  have w27 : o 6 245743 t27 := WAs (an (WE V_ok 0 [] 4 (tn [0, 1, 10, 11, 18, 19, 27, 31] 12) az w29) (an (WE V_ok 0 [] 14 (tn [0, 1, 10, 11, 17, 19, 28, 31] 12) az w30) aN))
  have w26 : o 6 131055 t26 := WAs (an (WE V_ok 0 [] 4 (tn [0, 1, 10, 11, 18, 19, 28, 29, 30] 12) az w28) (an (Wc V_ok i_control_all_1_252.at_ (of_G (i_control_all_1_252.f_ok e5)) w30) aN))
  have w25 : o 6 237567 t25 := WT V_ok [] 13 (tn [0, 1, 10, 11, 18, 19, 27, 31] 12) az w29
  have w24 : o 6 114687 t24 := WAs (an (We az w28) (an (Wc V_ok i_control_all_1_252.at_ (of_G (i_control_all_1_252.f_ok e5)) w29) aN))
  have w23 : o 7 237551 t23 := WT V_ok [] 13 (tn [0, 1, 10, 11, 17, 19, 27, 31] 12) az w27
  have w22 : o 7 114671 t22 := WAs (an (WE V_ok 0 [] 4 (tn [0, 1, 10, 11, 18, 19, 27, 29, 30] 12) az w24) (an (We az w26) (an (Wc V_ok i_control_all_1_252.at_ (of_G (i_control_all_1_252.f_ok e5)) w27) aN)))
  have w21 : o 7 233471 t21 := WAs (an (We (ac n2 (ac n3 az)) w25) aN)
  have w20 : o 7 106495 t20 := Wt az w24
  have w19 : o 8 233455 t19 := WAs (an (WE V_ok 0 [] 4 (tn [0, 1, 10, 11, 18, 19, 24, 25, 31] 12) az w21) (an (We (ac n2 (ac n3 az)) w23) aN))
  have w18 : o 8 106479 t18 := Wt az w22
  have w17 : o 8 232447 t17 := WAs (an (WE V_ok 0 [] 10 (tn [0, 1, 10, 11, 18, 19, 24, 25, 31] 12) az w21) aN)
  have w16 : o 8 102399 t16 := WAs (an (We (ac n2 (ac n3 az)) w20) (an (Wc V_ok i_control_all_1_252.at_ (of_G (i_control_all_1_252.f_ok e5)) w21) aN))
  have w15 : o 9 232431 t15 := WAs (an (WE V_ok 0 [] 4 (tn [0, 1, 10, 11, 18, 19, 23, 25, 31] 12) az w17) (an (WE V_ok 0 [] 10 (tn [0, 1, 10, 11, 17, 19, 24, 25, 31] 12) az w19) aN))
  have w14 : o 9 102383 t14 := WAs (an (WE V_ok 0 [] 4 (tn [0, 1, 10, 11, 18, 19, 24, 25, 29, 30] 12) az w16) (an (We (ac n2 (ac n3 az)) w18) (an (Wc V_ok i_control_all_1_252.at_ (of_G (i_control_all_1_252.f_ok e5)) w19) aN)))
  have w13 : o 9 101375 t13 := WAs (an (We az w16) (an (Wc V_ok i_control_all_1_252.at_ (of_G (i_control_all_1_252.f_ok e5)) w17) aN))
  have w12 : o 10 101359 t12 := WAs (an (We az w13) (an (We az w14) (an (Wc V_ok i_control_all_1_252.at_ (of_G (i_control_all_1_252.f_ok e5)) w15) aN)))
  have w11 : o 11 35823 t11 := Wt az w12
  have w10 : o 12 3055 t10 := Wt az w11
  have w9 : o 13 1007 t9 := Wt az w10
  have w8 : o 14 495 t8 := Wt az w9
  have w7 : o 15 239 t7 := Wt az w8
  have w6 : o 16 111 t6 := Wt az w7
  have w5 : o 17 47 t5 := Wt az w6
  have w4 : o 18 15 t4 := Wt az w5
  have w3 : o 19 7 t3 := Wt az w4
  have w2 : o 20 3 t2 := Wt az w3
  have w1 : o 21 1 t1 := Wt az w2
  have w0 : o 22 0 t0 := Wt az w1
  exact RA V_ok 22 (by kernel_rfl) (by kernel_rfl) (by kernel_rfl) w0
 ·refine C0 hb1 ?_
  obtain rfl := Option.some.inj H
  exact Lq (tn [] 12)
noncomputable def l1 (k : Nat) : Nat → Int → Int → List T23b6.T → Option R
 | 0, _, _, _ => none
 | m + 1, p1, p2, p20 => b1 x1 x2 x3 x4 x5 x6 x7 x8 x9 x10 x11 x12 x13 x14 x15 x16 x17 x19 x20 x21 x22 x23 (l1 k m) k p1 p2 p20
theorem l1_ok {r x1 x2 x3 x4 x5 x6 x7 x8 x9 x10 x11 x12 x13 x14 x15 x16 x17 x19 x20 x21 x22 x23} (k : Nat) : ∀ (m1 : Nat) (p1 p2 : Int) (p20 : List T23b6.T), l1 x1 x2 x3 x4 x5 x6 x7 x8 x9 x10 x11 x12 x13 x14 x15 x16 x17 x19 x20 x21 x22 x23 k m1 p1 p2 p20 = some r → Gw P 12 (Q x1 x2 x3 x4 x5 x6 x7 x8 x9 x10 x11 x12 x13 x14 x15 x16 x17 x19 x20 x21 x22 x23 r) (Pb c0 5 [] m1) (s1 x1 x2 x3 x4 x5 x6 x7 x8 x9 x10 x11 x12 x13 x14 x15 x16 x17 x19 x20 x21 x22 x23 p1 p2 p20)
 | 0, _, _, _, H => by cases H
 | m1 + 1, p1, p2, p20, H => SU (by kernel_rfl) (b1_ok (l1_ok k m1) H)
noncomputable def f (k : Nat) (x1 : T26b3.T) (x2 x3 x4 x5 x6 x7 x8 x9 x10 x11 x12 x13 x14 x15 : Int) (x16 : List (List (List T1383.T))) (x17 : List Int) (x18 : List T23b6.T) (x19 : List T713d.T) (x20 x21 : List Int) (x22 x23 : Int) : Option R :=
 l1 x1 x2 x3 x4 x5 x6 x7 x8 x9 x10 x11 x12 x13 x14 x15 x16 x17 x19 x20 x21 x22 x23 k k (x18.length : Int) 0 x18
theorem f_ok {r k x1 x2 x3 x4 x5 x6 x7 x8 x9 x10 x11 x12 x13 x14 x15 x16 x17 x18 x19 x20 x21 x22 x23} (H : f k x1 x2 x3 x4 x5 x6 x7 x8 x9 x10 x11 x12 x13 x14 x15 x16 x17 x18 x19 x20 x21 x22 x23 = some r) : Gw P 12 (Q x1 x2 x3 x4 x5 x6 x7 x8 x9 x10 x11 x12 x13 x14 x15 x16 x17 x19 x20 x21 x22 x23 r) (Px c0 1 []) (s0 x1 x2 x3 x4 x5 x6 x7 x8 x9 x10 x11 x12 x13 x14 x15 x16 x17 x18 x19 x20 x21 x22 x23) := by
 unfold f at H
 refine Ra ?_
 exact LP k (Jm (tn [0, 1, 10, 11] 12) (l1_ok k k (x18.length : Int) 0 x18 H))
theorem at_ : FnAt P 99 36 c0 f99.results := fnA func99
end i_control_controller_tell_863
namespace i_control_controller_end_f90
noncomputable def c0 : Code := bo f105
noncomputable def V : Env := eV []
theorem V_ok : EnvOk P V := eOk (slk_nil)
variable (x1 : Int) (x2 : T26b3.T) (x3 x4 x5 x6 x7 x8 x9 x10 x11 x12 x13 x14 x15 x16 : Int) (x17 : List (List (List T1383.T))) (x18 : List Int) (x19 : List T23b6.T) (x20 : List T713d.T) (x21 x22 : List Int)
abbrev R := (Int) × (Int) × Unit
noncomputable def s0 : St := ⟨17, [(0, .cv (.one (.ptr 3 0))), (1, .cv (.one (.i x1)))], [(.box 13, (encC .any T26b3 x2)), (.box 13, [.nils, .i x3, .i x4, .i x5, .i x6, .i x7, .i x8, .nils, .nils, .nils, .nils, .nils, .i x9]), (.box 6, [.fn 46 [] [], .fn 47 [] [], .fn 48 [] [], .fn 49 [] [], .fn 50 [] [], .fn 50 [] []]), (.box 13, [.own 4, .i x10, .i x11, .i x12, .i x13, .i x14, .i x15, .own 5, .own 6, .own 7, .own 10, .own 9, .i x16]), (.buf 38 (.slice (.slice T1383)) x17, []), (.buf 3 (.int .i64) x18, []), (.buf 58 T23b6 x19, []), (.buf 93 T713d x20, []), (.dead, []), (.buf 3 (.int .i64) x21, []), (.buf 3 (.int .i64) x22, [])]⟩
noncomputable def out (r : R) : St := ⟨17, [], [(.box 13, (encC .any T26b3 x2)), (.box 13, [.nils, .i x3, .i x4, .i x5, .i x6, .i x7, .i x8, .nils, .nils, .nils, .nils, .nils, .i x9]), (.box 6, [.fn 46 [] [], .fn 47 [] [], .fn 48 [] [], .fn 49 [] [], .fn 50 [] [], .fn 50 [] []]), (.box 13, [.own 4, .i x10, .i r.1, .i x12, .i r.2.1, .i x1, .i x15, .own 5, .own 6, .own 7, .own 10, .own 9, .i x16]), (.buf 38 (.slice (.slice T1383)) x17, []), (.buf 3 (.int .i64) x18, []), (.buf 58 T23b6 x19, []), (.buf 93 T713d x20, []), (.dead, []), (.buf 3 (.int .i64) x21, []), (.buf 3 (.int .i64) x22, [])]⟩
abbrev Q (r : R) := CallQ 11 (out x1 x2 x3 x4 x5 x6 x7 x8 x9 x10 x12 x15 x16 x17 x18 x19 x20 x21 x22 r)
noncomputable def f (k : Nat) (x1 : Int) (x2 : T26b3.T) (x3 x4 x5 x6 x7 x8 x9 x10 x11 x12 x13 x14 x15 x16 : Int) (x17 : List (List (List T1383.T))) (x18 : List Int) (x19 : List T23b6.T) (x20 : List T713d.T) (x21 x22 : List Int) : Option R :=
 some ((-1), ((0 : Int), ()))
theorem f_ok {r k x1 x2 x3 x4 x5 x6 x7 x8 x9 x10 x11 x12 x13 x14 x15 x16 x17 x18 x19 x20 x21 x22} (H : f k x1 x2 x3 x4 x5 x6 x7 x8 x9 x10 x11 x12 x13 x14 x15 x16 x17 x18 x19 x20 x21 x22 = some r) : Gw P 11 (Q x1 x2 x3 x4 x5 x6 x7 x8 x9 x10 x12 x15 x16 x17 x18 x19 x20 x21 x22 r) (Px c0 1 []) (s0 x1 x2 x3 x4 x5 x6 x7 x8 x9 x10 x11 x12 x13 x14 x15 x16 x17 x18 x19 x20 x21 x22) := by
 unfold f at H
 refine Ra ?_
 obtain rfl := Option.some.inj H
 exact Lq (tn [] 11)
theorem at_ : FnAt P 105 17 c0 f105.results := fnA func105
end i_control_controller_end_f90
namespace i_control_controller_drain_d8b
noncomputable def c0 : Code := bo f49
noncomputable def V : Env := eV []
theorem V_ok : EnvOk P V := eOk (slk_nil)
variable (x1 : T26b3.T) (x2 x3 x4 x5 x6 x7 x8 x9 x10 x11 x12 x13 x14 x15 : Int) (x16 : List (List (List T1383.T))) (x17 : List Int) (x18 : List T23b6.T) (x19 : List T713d.T) (x20 x21 : List Int)
abbrev R := (Int) × (Int) × (Int) × (Int) × (Int) × (Int) × (List Int) × (List T23b6.T) × Unit
noncomputable def s0 : St := ⟨61, [(0, .cv (.one (.ptr 3 0)))], [(.box 13, (encC .any T26b3 x1)), (.box 13, [.nils, .i x2, .i x3, .i x4, .i x5, .i x6, .i x7, .nils, .nils, .nils, .nils, .nils, .i x8]), (.box 6, [.fn 46 [] [], .fn 47 [] [], .fn 48 [] [], .fn 49 [] [], .fn 50 [] [], .fn 50 [] []]), (.box 13, [.own 4, .i x9, .i x10, .i x11, .i x12, .i x13, .i x14, .own 5, .own 6, .own 7, .own 8, .own 9, .i x15]), (.buf 38 (.slice (.slice T1383)) x16, []), (.buf 3 (.int .i64) x17, []), (.buf 58 T23b6 x18, []), (.buf 93 T713d x19, []), (.buf 3 (.int .i64) x20, []), (.buf 3 (.int .i64) x21, [])]⟩
noncomputable def out (r : R) : St := ⟨61, [], [(.box 13, (encC .any T26b3 x1)), (.box 13, [.nils, .i x2, .i x3, .i x4, .i x5, .i x6, .i x7, .nils, .nils, .nils, .nils, .nils, .i x8]), (.box 6, [.fn 46 [] [], .fn 47 [] [], .fn 48 [] [], .fn 49 [] [], .fn 50 [] [], .fn 50 [] []]), (.box 13, [.own 4, .i r.1, .i r.2.1, .i r.2.2.1, .i r.2.2.2.1, .i r.2.2.2.2.1, .i r.2.2.2.2.2.1, .own 5, .own 6, .own 7, .sl (.int .i64) r.2.2.2.2.2.2.1 .any, .own 9, .i x15]), (.buf 38 (.slice (.slice T1383)) x16, []), (.buf 3 (.int .i64) x17, []), (.buf 58 T23b6 r.2.2.2.2.2.2.2.1, []), (.buf 93 T713d x19, []), (.dead, []), (.buf 3 (.int .i64) x21, [])]⟩
abbrev Q (r : R) := CallQ 10 (out x1 x2 x3 x4 x5 x6 x7 x8 x15 x16 x17 x19 x21 r)
noncomputable def f (k : Nat) (x1 : T26b3.T) (x2 x3 x4 x5 x6 x7 x8 x9 x10 x11 x12 x13 x14 x15 : Int) (x16 : List (List (List T1383.T))) (x17 : List Int) (x18 : List T23b6.T) (x19 : List T713d.T) (x20 x21 : List Int) : Option R :=
 if (decide ((IntKind.i64.wrap (x14 - 1)) ≥ (1 : Int))) = true then
  some (x9, (x10, (x11, (x12, (x13, ((IntKind.i64.wrap (x14 - 1)), (x20, (x18, ()))))))))
 else
  (i_control_all_1a4.f k (4 : Int) x11 x1 x2 x3 x4 x5 x6 x7 x8 x9 x10 x11 x12 x13 (IntKind.i64.wrap (x14 - 1)) x15 x16 x17 x18 x19 x20 x21).bind fun y2 =>
   (i_control_controller_tell_863.f k x1 x2 x3 x4 x5 x6 x7 x8 x9 x10 x11 x12 x13 (IntKind.i64.wrap (x14 - 1)) x15 x16 x17 x18 x19 x20 x21 (4 : Int) x11).bind fun y4 =>
    if (x20.length + 1) * 8 ≤ 140737488355328 then
     (i_control_controller_end_f90.f k (4 : Int) x1 x2 x3 x4 x5 x6 x7 x8 x10 x10 x12 x12 x13 (IntKind.i64.wrap (x14 - 1)) x15 x16 x17 y4.1 x19 x21 (x20 ++ [x10])).bind fun y7 =>
      some (x10, (y7.1, (x12, (y7.2.1, ((4 : Int), ((IntKind.i64.wrap (x14 - 1)), ((x20 ++ [x10]), (y4.1, ()))))))))
    else none
theorem f_ok {r k x1 x2 x3 x4 x5 x6 x7 x8 x9 x10 x11 x12 x13 x14 x15 x16 x17 x18 x19 x20 x21} (H : f k x1 x2 x3 x4 x5 x6 x7 x8 x9 x10 x11 x12 x13 x14 x15 x16 x17 x18 x19 x20 x21 = some r) : Gw P 10 (Q x1 x2 x3 x4 x5 x6 x7 x8 x15 x16 x17 x19 x21 r) (Px c0 1 []) (s0 x1 x2 x3 x4 x5 x6 x7 x8 x9 x10 x11 x12 x13 x14 x15 x16 x17 x18 x19 x20 x21) := by
 unfold f at H
 refine Ra ?_
 refine Ra ?_
 rcases of_ite H with ⟨hb1, H⟩ | ⟨hb1, H⟩
 ·refine C1 hb1 ?_
  obtain rfl := Option.some.inj H
  exact Lq {fz := [8], gr := 0, ad := [], live := [], src := [some 0, some 1, some 2, some 3, some 4, some 5, some 6, some 7, some 8, some 9]}
 ·refine C0 hb1 ?_
  refine GT (tn [0] 10) (RI ?_)
  refine EV V_ok 0 [] 6 az ?_
  obtain ⟨y2, e3, H⟩ := of_bind H
  refine CL V_ok i_control_all_1a4.at_ (of_G (i_control_all_1a4.f_ok e3)) ?_
  obtain ⟨y4, e5, H⟩ := of_bind H
  refine CL V_ok i_control_controller_tell_863.at_ (of_G (i_control_controller_tell_863.f_ok e5)) ?_
  refine RN ?_
  obtain ⟨n6, H⟩ := of_if H
  refine Rg V_ok 1 [(12, hb 12)] (ac n6 az) ?_
  refine Ra ?_
  refine GT (tl [0] [0, 1, 2, 3, 4, 5, 6, 7, 8, 9, 12]) (RI ?_)
  refine EV V_ok 0 [] 1 az ?_
  obtain ⟨y7, e8, H⟩ := of_bind H
  refine CL V_ok i_control_controller_end_f90.at_ (of_G (i_control_controller_end_f90.f_ok e8)) ?_
  refine RN ?_
  obtain rfl := Option.some.inj H
  exact Lq {fz := [10], gr := 0, ad := [], live := [], src := [some 0, some 1, some 2, some 3, some 4, some 5, some 6, some 7, some 8, some 9]}
theorem at_ : FnAt P 49 61 c0 f49.results := fnA func49
end i_control_controller_drain_d8b
namespace i_control_controller_rest_d8b
noncomputable def c0 : Code := bo f50
noncomputable def V : Env := eV []
theorem V_ok : EnvOk P V := eOk (slk_nil)
variable (x1 : T26b3.T) (x2 x3 x4 x5 x6 x7 x8 x9 x10 x11 x12 x13 x14 x15 : Int) (x16 : List (List (List T1383.T))) (x17 : List Int) (x18 : List T23b6.T) (x19 : List T713d.T) (x20 x21 : List Int)
abbrev R := (Int) × Unit
noncomputable def s0 : St := ⟨8, [(0, .cv (.one (.ptr 3 0)))], [(.box 13, (encC .any T26b3 x1)), (.box 13, [.nils, .i x2, .i x3, .i x4, .i x5, .i x6, .i x7, .nils, .nils, .nils, .nils, .nils, .i x8]), (.box 6, [.fn 46 [] [], .fn 47 [] [], .fn 48 [] [], .fn 49 [] [], .fn 50 [] [], .fn 50 [] []]), (.box 13, [.own 4, .i x9, .i x10, .i x11, .i x12, .i x13, .i x14, .own 5, .own 6, .own 7, .own 8, .own 9, .i x15]), (.buf 38 (.slice (.slice T1383)) x16, []), (.buf 3 (.int .i64) x17, []), (.buf 58 T23b6 x18, []), (.buf 93 T713d x19, []), (.buf 3 (.int .i64) x20, []), (.buf 3 (.int .i64) x21, [])]⟩
noncomputable def out (r : R) : St := ⟨8, [], [(.box 13, (encC .any T26b3 x1)), (.box 13, [.nils, .i x2, .i x3, .i x4, .i x5, .i x6, .i x7, .nils, .nils, .nils, .nils, .nils, .i x8]), (.box 6, [.fn 46 [] [], .fn 47 [] [], .fn 48 [] [], .fn 49 [] [], .fn 50 [] [], .fn 50 [] []]), (.box 13, [.own 4, .i x9, .i x10, .i x11, .i x12, .i r.1, .i x14, .own 5, .own 6, .own 7, .own 8, .own 9, .i x15]), (.buf 38 (.slice (.slice T1383)) x16, []), (.buf 3 (.int .i64) x17, []), (.buf 58 T23b6 x18, []), (.buf 93 T713d x19, []), (.buf 3 (.int .i64) x20, []), (.buf 3 (.int .i64) x21, [])]⟩
abbrev Q (r : R) := CallQ 10 (out x1 x2 x3 x4 x5 x6 x7 x8 x9 x10 x11 x12 x14 x15 x16 x17 x18 x19 x20 x21 r)
noncomputable def f (k : Nat) (x1 : T26b3.T) (x2 x3 x4 x5 x6 x7 x8 x9 x10 x11 x12 x13 x14 x15 : Int) (x16 : List (List (List T1383.T))) (x17 : List Int) (x18 : List T23b6.T) (x19 : List T713d.T) (x20 x21 : List Int) : Option R :=
 (i_control_controller_done_d8b.f k x1 x2 x3 x4 x5 x6 x7 x8 x9 x10 x11 x12 x13 x14 x15 x16 x17 x18 x19 x20 x21).bind fun y1 =>
  if y1.1 = true then
   some ((0 : Int), ())
  else
   some (x13, ())
theorem f_ok {r k x1 x2 x3 x4 x5 x6 x7 x8 x9 x10 x11 x12 x13 x14 x15 x16 x17 x18 x19 x20 x21} (H : f k x1 x2 x3 x4 x5 x6 x7 x8 x9 x10 x11 x12 x13 x14 x15 x16 x17 x18 x19 x20 x21 = some r) : Gw P 10 (Q x1 x2 x3 x4 x5 x6 x7 x8 x9 x10 x11 x12 x14 x15 x16 x17 x18 x19 x20 x21 r) (Px c0 1 []) (s0 x1 x2 x3 x4 x5 x6 x7 x8 x9 x10 x11 x12 x13 x14 x15 x16 x17 x18 x19 x20 x21) := by
 unfold f at H
 refine GT (tn [0] 10) (RI ?_)
 refine EV V_ok 0 [] 1 az ?_
 obtain ⟨y1, e2, H⟩ := of_bind H
 refine CL V_ok i_control_controller_done_d8b.at_ (of_G (i_control_controller_done_d8b.f_ok e2)) ?_
 refine RN ?_
 rcases of_ite H with ⟨hb3, H⟩ | ⟨hb3, H⟩
 ·refine C1 hb3 ?_
  refine Ra ?_
  obtain rfl := Option.some.inj H
  exact Lq (tn [] 10)
 ·refine C0 hb3 ?_
  obtain rfl := Option.some.inj H
  exact Lq (tn [] 10)
theorem at_ : FnAt P 50 8 c0 f50.results := fnA func50
end i_control_controller_rest_d8b
namespace f_control_Tick
noncomputable def c0 : Code := bo f17
abbrev ps : Sg := [(true, T26b3)]
abbrev rs : Sg := [(true, T26b3)]
noncomputable def V : Env := eV []
theorem V_ok : EnvOk P V := eOk (slk_nil)
abbrev R := Tup rs
noncomputable abbrev Q (r : R) : Exit → St → Prop := Qr tt f17.results ⟨ps, rs, .any, none, fun _ _ => True⟩ r
noncomputable def s1 (a1 : T26b3.T) (p1 : Bool) (p3 p4 p5 p6 p7 p8 p9 p10 p11 p12 p13 p14 p15 p16 : Int) (p17 : List (List (List T1383.T))) (p18 : List Int) (p19 : List T23b6.T) (p20 : List T713d.T) (p21 p22 : List Int) : St := ⟨30, [(1, .cv (.one (.ptr 0 0))), (2, .cv (.one (.ptr 1 0))), (3, .cv (.one (.ptr 2 0))), (4, .cv (.one (.ptr 3 0))), (19, .cv (.one (.bool p1)))], [(.box 13, (encC .any T26b3 a1)), (.box 13, [.nils, .i p3, .i p4, .i p5, .i p6, .i p7, .i p8, .nils, .nils, .nils, .nils, .nils, .i p9]), (.box 6, [.fn 46 [] [], .fn 47 [] [], .fn 48 [] [], .fn 49 [] [], .fn 50 [] [], .fn 50 [] []]), (.box 13, [.own 4, .i p10, .i p11, .i p12, .i p13, .i p14, .i p15, .own 5, .own 6, .own 7, .own 8, .own 9, .i p16]), (.buf 38 (.slice (.slice T1383)) p17, []), (.buf 3 (.int .i64) p18, []), (.buf 58 T23b6 p19, []), (.buf 93 T713d p20, []), (.buf 3 (.int .i64) p21, []), (.buf 3 (.int .i64) p22, [])]⟩
noncomputable def j1 (a1 : T26b3.T) (k : Nat) (p1 : Bool) (p3 p4 p5 p6 p7 p8 p9 p10 p11 p12 p13 p14 p15 p16 : Int) (p17 : List (List (List T1383.T))) (p18 : List Int) (p19 : List T23b6.T) (p20 : List T713d.T) (p21 p22 : List Int) : Option R :=
 if p1 = true then
 if a1.2.2.2.2.2.1 = (0 : Int) then
  (i_control_controller_idle_d8b.f k a1 p3 p4 p5 p6 p7 p8 p9 p10 p11 p12 p13 p14 p15 p16 p17 p18 p19 p20 p21 p22).bind fun y9 =>
   some ((p17, (p10, (y9.1, (p12, (y9.2.1, (y9.2.2.1, (p15, (y9.2.2.2.1, (y9.2.2.2.2.2.1, (y9.2.2.2.2.1, (p21, (p22, p16)))))))))))), ())
 else
  if a1.2.2.2.2.2.1 = (1 : Int) then
   (i_control_controller_install_d8b.f k a1 p3 p4 p5 p6 p7 p8 p9 p10 p11 p12 p13 p14 p15 p16 p17 p18 p19 p20 p21 p22).bind fun y12 =>
    some ((p17, (p10, (y12.1, (p12, (y12.2.1, (y12.2.2.1, (p15, (p18, (y12.2.2.2.2.1, (p20, (p21, (y12.2.2.2.1, p16)))))))))))), ())
  else
   if a1.2.2.2.2.2.1 = (2 : Int) then
    (i_control_controller_flip_d8b.f k a1 p3 p4 p5 p6 p7 p8 p9 p10 p11 p12 p13 p14 p15 p16 p17 p18 p19 p20 p21 p22).bind fun y15 =>
     some ((p17, (p10, (p11, (p12, (p13, (y15.1, (y15.2.1, (p18, (p19, (p20, (p21, (p22, p16)))))))))))), ())
   else
    if a1.2.2.2.2.2.1 = (3 : Int) then
     (i_control_controller_drain_d8b.f k a1 p3 p4 p5 p6 p7 p8 p9 p10 p11 p12 p13 p14 p15 p16 p17 p18 p19 p20 p21 p22).bind fun y18 =>
      some ((p17, (y18.1, (y18.2.1, (y18.2.2.1, (y18.2.2.2.1, (y18.2.2.2.2.1, (y18.2.2.2.2.2.1, (p18, (y18.2.2.2.2.2.2.2.1, (p20, (y18.2.2.2.2.2.2.1, (p22, p16)))))))))))), ())
    else
     if a1.2.2.2.2.2.1 = (4 : Int) then
      (i_control_controller_rest_d8b.f k a1 p3 p4 p5 p6 p7 p8 p9 p10 p11 p12 p13 p14 p15 p16 p17 p18 p19 p20 p21 p22).bind fun y21 =>
       some ((p17, (p10, (p11, (p12, (p13, (y21.1, (p15, (p18, (p19, (p20, (p21, (p22, p16)))))))))))), ())
     else
      if a1.2.2.2.2.2.1 = (5 : Int) then
       (i_control_controller_rest_d8b.f k a1 p3 p4 p5 p6 p7 p8 p9 p10 p11 p12 p13 p14 p15 p16 p17 p18 p19 p20 p21 p22).bind fun y24 =>
        some ((p17, (p10, (p11, (p12, (p13, (y24.1, (p15, (p18, (p19, (p20, (p21, (p22, p16)))))))))))), ())
      else
       none
else
 some ((p17, (p10, (p11, (p12, (p13, (p14, (p15, (p18, (p19, (p20, (p21, (p22, p16)))))))))))), ())
theorem j1_ok {r a1} {k p1 p3 p4 p5 p6 p7 p8 p9 p10 p11 p12 p13 p14 p15 p16 p17 p18 p19 p20 p21 p22} (H : j1 a1 k p1 p3 p4 p5 p6 p7 p8 p9 p10 p11 p12 p13 p14 p15 p16 p17 p18 p19 p20 p21 p22 = some r) : Gw P 0 (Q r) (Px c0 55 []) (s1 a1 p1 p3 p4 p5 p6 p7 p8 p9 p10 p11 p12 p13 p14 p15 p16 p17 p18 p19 p20 p21 p22) := by
 unfold j1 at H
 rcases of_ite H with ⟨hb7, H⟩ | ⟨hb7, H⟩
 ·refine C1 hb7 ?_
  refine GT (tn [1, 2, 3, 4] 10) (RI ?_)
  refine EV V_ok 0 [] 2 az ?_
  rcases of_ifx H with ⟨hi8, H⟩ | ⟨hi8, H⟩
  ·refine FXIO (k := .i64) 21 hi8 ?_
   refine EV V_ok 0 [] 3 (ac (show 0 ≤ (0 : Int) by decide) (ac (show (0 : Int) < (6 : Int) by decide) az)) ?_
   obtain ⟨y9, e10, H⟩ := of_bind H
   refine CL V_ok i_control_controller_idle_d8b.at_ (of_G (i_control_controller_idle_d8b.f_ok e10)) ?_
   refine RN ?_
   refine Ra ?_
   exact Le H
  ·rcases of_ifx H with ⟨hi11, H⟩ | ⟨hi11, H⟩
   ·refine FXIO (k := .i64) 21 hi11 ?_
    refine EV V_ok 0 [] 3 (ac (show 0 ≤ (1 : Int) by decide) (ac (show (1 : Int) < (6 : Int) by decide) az)) ?_
    obtain ⟨y12, e13, H⟩ := of_bind H
    refine CL V_ok i_control_controller_install_d8b.at_ (of_G (i_control_controller_install_d8b.f_ok e13)) ?_
    refine RN ?_
    refine Ra ?_
    exact Le H
   ·rcases of_ifx H with ⟨hi14, H⟩ | ⟨hi14, H⟩
    ·refine FXIO (k := .i64) 21 hi14 ?_
     refine EV V_ok 0 [] 3 (ac (show 0 ≤ (2 : Int) by decide) (ac (show (2 : Int) < (6 : Int) by decide) az)) ?_
     obtain ⟨y15, e16, H⟩ := of_bind H
     refine CL V_ok i_control_controller_flip_d8b.at_ (of_G (i_control_controller_flip_d8b.f_ok e16)) ?_
     refine RN ?_
     refine Ra ?_
     exact Le H
    ·rcases of_ifx H with ⟨hi17, H⟩ | ⟨hi17, H⟩
     ·refine FXIO (k := .i64) 21 hi17 ?_
      refine EV V_ok 0 [] 3 (ac (show 0 ≤ (3 : Int) by decide) (ac (show (3 : Int) < (6 : Int) by decide) az)) ?_
      obtain ⟨y18, e19, H⟩ := of_bind H
      refine CL V_ok i_control_controller_drain_d8b.at_ (of_G (i_control_controller_drain_d8b.f_ok e19)) ?_
      refine RN ?_
      refine Ra ?_
      exact Le H
     ·rcases of_ifx H with ⟨hi20, H⟩ | ⟨hi20, H⟩
      ·refine FXIO (k := .i64) 21 hi20 ?_
       refine EV V_ok 0 [] 3 (ac (show 0 ≤ (4 : Int) by decide) (ac (show (4 : Int) < (6 : Int) by decide) az)) ?_
       obtain ⟨y21, e22, H⟩ := of_bind H
       refine CL V_ok i_control_controller_rest_d8b.at_ (of_G (i_control_controller_rest_d8b.f_ok e22)) ?_
       refine RN ?_
       refine Ra ?_
       exact Le H
      ·rcases of_ifx H with ⟨hi23, H⟩ | ⟨hi23, H⟩
       ·refine FXIO (k := .i64) 21 hi23 ?_
        refine EV V_ok 0 [] 3 (ac (show 0 ≤ (5 : Int) by decide) (ac (show (5 : Int) < (6 : Int) by decide) az)) ?_
        obtain ⟨y24, e25, H⟩ := of_bind H
        refine CL V_ok i_control_controller_rest_d8b.at_ (of_G (i_control_controller_rest_d8b.f_ok e25)) ?_
        refine RN ?_
        refine Ra ?_
        exact Le H
       ·cases H
 ·refine C0 hb7 ?_
  refine Ra ?_
  exact Le H
noncomputable def f (k : Nat) (a1 : T26b3.T) : Option R :=
 (i_control_own_b6am.f k a1 a1 (0 : Int) (0 : Int) (0 : Int) (0 : Int) (0 : Int) (0 : Int) (0 : Int)).bind fun y1 =>
  (i_control_controller_is_d8b.f k a1 (0 : Int) (0 : Int) (0 : Int) (0 : Int) (0 : Int) (0 : Int) (0 : Int) y1.1 y1.2.1 y1.2.2.1 y1.2.2.2.1 y1.2.2.2.2.1 y1.2.2.2.2.2.1 y1.2.2.2.2.2.2.1 y1.2.2.2.2.2.2.2.1 y1.2.2.2.2.2.2.2.2.1 y1.2.2.2.2.2.2.2.2.2.1 y1.2.2.2.2.2.2.2.2.2.2.1 y1.2.2.2.2.2.2.2.2.2.2.2.1 y1.2.2.2.2.2.2.2.2.2.2.2.2.1).bind fun y3 =>
   if y3.1 = true then
    if (decide (a1.2.2.2.2.2.1 ≥ (0 : Int))) = true then
     j1 a1 k (decide (a1.2.2.2.2.2.1 < (6 : Int))) (0 : Int) (0 : Int) (0 : Int) (0 : Int) (0 : Int) (0 : Int) (0 : Int) y1.1 y1.2.1 y1.2.2.1 y1.2.2.2.1 y1.2.2.2.2.1 y1.2.2.2.2.2.1 y1.2.2.2.2.2.2.1 y1.2.2.2.2.2.2.2.1 y1.2.2.2.2.2.2.2.2.1 y1.2.2.2.2.2.2.2.2.2.1 y1.2.2.2.2.2.2.2.2.2.2.1 y1.2.2.2.2.2.2.2.2.2.2.2.1 y1.2.2.2.2.2.2.2.2.2.2.2.2.1
    else
     j1 a1 k false (0 : Int) (0 : Int) (0 : Int) (0 : Int) (0 : Int) (0 : Int) (0 : Int) y1.1 y1.2.1 y1.2.2.1 y1.2.2.2.1 y1.2.2.2.2.1 y1.2.2.2.2.2.1 y1.2.2.2.2.2.2.1 y1.2.2.2.2.2.2.2.1 y1.2.2.2.2.2.2.2.2.1 y1.2.2.2.2.2.2.2.2.2.1 y1.2.2.2.2.2.2.2.2.2.2.1 y1.2.2.2.2.2.2.2.2.2.2.2.1 y1.2.2.2.2.2.2.2.2.2.2.2.2.1
   else
    j1 a1 k false (0 : Int) (0 : Int) (0 : Int) (0 : Int) (0 : Int) (0 : Int) (0 : Int) y1.1 y1.2.1 y1.2.2.1 y1.2.2.2.1 y1.2.2.2.2.1 y1.2.2.2.2.2.1 y1.2.2.2.2.2.2.1 y1.2.2.2.2.2.2.2.1 y1.2.2.2.2.2.2.2.2.1 y1.2.2.2.2.2.2.2.2.2.1 y1.2.2.2.2.2.2.2.2.2.2.1 y1.2.2.2.2.2.2.2.2.2.2.2.1 y1.2.2.2.2.2.2.2.2.2.2.2.2.1
noncomputable def S : Spec := ⟨ps, rs, .any, none, fun x r => ∃ k, f k x.1 = some r⟩
theorem rl {k a1 r} (e : f k a1 = some r) : S.rel (a1, ()) r := ⟨k, e⟩
theorem f_ok {r k a1} (H : f k a1 = some r) : Gw P 0 (Q r) (Px c0 1 []) (⟨30, [(0, .cv (.agg (encC .any T26b3 a1)))], []⟩) := by
 unfold f at H
 refine Rg V_ok 2 [(0, hb 0), (1, hb 1)] az ?_
 refine Rg V_ok 1 [(1, hb 2)] az ?_
 refine GT (tn [1, 2, 3] 3) (RI ?_)
 refine EV V_ok 0 [] 1 az ?_
 obtain ⟨y1, e2, H⟩ := of_bind H
 refine CL V_ok i_control_own_b6am.at_ (of_G (i_control_own_b6am.f_ok e2)) ?_
 refine EV V_ok 0 [] 1 az ?_
 refine RN ?_
 refine GT (tn [1, 2, 3, 4] 10) (RI ?_)
 refine EV V_ok 0 [] 1 az ?_
 obtain ⟨y3, e4, H⟩ := of_bind H
 refine CL V_ok i_control_controller_is_d8b.at_ (of_G (i_control_controller_is_d8b.f_ok e4)) ?_
 refine EV V_ok 0 [] 1 az ?_
 rcases of_ite H with ⟨hb5, H⟩ | ⟨hb5, H⟩
 ·refine FXO 10 hb5 ?_
  refine EV V_ok 0 [] 5 az ?_
  rcases of_ite H with ⟨hb6, H⟩ | ⟨hb6, H⟩
  ·refine FXO 15 hb6 ?_
   refine EV V_ok 0 [] 4 az ?_
   refine RN ?_
   exact Jm (tn [1, 2, 3, 4, 19] 10) (j1_ok H)
  ·refine FXO 15 hb6 ?_
   refine EV V_ok 0 [] 4 az ?_
   refine RN ?_
   exact Jm (tn [1, 2, 3, 4, 19] 10) (j1_ok H)
 ·refine FXO 10 hb5 ?_
  refine EV V_ok 0 [] 5 az ?_
  refine EV V_ok 0 [] 4 az ?_
  refine RN ?_
  exact Jm (tn [1, 2, 3, 4, 19] 10) (j1_ok H)
theorem fits : Fits P 17 S := fitsA V_ok func17 fun x r ⟨k, H⟩ => of_G (f_ok H)
end f_control_Tick

namespace f_ref21_two
noncomputable def c0 : Code := bo f61
abbrev ps : Sg := [(true, T26b3)]
abbrev rs : Sg := [(false, .bool)]
noncomputable def V : Env := eV []
theorem V_ok : EnvOk P V := eOk (slk_nil)
abbrev R := Tup rs
noncomputable abbrev Q (r : R) : Exit → St → Prop := Qr tt f61.results ⟨ps, rs, .any, none, fun _ _ => True⟩ r
noncomputable def f (k : Nat) (a1 : T26b3.T) : Option R :=
 if (a1.2.2.2.2.2.1 == (1 : Int)) = true then
  some (true, ())
 else
  if (a1.2.2.2.2.2.1 == (2 : Int)) = true then
   some (true, ())
  else
   some ((a1.2.2.2.2.2.1 == (3 : Int)), ())
noncomputable def S : Spec := ⟨ps, rs, .any, none, fun x r => ∃ k, f k x.1 = some r⟩
theorem rl {k a1 r} (e : f k a1 = some r) : S.rel (a1, ()) r := ⟨k, e⟩
theorem f_ok {r k a1} (H : f k a1 = some r) : Gw P 0 (Q r) (Px c0 1 []) (⟨16, [(0, .cv (.agg (encC .any T26b3 a1)))], []⟩) := by
 unfold f at H
 refine Rg V_ok 1 [(0, hb 0)] az ?_
 rcases of_ite H with ⟨hb1, H⟩ | ⟨hb1, H⟩
 ·refine Rg V_ok 0 [(2, {bv := some true})] (ac hb1 az) ?_
  exact Le H
 ·rcases of_ite H with ⟨hb2, H⟩ | ⟨hb2, H⟩
  ·refine Rg V_ok 0 [(2, {bv := some false}), (7, {bv := some true})] (ac hb1 (ac hb2 az)) ?_
   exact Le H
  ·refine Rg V_ok 0 [(2, {bv := some false}), (7, {bv := some false})] (ac hb1 (ac hb2 az)) ?_
   exact Le H
theorem fits : Fits P 61 S := fitsA V_ok func61 fun x r ⟨k, H⟩ => of_G (f_ok H)
end f_ref21_two

namespace f_ref21_May
noncomputable def c0 : Code := bo f36
abbrev ps : Sg := [(true, T26b3)]
abbrev rs : Sg := [(false, .bool)]
noncomputable def V : Env := eV [(61, f_ref21_two.S)]
theorem V_ok : EnvOk P V := eOk (slk_cons f_ref21_two.fits (slk_nil))
abbrev R := Tup rs
noncomputable abbrev Q (r : R) : Exit → St → Prop := Qr tt f36.results ⟨ps, rs, .any, none, fun _ _ => True⟩ r
noncomputable def s4 (a1 : T26b3.T) (p1 : Bool) : St := ⟨74, [(1, .cv (.one (.ptr 0 0))), (3, .cv (.one (.bool p1)))], [(.box 13, (encC .any T26b3 a1))]⟩
noncomputable def s3 (a1 : T26b3.T) (p1 p2 : Bool) : St := ⟨74, [(1, .cv (.one (.ptr 0 0))), (3, .cv (.one (.bool p1))), (4, .cv (.one (.bool p2)))], [(.box 13, (encC .any T26b3 a1))]⟩
noncomputable def s1 (a1 : T26b3.T) (p1 p2 p3 : Bool) (p4 : Int) : St := ⟨74, [(1, .cv (.one (.ptr 0 0))), (3, .cv (.one (.bool p1))), (4, .cv (.one (.bool p2))), (5, .cv (.one (.bool p3))), (6, .cv (.one (.i p4)))], [(.box 13, (encC .any T26b3 a1))]⟩
noncomputable def s2 (a1 : T26b3.T) (p1 p2 p3 : Bool) (p4 : Int) (p5 : Bool) : St := ⟨74, [(1, .cv (.one (.ptr 0 0))), (3, .cv (.one (.bool p1))), (4, .cv (.one (.bool p2))), (5, .cv (.one (.bool p3))), (6, .cv (.one (.i p4))), (54, .cv (.one (.bool p5)))], [(.box 13, (encC .any T26b3 a1))]⟩
noncomputable def j2 (a1 : T26b3.T) (L1 : Bool → Bool → Bool → Int → Option R) (k : Nat) (p1 p2 p3 : Bool) (p4 : Int) (p5 : Bool) : Option R :=
 if p5 = true then
 some (false, ())
else
 L1 p1 p2 p3 (IntKind.i64.wrap (p4 + 1))
theorem j2_ok {r a1} {L1 : Bool → Bool → Bool → Int → Option R} {m1 : Nat} (hL1 : ∀ p1 p2 p3 p4, L1 p1 p2 p3 p4 = some r → Gw P 0 (Q r) (Pb c0 175 [] m1) (s1 a1 p1 p2 p3 p4)) {k p1 p2 p3 p4 p5} (H : j2 a1 L1 k p1 p2 p3 p4 p5 = some r) : Gw P 0 (Q r) (Px c0 6447 [m1]) (s2 a1 p1 p2 p3 p4 p5) := by
 unfold j2 at H
 rcases of_ite H with ⟨hb9, H⟩ | ⟨hb9, H⟩
 ·refine C1 hb9 ?_
  refine Ra ?_
  exact Le H
 ·refine C0 hb9 ?_
  refine Ra ?_
  exact Jm (tn [1, 3, 4, 5, 6] 1) (hL1 p1 p2 p3 (IntKind.i64.wrap (p4 + 1)) H)
noncomputable def b1 (a1 : T26b3.T) (L1 : Bool → Bool → Bool → Int → Option R) (k : Nat) (p1 p2 p3 : Bool) (p4 : Int) : Option R :=
 if (decide (p4 < (a1.2.2.2.2.2.2.2.1.length : Int))) = true then
 if 0 ≤ p4 then
  if p4 < (a1.2.2.2.2.2.2.2.1.length : Int) then
   if (decide ((att (.int .i64) a1.2.2.2.2.2.2.2.1 p4) < (0 : Int))) = true then
    j2 a1 L1 k p1 p2 p3 p4 true
   else
    j2 a1 L1 k p1 p2 p3 p4 (decide ((att (.int .i64) a1.2.2.2.2.2.2.2.1 p4) ≥ (a1.1.length : Int)))
  else none
 else none
else
 if p1 = true then
  if p2 = true then
   if (!p3) = true then
    some ((decide ((a1.2.2.2.2.2.2.2.2.1.length : Int) ≤ (100 : Int))), ())
   else
    if (decide (a1.2.2.1 ≥ (0 : Int))) = true then
     some ((decide ((a1.2.2.2.2.2.2.2.2.1.length : Int) ≤ (100 : Int))), ())
    else
     some (false, ())
  else
   some (false, ())
 else
  some (false, ())
theorem b1_ok {r a1} {L1 : Bool → Bool → Bool → Int → Option R} {m1 : Nat} (hL1 : ∀ p1 p2 p3 p4, L1 p1 p2 p3 p4 = some r → Gw P 0 (Q r) (Pb c0 175 [] m1) (s1 a1 p1 p2 p3 p4)) {k p1 p2 p3 p4} (H : b1 a1 L1 k p1 p2 p3 p4 = some r) : Gw P 0 (Q r) (Px c0 303 [m1]) (s1 a1 p1 p2 p3 p4) := by
 unfold b1 at H
 refine Ra ?_
 rcases of_ite H with ⟨hb5, H⟩ | ⟨hb5, H⟩
 ·refine C1 hb5 ?_
  obtain ⟨n6, H⟩ := of_if H
  obtain ⟨n7, H⟩ := of_if H
  rcases of_ite H with ⟨hb8, H⟩ | ⟨hb8, H⟩
  ·refine Rg V_ok 0 [(5, {bv := some true})] (ac n6 (ac n7 (ac hb8 az))) ?_
   exact Jm (tn [1, 3, 4, 5, 6, 54] 1) (j2_ok hL1 H)
  ·refine Rg V_ok 0 [(5, {bv := some false})] (ac n6 (ac n7 (ac hb8 (ac n6 (ac n7 az))))) ?_
   exact Jm (tn [1, 3, 4, 5, 6, 54] 1) (j2_ok hL1 H)
 ·refine C0 hb5 ?_
  rcases of_ite H with ⟨hb10, H⟩ | ⟨hb10, H⟩
  ·rcases of_ite H with ⟨hb11, H⟩ | ⟨hb11, H⟩
   ·rcases of_ite H with ⟨hb12, H⟩ | ⟨hb12, H⟩
    ·refine Rg V_ok 0 [(0, {bv := some true}), (3, {bv := some true}), (6, {bv := some true})] (ac hb10 (ac hb11 (ac hb12 az))) ?_
     exact Le H
    ·rcases of_ite H with ⟨hb13, H⟩ | ⟨hb13, H⟩
     ·refine Rg V_ok 0 [(0, {bv := some true}), (3, {bv := some true}), (6, {bv := some false}), (12, {bv := some true})] (ac hb10 (ac hb11 (ac hb12 (ac hb13 az)))) ?_
      exact Le H
     ·refine Rg V_ok 0 [(0, {bv := some true}), (3, {bv := some true}), (6, {bv := some false}), (12, {bv := some false})] (ac hb10 (ac hb11 (ac hb12 (ac hb13 az)))) ?_
      exact Le H
   ·refine Rg V_ok 0 [(0, {bv := some true}), (3, {bv := some false})] (ac hb10 (ac hb11 az)) ?_
    exact Le H
  ·refine Rg V_ok 0 [(0, {bv := some false})] (ac hb10 az) ?_
   exact Le H
noncomputable def l1 (a1 : T26b3.T) (k : Nat) : Nat → Bool → Bool → Bool → Int → Option R
 | 0, _, _, _, _ => none
 | m + 1, p1, p2, p3, p4 => b1 a1 (l1 a1 k m) k p1 p2 p3 p4
theorem l1_ok {r a1} (k : Nat) : ∀ (m1 : Nat) (p1 p2 p3 : Bool) (p4 : Int), l1 a1 k m1 p1 p2 p3 p4 = some r → Gw P 0 (Q r) (Pb c0 175 [] m1) (s1 a1 p1 p2 p3 p4)
 | 0, _, _, _, _, H => by cases H
 | m1 + 1, p1, p2, p3, p4, H => SU (by kernel_rfl) (b1_ok (l1_ok k m1) H)
noncomputable def j3 (a1 : T26b3.T) (k : Nat) (p1 p2 : Bool) : Option R :=
 (f_ref21_two.f k a1).bind fun y3 =>
 l1 a1 k k p1 p2 y3.1 0
theorem j3_ok {r a1} {k p1 p2} (H : j3 a1 k p1 p2 = some r) : Gw P 0 (Q r) (Px c0 15 []) (s3 a1 p1 p2) := by
 unfold j3 at H
 obtain ⟨y3, e4, H⟩ := of_bind H
 refine Rg V_ok 0 [(1, hr f_ref21_two.S y3)] (ac (f_ref21_two.rl e4) az) ?_
 refine Ra ?_
 exact LP k (Jm (tn [1, 3, 4, 5, 6] 1) (l1_ok k k p1 p2 y3.1 0 H))
noncomputable def j4 (a1 : T26b3.T) (k : Nat) (p1 : Bool) : Option R :=
 if (decide (a1.2.2.1 ≥ (-1 : Int))) = true then
 j3 a1 k p1 (decide (a1.2.2.1 < (a1.1.length : Int)))
else
 j3 a1 k p1 false
theorem j4_ok {r a1} {k p1} (H : j4 a1 k p1 = some r) : Gw P 0 (Q r) (Px c0 7 []) (s4 a1 p1) := by
 unfold j4 at H
 rcases of_ite H with ⟨hb2, H⟩ | ⟨hb2, H⟩
 ·refine Rg V_ok 0 [(2, {bv := some true})] (ac hb2 az) ?_
  exact Jm (tn [1, 3, 4] 1) (j3_ok H)
 ·refine Rg V_ok 0 [(2, {bv := some false})] (ac hb2 az) ?_
  exact Jm (tn [1, 3, 4] 1) (j3_ok H)
noncomputable def f (k : Nat) (a1 : T26b3.T) : Option R :=
 if (decide (a1.2.1 ≥ (0 : Int))) = true then
  j4 a1 k (decide (a1.2.1 < (a1.1.length : Int)))
 else
  j4 a1 k false
noncomputable def S : Spec := ⟨ps, rs, .any, none, fun x r => ∃ k, f k x.1 = some r⟩
theorem rl {k a1 r} (e : f k a1 = some r) : S.rel (a1, ()) r := ⟨k, e⟩
theorem f_ok {r k a1} (H : f k a1 = some r) : Gw P 0 (Q r) (Px c0 1 []) (⟨74, [(0, .cv (.agg (encC .any T26b3 a1)))], []⟩) := by
 unfold f at H
 refine Rg V_ok 1 [(0, hb 0)] az ?_
 rcases of_ite H with ⟨hb1, H⟩ | ⟨hb1, H⟩
 ·refine Rg V_ok 0 [(2, {bv := some true})] (ac hb1 az) ?_
  exact Jm (tn [1, 3] 1) (j4_ok H)
 ·refine Rg V_ok 0 [(2, {bv := some false})] (ac hb1 az) ?_
  exact Jm (tn [1, 3] 1) (j4_ok H)
theorem fits : Fits P 36 S := fitsA V_ok func36 fun x r ⟨k, H⟩ => of_G (f_ok H)
end f_ref21_May

namespace f_ref21_allDone
noncomputable def c0 : Code := bo f51
abbrev ps : Sg := [(true, T26b3)]
abbrev rs : Sg := [(false, .bool)]
noncomputable def V : Env := eV []
theorem V_ok : EnvOk P V := eOk (slk_nil)
abbrev R := Tup rs
noncomputable abbrev Q (r : R) : Exit → St → Prop := Qr tt f51.results ⟨ps, rs, .any, none, fun _ _ => True⟩ r
noncomputable def s1 (a1 : T26b3.T) (p1 : Int) : St := ⟨29, [(1, .cv (.one (.ptr 0 0))), (3, .cv (.one (.i p1)))], [(.box 13, (encC .any T26b3 a1))]⟩
noncomputable def s2 (a1 : T26b3.T) (p1 : Int) (p2 : Bool) : St := ⟨29, [(1, .cv (.one (.ptr 0 0))), (3, .cv (.one (.i p1))), (28, .cv (.one (.bool p2)))], [(.box 13, (encC .any T26b3 a1))]⟩
noncomputable def j2 (a1 : T26b3.T) (L1 : Int → Option R) (k : Nat) (p1 : Int) (p2 : Bool) : Option R :=
 if p2 = true then
 some (false, ())
else
 L1 (IntKind.i64.wrap (p1 + 1))
theorem j2_ok {r a1} {L1 : Int → Option R} {m1 : Nat} (hL1 : ∀ p1, L1 p1 = some r → Gw P 0 (Q r) (Pb c0 21 [] m1) (s1 a1 p1)) {k p1 p2} (H : j2 a1 L1 k p1 p2 = some r) : Gw P 0 (Q r) (Px c0 805 [m1]) (s2 a1 p1 p2) := by
 unfold j2 at H
 rcases of_ite H with ⟨hb5, H⟩ | ⟨hb5, H⟩
 ·refine C1 hb5 ?_
  refine Ra ?_
  exact Le H
 ·refine C0 hb5 ?_
  refine Ra ?_
  exact Jm (tn [1, 3] 1) (hL1 (IntKind.i64.wrap (p1 + 1)) H)
noncomputable def b1 (a1 : T26b3.T) (L1 : Int → Option R) (k : Nat) (p1 : Int) : Option R :=
 if (decide (p1 < (a1.2.2.2.2.2.2.2.2.1.length : Int))) = true then
 if 0 ≤ p1 then
  if p1 < (a1.2.2.2.2.2.2.2.2.1.length : Int) then
   if (decide (((att T23b6 a1.2.2.2.2.2.2.2.2.1 p1).1) ≤ (0 : Int))) = true then
    j2 a1 L1 k p1 true
   else
    j2 a1 L1 k p1 (decide (((((((att T23b6 a1.2.2.2.2.2.2.2.2.1 p1).2).2).2).2).length : Int) > (0 : Int)))
  else none
 else none
else
 some (true, ())
theorem b1_ok {r a1} {L1 : Int → Option R} {m1 : Nat} (hL1 : ∀ p1, L1 p1 = some r → Gw P 0 (Q r) (Pb c0 21 [] m1) (s1 a1 p1)) {k p1} (H : b1 a1 L1 k p1 = some r) : Gw P 0 (Q r) (Px c0 37 [m1]) (s1 a1 p1) := by
 unfold b1 at H
 refine Ra ?_
 rcases of_ite H with ⟨hb1, H⟩ | ⟨hb1, H⟩
 ·refine C1 hb1 ?_
  obtain ⟨n2, H⟩ := of_if H
  obtain ⟨n3, H⟩ := of_if H
  rcases of_ite H with ⟨hb4, H⟩ | ⟨hb4, H⟩
  ·refine Rg V_ok 0 [(6, {bv := some true})] (ac n2 (ac n3 (ac hb4 az))) ?_
   exact Jm (tn [1, 3, 28] 1) (j2_ok hL1 H)
  ·refine Rg V_ok 0 [(6, {bv := some false})] (ac n2 (ac n3 (ac hb4 (ac n2 (ac n3 az))))) ?_
   exact Jm (tn [1, 3, 28] 1) (j2_ok hL1 H)
 ·refine C0 hb1 ?_
  refine Ra ?_
  exact Le H
noncomputable def l1 (a1 : T26b3.T) (k : Nat) : Nat → Int → Option R
 | 0, _ => none
 | m + 1, p1 => b1 a1 (l1 a1 k m) k p1
theorem l1_ok {r a1} (k : Nat) : ∀ (m1 : Nat) (p1 : Int), l1 a1 k m1 p1 = some r → Gw P 0 (Q r) (Pb c0 21 [] m1) (s1 a1 p1)
 | 0, _, H => by cases H
 | m1 + 1, p1, H => SU (by kernel_rfl) (b1_ok (l1_ok k m1) H)
noncomputable def f (k : Nat) (a1 : T26b3.T) : Option R :=
 l1 a1 k k 0
noncomputable def S : Spec := ⟨ps, rs, .any, none, fun x r => ∃ k, f k x.1 = some r⟩
theorem rl {k a1 r} (e : f k a1 = some r) : S.rel (a1, ()) r := ⟨k, e⟩
theorem f_ok {r k a1} (H : f k a1 = some r) : Gw P 0 (Q r) (Px c0 1 []) (⟨29, [(0, .cv (.agg (encC .any T26b3 a1)))], []⟩) := by
 unfold f at H
 refine Rg V_ok 1 [(0, hb 0)] az ?_
 refine Ra ?_
 exact LP k (Jm (tn [1, 3] 1) (l1_ok k k 0 H))
theorem fits : Fits P 51 S := fitsA V_ok func51 fun x r ⟨k, H⟩ => of_G (f_ok H)
end f_ref21_allDone

end Go.Proofs.YtkhjemahenkdiaaGreatDoor.V
