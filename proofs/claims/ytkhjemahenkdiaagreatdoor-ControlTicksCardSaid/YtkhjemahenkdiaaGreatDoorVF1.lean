/- Functions of the program, as Lean functions, and that the code answers so. Printed by vgen.py. -/
import Derived.Test.YtkhjemahenkdiaaGreatDoorVF0
namespace Go.Proofs.YtkhjemahenkdiaaGreatDoor.V
open Go Go.RowKit Go.Proofs.Tryz
set_option linter.unusedVariables false
set_option linter.unusedSimpArgs false
set_option maxRecDepth 100000
set_option maxHeartbeats 4000000
namespace i_control_own_776m
noncomputable def c0 : Code := bo f32
noncomputable def V : Env := eV [(75, f_slices_Clone_ConfO.S), (76, f_slices_Clone_Conf_RuleO.S), (77, f_slices_Clone_Rule.S), (78, f_slices_Clone_PeerO.S), (79, f_slices_Clone_Msg.S), (80, f_slices_Clone_intO.S), (81, f_slices_Clone_GivenO.S)]
theorem V_ok : EnvOk P V := eOk (slk_cons f_slices_Clone_ConfO.fits (slk_cons f_slices_Clone_Conf_RuleO.fits (slk_cons f_slices_Clone_Rule.fits (slk_cons f_slices_Clone_PeerO.fits (slk_cons f_slices_Clone_Msg.fits (slk_cons f_slices_Clone_intO.fits (slk_cons f_slices_Clone_GivenO.fits (slk_nil))))))))
variable (x1 x2 : T26b3.T) (x3 x4 x5 x6 x7 x8 x9 : Int)
noncomputable def h0 (l : Hl) : Hl := (.box 13, (encC .any T26b3 x2)) :: (.box 13, [.nils, .i x3, .i x4, .i x5, .i x6, .i x7, .i x8, .nils, .nils, .nils, .nils, .nils, .i x9]) :: l
abbrev R := (Int) × (Int) × (Int) × (Int) × (Int) × (Int) × (Int) × (List (List (List T1383.T))) × (List Int) × (List T23b6.T) × (List T713d.T) × (List Int) × (List Int) × Unit
noncomputable def s0 : St := ⟨85, [(0, .cv (.agg (encC .any T26b3 x1)))], (h0 x2 x3 x4 x5 x6 x7 x8 x9 [])⟩
noncomputable def out (r : R) : St := ⟨85, [(2, .cv (.one (.ptr 2 0)))], (h0 x2 x3 x4 x5 x6 x7 x8 x9 [(.box 13, [.own 3, .i r.1, .i r.2.1, .i r.2.2.1, .i r.2.2.2.1, .i r.2.2.2.2.1, .i r.2.2.2.2.2.1, .own 4, .own 5, .own 6, .own 7, .own 8, .i r.2.2.2.2.2.2.1]), (.buf 38 (.slice (.slice T1383)) r.2.2.2.2.2.2.2.1, []), (.buf 3 (.int .i64) r.2.2.2.2.2.2.2.2.1, []), (.buf 58 T23b6 r.2.2.2.2.2.2.2.2.2.1, []), (.buf 93 T713d r.2.2.2.2.2.2.2.2.2.2.1, []), (.buf 3 (.int .i64) r.2.2.2.2.2.2.2.2.2.2.2.1, []), (.buf 3 (.int .i64) r.2.2.2.2.2.2.2.2.2.2.2.2.1, [])])⟩
abbrev Q (r : R) := CallQ 2 (out x2 x3 x4 x5 x6 x7 x8 x9 r)
noncomputable def s1 (p1 p2 p11 p12 p13 p14 p15 p16 : Int) (p17 : List Int) (p18 : List T23b6.T) (p19 : List T713d.T) (p20 p21 : List Int) (p22 : Int) (p23 : List (List (List T1383.T))) : St := ⟨85, [(1, .cv (.one (.ptr 2 0))), (13, .cv (.one (.own 3))), (14, .cv (.one (.i p1))), (15, .cv (.one (.i p2)))], (h0 x2 x3 x4 x5 x6 x7 x8 x9 [(.box 13, [.own 3, .i p11, .i p12, .i p13, .i p14, .i p15, .i p16, .sl (.int .i64) p17 .any, .sl T23b6 p18 .any, .sl T713d p19 .any, .sl (.int .i64) p20 .any, .sl (.int .i64) p21 .any, .i p22]), (.buf 38 (.slice (.slice T1383)) p23, [])])⟩
noncomputable def s2 (p1 p2 p3 p4 p5 p14 p15 p16 p17 p18 p19 : Int) (p20 : List Int) (p21 : List T23b6.T) (p22 : List T713d.T) (p23 p24 : List Int) (p25 : Int) (p26 : List (List T1383.T)) (p27 : List (List (List T1383.T))) : St := ⟨85, [(1, .cv (.one (.ptr 2 0))), (3, .cv (.one (.i p1))), (4, .cv (.one (.own 3))), (13, .cv (.one (.own 4))), (14, .cv (.one (.i p2))), (15, .cv (.one (.i p3))), (22, .cv (.one (.own 3))), (23, .cv (.one (.i p4))), (24, .cv (.one (.i p5)))], (h0 x2 x3 x4 x5 x6 x7 x8 x9 [(.box 13, [.own 4, .i p14, .i p15, .i p16, .i p17, .i p18, .i p19, .sl (.int .i64) p20 .any, .sl T23b6 p21 .any, .sl T713d p22 .any, .sl (.int .i64) p23 .any, .sl (.int .i64) p24 .any, .i p25]), (.buf 89 (.slice T1383) p26, []), (.buf 38 (.slice (.slice T1383)) p27, [])])⟩
noncomputable def b2 (x2 : T26b3.T) (x3 x4 x5 x6 x7 x8 x9 : Int) (L1 : Int → Int → Int → Int → Int → Int → Int → Int → List Int → List T23b6.T → List T713d.T → List Int → List Int → Int → List (List (List T1383.T)) → Option R) (L2 : Int → Int → Int → Int → Int → Int → Int → Int → Int → Int → Int → List Int → List T23b6.T → List T713d.T → List Int → List Int → Int → List (List T1383.T) → List (List (List T1383.T)) → Option R) (k : Nat) (p1 p2 p3 p4 p5 p14 p15 p16 p17 p18 p19 : Int) (p20 : List Int) (p21 : List T23b6.T) (p22 : List T713d.T) (p23 p24 : List Int) (p25 : Int) (p26 : List (List T1383.T)) (p27 : List (List (List T1383.T))) : Option R :=
 if (decide (p5 < p4)) = true then
 if 0 ≤ p5 then
  if p5 < (p26.length : Int) then
   (f_slices_Clone_Rule.f k (att (.slice T1383) p26 p5)).bind fun y11 =>
    L2 p1 p2 p3 p4 (IntKind.i64.wrap (p5 + 1)) p14 p15 p16 p17 p18 p19 p20 p21 p22 p23 p24 p25 (p26.set p5.toNat y11.1) p27
  else none
 else none
else
 if 0 ≤ p1 then
  if p1 < (p27.length : Int) then
   L1 p2 (IntKind.i64.wrap (p3 + 1)) p14 p15 p16 p17 p18 p19 p20 p21 p22 p23 p24 p25 (p27.set p1.toNat p26)
  else none
 else none
theorem b2_ok {r x2 x3 x4 x5 x6 x7 x8 x9} {L1 : Int → Int → Int → Int → Int → Int → Int → Int → List Int → List T23b6.T → List T713d.T → List Int → List Int → Int → List (List (List T1383.T)) → Option R} {m1 : Nat} (hL1 : ∀ p1 p2 p11 p12 p13 p14 p15 p16 p17 p18 p19 p20 p21 p22 p23, L1 p1 p2 p11 p12 p13 p14 p15 p16 p17 p18 p19 p20 p21 p22 p23 = some r → Gw P 2 (Q x2 x3 x4 x5 x6 x7 x8 x9 r) (Pb c0 43 [] m1) (s1 x2 x3 x4 x5 x6 x7 x8 x9 p1 p2 p11 p12 p13 p14 p15 p16 p17 p18 p19 p20 p21 p22 p23)) {L2 : Int → Int → Int → Int → Int → Int → Int → Int → Int → Int → Int → List Int → List T23b6.T → List T713d.T → List Int → List Int → Int → List (List T1383.T) → List (List (List T1383.T)) → Option R} {m2 : Nat} (hL2 : ∀ p1 p2 p3 p4 p5 p14 p15 p16 p17 p18 p19 p20 p21 p22 p23 p24 p25 p26 p27, L2 p1 p2 p3 p4 p5 p14 p15 p16 p17 p18 p19 p20 p21 p22 p23 p24 p25 p26 p27 = some r → Gw P 2 (Q x2 x3 x4 x5 x6 x7 x8 x9 r) (Pb c0 44235 [m1] m2) (s2 x2 x3 x4 x5 x6 x7 x8 x9 p1 p2 p3 p4 p5 p14 p15 p16 p17 p18 p19 p20 p21 p22 p23 p24 p25 p26 p27)) {k p1 p2 p3 p4 p5 p14 p15 p16 p17 p18 p19 p20 p21 p22 p23 p24 p25 p26 p27} (H : b2 x2 x3 x4 x5 x6 x7 x8 x9 L1 L2 k p1 p2 p3 p4 p5 p14 p15 p16 p17 p18 p19 p20 p21 p22 p23 p24 p25 p26 p27 = some r) : Gw P 2 (Q x2 x3 x4 x5 x6 x7 x8 x9 r) (Px c0 77003 [m1, m2]) (s2 x2 x3 x4 x5 x6 x7 x8 x9 p1 p2 p3 p4 p5 p14 p15 p16 p17 p18 p19 p20 p21 p22 p23 p24 p25 p26 p27) := by
 unfold b2 at H
 refine Ra ?_
 rcases of_ite H with ⟨hb8, H⟩ | ⟨hb8, H⟩
 ·refine C1 hb8 ?_
  obtain ⟨n9, H⟩ := of_if H
  obtain ⟨n10, H⟩ := of_if H
  refine Rg V_ok 0 [] (ac n9 (ac n10 az)) ?_
  obtain ⟨y11, e12, H⟩ := of_bind H
  refine Rg V_ok 0 [(3, hr f_slices_Clone_Rule.S y11)] (ac (f_slices_Clone_Rule.rl e12) (ac n9 (ac n10 az))) ?_
  refine Ra ?_
  exact Jm (tn [1, 3, 4, 13, 14, 15, 22, 23, 24] 5) (hL2 p1 p2 p3 p4 (IntKind.i64.wrap (p5 + 1)) p14 p15 p16 p17 p18 p19 p20 p21 p22 p23 p24 p25 (p26.set p5.toNat y11.1) p27 H)
 ·refine C0 hb8 ?_
  refine FZ 3 ?_
  obtain ⟨n13, H⟩ := of_if H
  obtain ⟨n14, H⟩ := of_if H
  refine Rg V_ok 0 [] (ac n13 (ac n14 az)) ?_
  refine Ra ?_
  exact Jm (tl [1, 13, 14, 15] [0, 1, 2, 4]) (hL1 p2 (IntKind.i64.wrap (p3 + 1)) p14 p15 p16 p17 p18 p19 p20 p21 p22 p23 p24 p25 (p27.set p1.toNat p26) H)
noncomputable def l2 (L1 : Int → Int → Int → Int → Int → Int → Int → Int → List Int → List T23b6.T → List T713d.T → List Int → List Int → Int → List (List (List T1383.T)) → Option R) (k : Nat) : Nat → Int → Int → Int → Int → Int → Int → Int → Int → Int → Int → Int → List Int → List T23b6.T → List T713d.T → List Int → List Int → Int → List (List T1383.T) → List (List (List T1383.T)) → Option R
 | 0, _, _, _, _, _, _, _, _, _, _, _, _, _, _, _, _, _, _, _ => none
 | m + 1, p1, p2, p3, p4, p5, p14, p15, p16, p17, p18, p19, p20, p21, p22, p23, p24, p25, p26, p27 => b2 x2 x3 x4 x5 x6 x7 x8 x9 L1 (l2 L1 k m) k p1 p2 p3 p4 p5 p14 p15 p16 p17 p18 p19 p20 p21 p22 p23 p24 p25 p26 p27
theorem l2_ok {r x2 x3 x4 x5 x6 x7 x8 x9} {L1 : Int → Int → Int → Int → Int → Int → Int → Int → List Int → List T23b6.T → List T713d.T → List Int → List Int → Int → List (List (List T1383.T)) → Option R} {m1 : Nat} (hL1 : ∀ p1 p2 p11 p12 p13 p14 p15 p16 p17 p18 p19 p20 p21 p22 p23, L1 p1 p2 p11 p12 p13 p14 p15 p16 p17 p18 p19 p20 p21 p22 p23 = some r → Gw P 2 (Q x2 x3 x4 x5 x6 x7 x8 x9 r) (Pb c0 43 [] m1) (s1 x2 x3 x4 x5 x6 x7 x8 x9 p1 p2 p11 p12 p13 p14 p15 p16 p17 p18 p19 p20 p21 p22 p23)) (k : Nat) : ∀ (m2 : Nat) (p1 p2 p3 p4 p5 p14 p15 p16 p17 p18 p19 : Int) (p20 : List Int) (p21 : List T23b6.T) (p22 : List T713d.T) (p23 p24 : List Int) (p25 : Int) (p26 : List (List T1383.T)) (p27 : List (List (List T1383.T))), l2 x2 x3 x4 x5 x6 x7 x8 x9 L1 k m2 p1 p2 p3 p4 p5 p14 p15 p16 p17 p18 p19 p20 p21 p22 p23 p24 p25 p26 p27 = some r → Gw P 2 (Q x2 x3 x4 x5 x6 x7 x8 x9 r) (Pb c0 44235 [m1] m2) (s2 x2 x3 x4 x5 x6 x7 x8 x9 p1 p2 p3 p4 p5 p14 p15 p16 p17 p18 p19 p20 p21 p22 p23 p24 p25 p26 p27)
 | 0, _, _, _, _, _, _, _, _, _, _, _, _, _, _, _, _, _, _, _, H => by cases H
 | m2 + 1, p1, p2, p3, p4, p5, p14, p15, p16, p17, p18, p19, p20, p21, p22, p23, p24, p25, p26, p27, H => SU (by kernel_rfl) (b2_ok hL1 (l2_ok hL1 k m2) H)
noncomputable def s3 (p1 p2 p11 p12 p13 p14 p15 p16 : Int) (p17 : List Int) (p18 : List T713d.T) (p19 p20 : List Int) (p21 : Int) (p22 : List (List (List T1383.T))) (p23 : List T23b6.T) : St := ⟨85, [(1, .cv (.one (.ptr 2 0))), (47, .cv (.one (.i p1))), (48, .cv (.one (.i p2)))], (h0 x2 x3 x4 x5 x6 x7 x8 x9 [(.box 13, [.own 3, .i p11, .i p12, .i p13, .i p14, .i p15, .i p16, .sl (.int .i64) p17 .any, .own 4, .sl T713d p18 .any, .sl (.int .i64) p19 .any, .sl (.int .i64) p20 .any, .i p21]), (.buf 38 (.slice (.slice T1383)) p22, []), (.buf 58 T23b6 p23, [])])⟩
noncomputable def b3 (x2 : T26b3.T) (x3 x4 x5 x6 x7 x8 x9 : Int) (L3 : Int → Int → Int → Int → Int → Int → Int → Int → List Int → List T713d.T → List Int → List Int → Int → List (List (List T1383.T)) → List T23b6.T → Option R) (k : Nat) (p1 p2 p11 p12 p13 p14 p15 p16 : Int) (p17 : List Int) (p18 : List T713d.T) (p19 p20 : List Int) (p21 : Int) (p22 : List (List (List T1383.T))) (p23 : List T23b6.T) : Option R :=
 if (decide (p2 < p1)) = true then
 if 0 ≤ p2 then
  if p2 < (p23.length : Int) then
   (f_slices_Clone_Msg.f k (((((att T23b6 p23 p2).2).2).2).2)).bind fun y18 =>
    L3 p1 (IntKind.i64.wrap (p2 + 1)) p11 p12 p13 p14 p15 p16 p17 p18 p19 p20 p21 p22 (p23.set p2.toNat ((att T23b6 p23 p2).1, (((att T23b6 p23 p2).2).1, ((((att T23b6 p23 p2).2).2).1, (((((att T23b6 p23 p2).2).2).2).1, y18.1)))))
  else none
 else none
else
 (f_slices_Clone_intO.f k p17).bind fun y22 =>
   (f_slices_Clone_GivenO.f k p18).bind fun y24 =>
    (f_slices_Clone_intO.f k p19).bind fun y26 =>
     (f_slices_Clone_intO.f k p20).bind fun y28 =>
      some (p11, (p12, (p13, (p14, (p15, (p16, (p21, (p22, (y22.1, (p23, (y24.1, (y26.1, (y28.1, ())))))))))))))
theorem b3_ok {r x2 x3 x4 x5 x6 x7 x8 x9} {L3 : Int → Int → Int → Int → Int → Int → Int → Int → List Int → List T713d.T → List Int → List Int → Int → List (List (List T1383.T)) → List T23b6.T → Option R} {m3 : Nat} (hL3 : ∀ p1 p2 p11 p12 p13 p14 p15 p16 p17 p18 p19 p20 p21 p22 p23, L3 p1 p2 p11 p12 p13 p14 p15 p16 p17 p18 p19 p20 p21 p22 p23 = some r → Gw P 2 (Q x2 x3 x4 x5 x6 x7 x8 x9 r) (Pb c0 175 [] m3) (s3 x2 x3 x4 x5 x6 x7 x8 x9 p1 p2 p11 p12 p13 p14 p15 p16 p17 p18 p19 p20 p21 p22 p23)) {k p1 p2 p11 p12 p13 p14 p15 p16 p17 p18 p19 p20 p21 p22 p23} (H : b3 x2 x3 x4 x5 x6 x7 x8 x9 L3 k p1 p2 p11 p12 p13 p14 p15 p16 p17 p18 p19 p20 p21 p22 p23 = some r) : Gw P 2 (Q x2 x3 x4 x5 x6 x7 x8 x9 r) (Px c0 303 [m3]) (s3 x2 x3 x4 x5 x6 x7 x8 x9 p1 p2 p11 p12 p13 p14 p15 p16 p17 p18 p19 p20 p21 p22 p23) := by
 unfold b3 at H
 refine Ra ?_
 rcases of_ite H with ⟨hb17, H⟩ | ⟨hb17, H⟩
 ·refine C1 hb17 ?_
  refine Ra ?_
  obtain ⟨n19, H⟩ := of_if H
  obtain ⟨n20, H⟩ := of_if H
  obtain ⟨y18, e21, H⟩ := of_bind H
  refine Rg V_ok 0 [(10, hr f_slices_Clone_Msg.S y18)] (ac n19 (ac n20 (ac (f_slices_Clone_Msg.rl e21) (ac n19 (ac n20 az))))) ?_
  refine Ra ?_
  exact Jm (tn [1, 47, 48] 5) (hL3 p1 (IntKind.i64.wrap (p2 + 1)) p11 p12 p13 p14 p15 p16 p17 p18 p19 p20 p21 p22 (p23.set p2.toNat ((att T23b6 p23 p2).1, (((att T23b6 p23 p2).2).1, ((((att T23b6 p23 p2).2).2).1, (((((att T23b6 p23 p2).2).2).2).1, y18.1))))) H)
 ·refine C0 hb17 ?_
  obtain ⟨y22, e23, H⟩ := of_bind H
  obtain ⟨y24, e25, H⟩ := of_bind H
  obtain ⟨y26, e27, H⟩ := of_bind H
  obtain ⟨y28, e29, H⟩ := of_bind H
  let x : Nx := (Px c0 95 [])
  let t0 : St := ⟨85, [(1, .cv (.one (.ptr 2 0)))], (h0 x2 x3 x4 x5 x6 x7 x8 x9 [(.box 13, [.own 3, .i p11, .i p12, .i p13, .i p14, .i p15, .i p16, .sl (.int .i64) p17 .any, .own 4, .sl T713d p18 .any, .sl (.int .i64) p19 .any, .sl (.int .i64) p20 .any, .i p21]), (.buf 38 (.slice (.slice T1383)) p22, []), (.buf 58 T23b6 p23, [])])⟩
  refine Jm (x' := x) (τ := t0) (tn [1] 5) ?_
  let Φ := phiX P 2 (Q x2 x3 x4 x5 x6 x7 x8 x9 r) x
  let o := fun (k m : Nat) (t : St) => WA P 2 (opsX x) k (bs 20 m) Φ t
  let t1 : St := stpS V x 0 [] 0 (tn [1, 66] 5) t0
  let t2 : St := stpS V x 0 [] 3 (tn [1, 66, 69] 5) t1
  let t3 : St := stpS V x 0 [] 6 (tn [1, 66, 69, 72] 5) t2
  let t4 : St := stpS V x 0 [] 9 (tn [1, 66, 69, 72, 75] 5) t3
  let t5 : St := stpS V x 0 [] 1 (tn [1, 67, 69, 72, 75] 5) t4
  let t6 : St := stpS V x 0 [] 4 (tn [1, 66, 70, 72, 75] 5) t4
  let t7 : St := stpS V x 0 [] 7 (tn [1, 66, 69, 73, 75] 5) t4
  let t8 : St := stpS V x 0 [] 10 (tn [1, 66, 69, 72, 76] 5) t4
  let t9 : St := stpS V x 1 [(2, {sb := 5, res := some ⟨f_slices_Clone_intO.S.rs, y22⟩})] 2 (tl [1, 68, 69, 72, 75] [0, 1, 2, 5, 3, 4]) t5
  let t10 : St := stpS V x 0 [] 4 (tn [1, 67, 70, 72, 75] 5) t5
  let t11 : St := stpS V x 0 [] 7 (tn [1, 67, 69, 73, 75] 5) t5
  let t12 : St := stpS V x 0 [] 10 (tn [1, 67, 69, 72, 76] 5) t5
  let t13 : St := stpS V x 0 [] 7 (tn [1, 66, 70, 73, 75] 5) t6
  let t14 : St := stpS V x 0 [] 10 (tn [1, 66, 70, 72, 76] 5) t6
  let t15 : St := stpS V x 0 [] 10 (tn [1, 66, 69, 73, 76] 5) t7
  let t16 : St := stpS V x 0 [] 4 (tn [1, 68, 70, 72, 75] 6) t9
  let t17 : St := stpS V x 0 [] 7 (tn [1, 68, 69, 73, 75] 6) t9
  let t18 : St := stpS V x 0 [] 10 (tn [1, 68, 69, 72, 76] 6) t9
  let t19 : St := stpS V x 0 [] 7 (tn [1, 67, 70, 73, 75] 5) t10
  let t20 : St := stpS V x 0 [] 10 (tn [1, 67, 70, 72, 76] 5) t10
  let t21 : St := stpS V x 0 [] 10 (tn [1, 67, 69, 73, 76] 5) t11
  let t22 : St := stpS V x 0 [] 10 (tn [1, 66, 70, 73, 76] 5) t13
  let t23 : St := stpS V x 1 [(5, {sb := 6, res := some ⟨f_slices_Clone_GivenO.S.rs, y24⟩})] 5 (tl [1, 68, 71, 72, 75] [0, 1, 2, 3, 6, 4, 5]) t16
  let t24 : St := stpS V x 0 [] 7 (tn [1, 68, 70, 73, 75] 6) t16
  let t25 : St := stpS V x 0 [] 10 (tn [1, 68, 70, 72, 76] 6) t16
  let t26 : St := stpS V x 0 [] 10 (tn [1, 68, 69, 73, 76] 6) t17
  let t27 : St := stpS V x 0 [] 10 (tn [1, 67, 70, 73, 76] 5) t19
  let t28 : St := stpS V x 0 [] 7 (tn [1, 68, 71, 73, 75] 7) t23
  let t29 : St := stpS V x 0 [] 10 (tn [1, 68, 71, 72, 76] 7) t23
  let t30 : St := stpS V x 0 [] 10 (tn [1, 68, 70, 73, 76] 6) t24
  let t31 : St := stpS V x 1 [(8, {sb := 7, res := some ⟨f_slices_Clone_intO.S.rs, y26⟩})] 8 (tl [1, 68, 71, 74, 75] [0, 1, 2, 3, 4, 7, 5, 6]) t28
  let t32 : St := stpS V x 0 [] 10 (tn [1, 68, 71, 73, 76] 7) t28
  let t33 : St := stpS V x 0 [] 12 (tn [1, 68, 70, 73, 76, 78] 6) t30
  let t34 : St := stpS V x 0 [] 10 (tn [1, 68, 71, 74, 76] 8) t31
  let t35 : St := stpS V x 0 [] 12 (tn [1, 68, 71, 73, 76, 78] 7) t32
  let t36 : St := stpS V x 0 [] 12 (tn [1, 68, 71, 74, 76, 78] 8) t34
  let t37 : St := stpS V x 1 [(11, {sb := 8, res := some ⟨f_slices_Clone_intO.S.rs, y28⟩})] 11 (tl [1, 68, 71, 74, 77, 78] [0, 1, 2, 3, 4, 5, 8, 6, 7]) t36
  let t38 : St := stpS V x 0 [] 13 (tl [1, 71, 74, 77] [0, 1, 2, 4, 5, 6, 7, 3, 8]) t37
  let t39 : St := stpS V x 0 [] 14 (tn [1, 71, 74, 77, 79] 9) t38
  let t40 : St := stpS V x 0 [] 15 (tl [1, 74, 77] [0, 1, 2, 4, 5, 6, 7, 8, 3]) t39
  let t41 : St := stpS V x 0 [] 16 (tn [1, 74, 77, 80] 9) t40
  let t42 : St := stpS V x 0 [] 17 (tl [1, 77] [0, 1, 2, 4, 5, 6, 7, 8, 3]) t41
  let t43 : St := stpS V x 0 [] 18 (tn [1, 77, 81] 9) t42
  let t44 : St := stpS V x 0 [] 19 (tl [1] [0, 1, 2, 4, 5, 6, 7, 8, 3]) t43
  have w44 : o 0 1048575 t44 := by
   refine WA_nil (by kernel_rfl) (RAn (by kernel_rfl) ?_)
   refine Rg V_ok 1 [(2, hb 9)] az ?_
   obtain rfl := Option.some.inj H
   exact Lq (tl [2] [0, 1, 9, 3, 4, 5, 6, 7, 8])
  have w43 : o 1 524287 t43 := WAs (an (We az w44) aN)
  have w42 : o 2 262143 t42 := Wt az w43
  have w41 : o 3 131071 t41 := WAs (an (We az w42) aN)
  have w40 : o 4 65535 t40 := Wt az w41
  have w39 : o 5 32767 t39 := WAs (an (We az w40) aN)
  have w38 : o 6 16383 t38 := Wt az w39
  have w37 : o 7 8191 t37 := WAs (an (We az w38) aN)
  have w36 : o 8 6143 t36 := WAs (an (We (ac (f_slices_Clone_intO.rl e29) az) w37) aN)
  have w35 : o 9 5887 t35 := WAs (an (WE V_ok 1 [(8, {sb := 7, res := some ⟨f_slices_Clone_intO.S.rs, y26⟩})] 8 (tl [1, 68, 71, 74, 76, 78] [0, 1, 2, 3, 4, 7, 5, 6]) (ac (f_slices_Clone_intO.rl e27) az) w36) aN)
  have w34 : o 9 2047 t34 := Wt az w36
  have w33 : o 10 5855 t33 := WAs (an (WE V_ok 1 [(5, {sb := 6, res := some ⟨f_slices_Clone_GivenO.S.rs, y24⟩})] 5 (tl [1, 68, 71, 73, 76, 78] [0, 1, 2, 3, 6, 4, 5]) (ac (f_slices_Clone_GivenO.rl e25) az) w35) aN)
  have w32 : o 10 1791 t32 := Wt az w35
  have w31 : o 10 1023 t31 := WAs (an (We az w34) aN)
  have w30 : o 11 1759 t30 := Wt az w33
  have w29 : o 11 1663 t29 := WAs (an (WE V_ok 0 [] 7 (tn [1, 68, 71, 73, 76] 7) az w32) aN)
  have w28 : o 11 767 t28 := WAs (an (We (ac (f_slices_Clone_intO.rl e27) az) w31) (an (We az w32) aN))
  have w27 : o 12 1755 t27 := WAs (an (WE V_ok 1 [(2, {sb := 5, res := some ⟨f_slices_Clone_intO.S.rs, y22⟩})] 2 (tl [1, 68, 70, 73, 76] [0, 1, 2, 5, 3, 4]) (ac (f_slices_Clone_intO.rl e23) az) w30) aN)
  have w26 : o 12 1743 t26 := WAs (an (WE V_ok 0 [] 4 (tn [1, 68, 70, 73, 76] 6) az w30) aN)
  have w25 : o 12 1631 t25 := WAs (an (WE V_ok 1 [(5, {sb := 6, res := some ⟨f_slices_Clone_GivenO.S.rs, y24⟩})] 5 (tl [1, 68, 71, 72, 76] [0, 1, 2, 3, 6, 4, 5]) (ac (f_slices_Clone_GivenO.rl e25) az) w29) (an (WE V_ok 0 [] 7 (tn [1, 68, 70, 73, 76] 6) az w30) aN))
  have w24 : o 12 735 t24 := WAs (an (WE V_ok 1 [(5, {sb := 6, res := some ⟨f_slices_Clone_GivenO.S.rs, y24⟩})] 5 (tl [1, 68, 71, 73, 75] [0, 1, 2, 3, 6, 4, 5]) (ac (f_slices_Clone_GivenO.rl e25) az) w28) (an (We az w30) aN))
  have w23 : o 12 639 t23 := WAs (an (We az w28) (an (We az w29) aN))
  have w22 : o 13 1753 t22 := WAs (an (WE V_ok 0 [] 1 (tn [1, 67, 70, 73, 76] 5) az w27) aN)
  have w21 : o 13 1739 t21 := WAs (an (WE V_ok 1 [(2, {sb := 5, res := some ⟨f_slices_Clone_intO.S.rs, y22⟩})] 2 (tl [1, 68, 69, 73, 76] [0, 1, 2, 5, 3, 4]) (ac (f_slices_Clone_intO.rl e23) az) w26) (an (WE V_ok 0 [] 4 (tn [1, 67, 70, 73, 76] 5) az w27) aN))
  have w20 : o 13 1627 t20 := WAs (an (WE V_ok 1 [(2, {sb := 5, res := some ⟨f_slices_Clone_intO.S.rs, y22⟩})] 2 (tl [1, 68, 70, 72, 76] [0, 1, 2, 5, 3, 4]) (ac (f_slices_Clone_intO.rl e23) az) w25) (an (WE V_ok 0 [] 7 (tn [1, 67, 70, 73, 76] 5) az w27) aN))
  have w19 : o 13 731 t19 := WAs (an (WE V_ok 1 [(2, {sb := 5, res := some ⟨f_slices_Clone_intO.S.rs, y22⟩})] 2 (tl [1, 68, 70, 73, 75] [0, 1, 2, 5, 3, 4]) (ac (f_slices_Clone_intO.rl e23) az) w24) (an (We az w27) aN))
  have w18 : o 13 1615 t18 := WAs (an (WE V_ok 0 [] 4 (tn [1, 68, 70, 72, 76] 6) az w25) (an (WE V_ok 0 [] 7 (tn [1, 68, 69, 73, 76] 6) az w26) aN))
  have w17 : o 13 719 t17 := WAs (an (WE V_ok 0 [] 4 (tn [1, 68, 70, 73, 75] 6) az w24) (an (We az w26) aN))
  have w16 : o 13 607 t16 := WAs (an (We (ac (f_slices_Clone_GivenO.rl e25) az) w23) (an (We az w24) (an (We az w25) aN)))
  have w15 : o 14 1737 t15 := WAs (an (WE V_ok 0 [] 1 (tn [1, 67, 69, 73, 76] 5) az w21) (an (WE V_ok 0 [] 4 (tn [1, 66, 70, 73, 76] 5) az w22) aN))
  have w14 : o 14 1625 t14 := WAs (an (WE V_ok 0 [] 1 (tn [1, 67, 70, 72, 76] 5) az w20) (an (WE V_ok 0 [] 7 (tn [1, 66, 70, 73, 76] 5) az w22) aN))
  have w13 : o 14 729 t13 := WAs (an (WE V_ok 0 [] 1 (tn [1, 67, 70, 73, 75] 5) az w19) (an (We az w22) aN))
  have w12 : o 14 1611 t12 := WAs (an (WE V_ok 1 [(2, {sb := 5, res := some ⟨f_slices_Clone_intO.S.rs, y22⟩})] 2 (tl [1, 68, 69, 72, 76] [0, 1, 2, 5, 3, 4]) (ac (f_slices_Clone_intO.rl e23) az) w18) (an (WE V_ok 0 [] 4 (tn [1, 67, 70, 72, 76] 5) az w20) (an (WE V_ok 0 [] 7 (tn [1, 67, 69, 73, 76] 5) az w21) aN)))
  have w11 : o 14 715 t11 := WAs (an (WE V_ok 1 [(2, {sb := 5, res := some ⟨f_slices_Clone_intO.S.rs, y22⟩})] 2 (tl [1, 68, 69, 73, 75] [0, 1, 2, 5, 3, 4]) (ac (f_slices_Clone_intO.rl e23) az) w17) (an (WE V_ok 0 [] 4 (tn [1, 67, 70, 73, 75] 5) az w19) (an (We az w21) aN)))
  have w10 : o 14 603 t10 := WAs (an (WE V_ok 1 [(2, {sb := 5, res := some ⟨f_slices_Clone_intO.S.rs, y22⟩})] 2 (tl [1, 68, 70, 72, 75] [0, 1, 2, 5, 3, 4]) (ac (f_slices_Clone_intO.rl e23) az) w16) (an (We az w19) (an (We az w20) aN)))
  have w9 : o 14 591 t9 := WAs (an (We az w16) (an (We az w17) (an (We az w18) aN)))
  have w8 : o 15 1609 t8 := WAs (an (WE V_ok 0 [] 1 (tn [1, 67, 69, 72, 76] 5) az w12) (an (WE V_ok 0 [] 4 (tn [1, 66, 70, 72, 76] 5) az w14) (an (WE V_ok 0 [] 7 (tn [1, 66, 69, 73, 76] 5) az w15) aN)))
  have w7 : o 15 713 t7 := WAs (an (WE V_ok 0 [] 1 (tn [1, 67, 69, 73, 75] 5) az w11) (an (WE V_ok 0 [] 4 (tn [1, 66, 70, 73, 75] 5) az w13) (an (We az w15) aN)))
  have w6 : o 15 601 t6 := WAs (an (WE V_ok 0 [] 1 (tn [1, 67, 70, 72, 75] 5) az w10) (an (We az w13) (an (We az w14) aN)))
  have w5 : o 15 587 t5 := WAs (an (We (ac (f_slices_Clone_intO.rl e23) az) w9) (an (We az w10) (an (We az w11) (an (We az w12) aN))))
  have w4 : o 16 585 t4 := WAs (an (We az w5) (an (We az w6) (an (We az w7) (an (We az w8) aN))))
  have w3 : o 17 73 t3 := Wt az w4
  have w2 : o 18 9 t2 := Wt az w3
  have w1 : o 19 1 t1 := Wt az w2
  have w0 : o 20 0 t0 := Wt az w1
  exact RA V_ok 20 (by kernel_rfl) (by kernel_rfl) (by kernel_rfl) w0
noncomputable def l3 (k : Nat) : Nat → Int → Int → Int → Int → Int → Int → Int → Int → List Int → List T713d.T → List Int → List Int → Int → List (List (List T1383.T)) → List T23b6.T → Option R
 | 0, _, _, _, _, _, _, _, _, _, _, _, _, _, _, _ => none
 | m + 1, p1, p2, p11, p12, p13, p14, p15, p16, p17, p18, p19, p20, p21, p22, p23 => b3 x2 x3 x4 x5 x6 x7 x8 x9 (l3 k m) k p1 p2 p11 p12 p13 p14 p15 p16 p17 p18 p19 p20 p21 p22 p23
theorem l3_ok {r x2 x3 x4 x5 x6 x7 x8 x9} (k : Nat) : ∀ (m3 : Nat) (p1 p2 p11 p12 p13 p14 p15 p16 : Int) (p17 : List Int) (p18 : List T713d.T) (p19 p20 : List Int) (p21 : Int) (p22 : List (List (List T1383.T))) (p23 : List T23b6.T), l3 x2 x3 x4 x5 x6 x7 x8 x9 k m3 p1 p2 p11 p12 p13 p14 p15 p16 p17 p18 p19 p20 p21 p22 p23 = some r → Gw P 2 (Q x2 x3 x4 x5 x6 x7 x8 x9 r) (Pb c0 175 [] m3) (s3 x2 x3 x4 x5 x6 x7 x8 x9 p1 p2 p11 p12 p13 p14 p15 p16 p17 p18 p19 p20 p21 p22 p23)
 | 0, _, _, _, _, _, _, _, _, _, _, _, _, _, _, _, H => by cases H
 | m3 + 1, p1, p2, p11, p12, p13, p14, p15, p16, p17, p18, p19, p20, p21, p22, p23, H => SU (by kernel_rfl) (b3_ok (l3_ok k m3) H)
noncomputable def b1 (L1 : Int → Int → Int → Int → Int → Int → Int → Int → List Int → List T23b6.T → List T713d.T → List Int → List Int → Int → List (List (List T1383.T)) → Option R) (k : Nat) (p1 p2 p11 p12 p13 p14 p15 p16 : Int) (p17 : List Int) (p18 : List T23b6.T) (p19 : List T713d.T) (p20 p21 : List Int) (p22 : Int) (p23 : List (List (List T1383.T))) : Option R :=
 if (decide (p2 < p1)) = true then
 if 0 ≤ p2 then
  if p2 < (p23.length : Int) then
   (f_slices_Clone_Conf_RuleO.f k (att (.slice (.slice T1383)) p23 p2)).bind fun y6 =>
    l2 x2 x3 x4 x5 x6 x7 x8 x9 L1 k k p2 p1 p2 (y6.1.length : Int) 0 p11 p12 p13 p14 p15 p16 p17 p18 p19 p20 p21 p22 y6.1 p23
  else none
 else none
else
 (f_slices_Clone_PeerO.f k p18).bind fun y15 =>
  l3 x2 x3 x4 x5 x6 x7 x8 x9 k k (y15.1.length : Int) 0 p11 p12 p13 p14 p15 p16 p17 p19 p20 p21 p22 p23 y15.1
theorem b1_ok {r x2 x3 x4 x5 x6 x7 x8 x9} {L1 : Int → Int → Int → Int → Int → Int → Int → Int → List Int → List T23b6.T → List T713d.T → List Int → List Int → Int → List (List (List T1383.T)) → Option R} {m1 : Nat} (hL1 : ∀ p1 p2 p11 p12 p13 p14 p15 p16 p17 p18 p19 p20 p21 p22 p23, L1 p1 p2 p11 p12 p13 p14 p15 p16 p17 p18 p19 p20 p21 p22 p23 = some r → Gw P 2 (Q x2 x3 x4 x5 x6 x7 x8 x9 r) (Pb c0 43 [] m1) (s1 x2 x3 x4 x5 x6 x7 x8 x9 p1 p2 p11 p12 p13 p14 p15 p16 p17 p18 p19 p20 p21 p22 p23)) {k p1 p2 p11 p12 p13 p14 p15 p16 p17 p18 p19 p20 p21 p22 p23} (H : b1 x2 x3 x4 x5 x6 x7 x8 x9 L1 k p1 p2 p11 p12 p13 p14 p15 p16 p17 p18 p19 p20 p21 p22 p23 = some r) : Gw P 2 (Q x2 x3 x4 x5 x6 x7 x8 x9 r) (Px c0 75 [m1]) (s1 x2 x3 x4 x5 x6 x7 x8 x9 p1 p2 p11 p12 p13 p14 p15 p16 p17 p18 p19 p20 p21 p22 p23) := by
 unfold b1 at H
 refine Ra ?_
 rcases of_ite H with ⟨hb3, H⟩ | ⟨hb3, H⟩
 ·refine C1 hb3 ?_
  obtain ⟨n4, H⟩ := of_if H
  obtain ⟨n5, H⟩ := of_if H
  refine Rg V_ok 0 [] (ac n4 (ac n5 az)) ?_
  obtain ⟨y6, e7, H⟩ := of_bind H
  refine Rg V_ok 1 [(1, {sb := 4, res := some ⟨f_slices_Clone_Conf_RuleO.S.rs, y6⟩})] (ac (f_slices_Clone_Conf_RuleO.rl e7) az) ?_
  refine Ra ?_
  exact LP k (Jm (tl [1, 3, 4, 13, 14, 15, 22, 23, 24] [0, 1, 2, 4, 3]) (l2_ok hL1 k k p2 p1 p2 (y6.1.length : Int) 0 p11 p12 p13 p14 p15 p16 p17 p18 p19 p20 p21 p22 y6.1 p23 H))
 ·refine C0 hb3 ?_
  obtain ⟨y15, e16, H⟩ := of_bind H
  refine Rg V_ok 1 [(2, {sb := 4, res := some ⟨f_slices_Clone_PeerO.S.rs, y15⟩})] (ac (f_slices_Clone_PeerO.rl e16) az) ?_
  refine Ra ?_
  exact LP k (Jm (tn [1, 47, 48] 5) (l3_ok k k (y15.1.length : Int) 0 p11 p12 p13 p14 p15 p16 p17 p19 p20 p21 p22 p23 y15.1 H))
noncomputable def l1 (k : Nat) : Nat → Int → Int → Int → Int → Int → Int → Int → Int → List Int → List T23b6.T → List T713d.T → List Int → List Int → Int → List (List (List T1383.T)) → Option R
 | 0, _, _, _, _, _, _, _, _, _, _, _, _, _, _, _ => none
 | m + 1, p1, p2, p11, p12, p13, p14, p15, p16, p17, p18, p19, p20, p21, p22, p23 => b1 x2 x3 x4 x5 x6 x7 x8 x9 (l1 k m) k p1 p2 p11 p12 p13 p14 p15 p16 p17 p18 p19 p20 p21 p22 p23
theorem l1_ok {r x2 x3 x4 x5 x6 x7 x8 x9} (k : Nat) : ∀ (m1 : Nat) (p1 p2 p11 p12 p13 p14 p15 p16 : Int) (p17 : List Int) (p18 : List T23b6.T) (p19 : List T713d.T) (p20 p21 : List Int) (p22 : Int) (p23 : List (List (List T1383.T))), l1 x2 x3 x4 x5 x6 x7 x8 x9 k m1 p1 p2 p11 p12 p13 p14 p15 p16 p17 p18 p19 p20 p21 p22 p23 = some r → Gw P 2 (Q x2 x3 x4 x5 x6 x7 x8 x9 r) (Pb c0 43 [] m1) (s1 x2 x3 x4 x5 x6 x7 x8 x9 p1 p2 p11 p12 p13 p14 p15 p16 p17 p18 p19 p20 p21 p22 p23)
 | 0, _, _, _, _, _, _, _, _, _, _, _, _, _, _, _, H => by cases H
 | m1 + 1, p1, p2, p11, p12, p13, p14, p15, p16, p17, p18, p19, p20, p21, p22, p23, H => SU (by kernel_rfl) (b1_ok (l1_ok k m1) H)
noncomputable def f (k : Nat) (x1 x2 : T26b3.T) (x3 x4 x5 x6 x7 x8 x9 : Int) : Option R :=
 (f_slices_Clone_ConfO.f k x1.1).bind fun y1 =>
  l1 x2 x3 x4 x5 x6 x7 x8 x9 k k (y1.1.length : Int) 0 x1.2.1 x1.2.2.1 x1.2.2.2.1 x1.2.2.2.2.1 x1.2.2.2.2.2.1 x1.2.2.2.2.2.2.1 x1.2.2.2.2.2.2.2.1 x1.2.2.2.2.2.2.2.2.1 x1.2.2.2.2.2.2.2.2.2.1 x1.2.2.2.2.2.2.2.2.2.2.1 x1.2.2.2.2.2.2.2.2.2.2.2.1 x1.2.2.2.2.2.2.2.2.2.2.2.2 y1.1
theorem f_ok {r k x1 x2 x3 x4 x5 x6 x7 x8 x9} (H : f k x1 x2 x3 x4 x5 x6 x7 x8 x9 = some r) : Gw P 2 (Q x2 x3 x4 x5 x6 x7 x8 x9 r) (Px c0 1 []) (s0 x1 x2 x3 x4 x5 x6 x7 x8 x9) := by
 unfold f at H
 refine Rg V_ok 1 [(0, hb 2)] az ?_
 obtain ⟨y1, e2, H⟩ := of_bind H
 refine Rg V_ok 1 [(2, {sb := 3, res := some ⟨f_slices_Clone_ConfO.S.rs, y1⟩})] (ac (f_slices_Clone_ConfO.rl e2) az) ?_
 refine Ra ?_
 exact LP k (Jm (tn [1, 13, 14, 15] 4) (l1_ok k k (y1.1.length : Int) 0 x1.2.1 x1.2.2.1 x1.2.2.2.1 x1.2.2.2.2.1 x1.2.2.2.2.2.1 x1.2.2.2.2.2.2.1 x1.2.2.2.2.2.2.2.1 x1.2.2.2.2.2.2.2.2.1 x1.2.2.2.2.2.2.2.2.2.1 x1.2.2.2.2.2.2.2.2.2.2.1 x1.2.2.2.2.2.2.2.2.2.2.2.1 x1.2.2.2.2.2.2.2.2.2.2.2.2 y1.1 H))
theorem at_ : FnAt P 32 85 c0 f32.results := fnA func32
end i_control_own_776m
namespace i_control_controller_two_f7e
noncomputable def c0 : Code := bo f83
noncomputable def V : Env := eV [(119, f_slices_Contains_int.S)]
theorem V_ok : EnvOk P V := eOk (slk_cons f_slices_Contains_int.fits (slk_nil))
variable (x1 x2 x3 x4 x5 x6 x7 x8 x9 x10 x11 x12 x13 x14 : Int) (x15 : List (List (List T1383.T))) (x16 : List Int) (x17 : List T23b6.T) (x18 : List T713d.T) (x19 x20 : List Int)
abbrev R := (Bool) × Unit
noncomputable def s0 : St := ⟨10, [(0, .cv (.one (.ptr 1 0)))], [(.box 13, [.nils, .i x1, .i x2, .i x3, .i x4, .i x5, .i x6, .nils, .nils, .nils, .nils, .nils, .i x7]), (.box 13, [.own 2, .i x8, .i x9, .i x10, .i x11, .i x12, .i x13, .own 3, .own 4, .own 5, .own 6, .own 7, .i x14]), (.buf 38 (.slice (.slice T1383)) x15, []), (.buf 3 (.int .i64) x16, []), (.buf 58 T23b6 x17, []), (.buf 93 T713d x18, []), (.buf 3 (.int .i64) x19, []), (.buf 3 (.int .i64) x20, []), (.box 1, [.ptr 1 0])]⟩
noncomputable def out (r : R) : St := ⟨10, [(2, .cv (.one (.bool r.1)))], [(.box 13, [.nils, .i x1, .i x2, .i x3, .i x4, .i x5, .i x6, .nils, .nils, .nils, .nils, .nils, .i x7]), (.box 13, [.own 2, .i x8, .i x9, .i x10, .i x11, .i x12, .i x13, .own 3, .own 4, .own 5, .own 6, .own 7, .i x14]), (.buf 38 (.slice (.slice T1383)) x15, []), (.buf 3 (.int .i64) x16, []), (.buf 58 T23b6 x17, []), (.buf 93 T713d x18, []), (.buf 3 (.int .i64) x19, []), (.buf 3 (.int .i64) x20, []), (.box 1, [.ptr 1 0])]⟩
abbrev Q (r : R) := CallQ 9 (out x1 x2 x3 x4 x5 x6 x7 x8 x9 x10 x11 x12 x13 x14 x15 x16 x17 x18 x19 x20 r)
noncomputable def f (k : Nat) (x1 x2 x3 x4 x5 x6 x7 x8 x9 x10 x11 x12 x13 x14 : Int) (x15 : List (List (List T1383.T))) (x16 : List Int) (x17 : List T23b6.T) (x18 : List T713d.T) (x19 x20 : List Int) : Option R :=
 (f_slices_Contains_int.f k [1, 2, 3] x12).bind fun y1 =>
  some (y1.1, ())
theorem f_ok {r k x1 x2 x3 x4 x5 x6 x7 x8 x9 x10 x11 x12 x13 x14 x15 x16 x17 x18 x19 x20} (H : f k x1 x2 x3 x4 x5 x6 x7 x8 x9 x10 x11 x12 x13 x14 x15 x16 x17 x18 x19 x20 = some r) : Gw P 9 (Q x1 x2 x3 x4 x5 x6 x7 x8 x9 x10 x11 x12 x13 x14 x15 x16 x17 x18 x19 x20 r) (Px c0 1 []) (s0 x1 x2 x3 x4 x5 x6 x7 x8 x9 x10 x11 x12 x13 x14 x15 x16 x17 x18 x19 x20) := by
 unfold f at H
 refine Ra ?_
 obtain ⟨y1, e2, H⟩ := of_bind H
 refine Rg V_ok 0 [(6, hr f_slices_Contains_int.S y1)] (ac (f_slices_Contains_int.rl e2) az) ?_
 obtain rfl := Option.some.inj H
 exact Lq (tn [2] 9)
theorem at_ : FnAt P 83 10 c0 f83.results := fnA func83
end i_control_controller_two_f7e
namespace i_control_controller_is_1_29c
noncomputable def c0 : Code := bo f82
noncomputable def V : Env := eV []
theorem V_ok : EnvOk P V := eOk (slk_nil)
variable (x1 x2 x3 x4 x5 x6 x7 x8 x9 x10 x11 x12 x13 x14 x15 : Int) (x16 : List (List (List T1383.T))) (x17 : List Int) (x18 : List T23b6.T) (x19 : List T713d.T) (x20 x21 : List Int)
abbrev R := (Bool) × Unit
noncomputable def s0 : St := ⟨16, [(0, .cv (.one (.i x1))), (1, .cv (.one (.ptr 8 0)))], [(.box 13, [.nils, .i x2, .i x3, .i x4, .i x5, .i x6, .i x7, .nils, .nils, .nils, .nils, .nils, .i x8]), (.box 13, [.own 2, .i x9, .i x10, .i x11, .i x12, .i x13, .i x14, .own 3, .own 4, .own 5, .own 6, .own 7, .i x15]), (.buf 38 (.slice (.slice T1383)) x16, []), (.buf 3 (.int .i64) x17, []), (.buf 58 T23b6 x18, []), (.buf 93 T713d x19, []), (.buf 3 (.int .i64) x20, []), (.buf 3 (.int .i64) x21, []), (.box 1, [.ptr 1 0])]⟩
noncomputable def out (r : R) : St := ⟨16, [(3, .cv (.one (.bool r.1)))], [(.box 13, [.nils, .i x2, .i x3, .i x4, .i x5, .i x6, .i x7, .nils, .nils, .nils, .nils, .nils, .i x8]), (.box 13, [.own 2, .i x9, .i x10, .i x11, .i x12, .i x13, .i x14, .own 3, .own 4, .own 5, .own 6, .own 7, .i x15]), (.buf 38 (.slice (.slice T1383)) x16, []), (.buf 3 (.int .i64) x17, []), (.buf 58 T23b6 x18, []), (.buf 93 T713d x19, []), (.buf 3 (.int .i64) x20, []), (.buf 3 (.int .i64) x21, []), (.box 1, [.ptr 1 0])]⟩
abbrev Q (r : R) := CallQ 9 (out x2 x3 x4 x5 x6 x7 x8 x9 x10 x11 x12 x13 x14 x15 x16 x17 x18 x19 x20 x21 r)
noncomputable def f (k : Nat) (x1 x2 x3 x4 x5 x6 x7 x8 x9 x10 x11 x12 x13 x14 x15 : Int) (x16 : List (List (List T1383.T))) (x17 : List Int) (x18 : List T23b6.T) (x19 : List T713d.T) (x20 x21 : List Int) : Option R :=
 if (decide (x1 < (0 : Int))) = true then
  some (true, ())
 else
  some ((decide (x1 ≥ (x16.length : Int))), ())
theorem f_ok {r k x1 x2 x3 x4 x5 x6 x7 x8 x9 x10 x11 x12 x13 x14 x15 x16 x17 x18 x19 x20 x21} (H : f k x1 x2 x3 x4 x5 x6 x7 x8 x9 x10 x11 x12 x13 x14 x15 x16 x17 x18 x19 x20 x21 = some r) : Gw P 9 (Q x2 x3 x4 x5 x6 x7 x8 x9 x10 x11 x12 x13 x14 x15 x16 x17 x18 x19 x20 x21 r) (Px c0 1 []) (s0 x1 x2 x3 x4 x5 x6 x7 x8 x9 x10 x11 x12 x13 x14 x15 x16 x17 x18 x19 x20 x21) := by
 unfold f at H
 refine Ra ?_
 rcases of_ite H with ⟨hb1, H⟩ | ⟨hb1, H⟩
 ·refine Rg V_ok 0 [(1, {bv := some true})] (ac hb1 az) ?_
  obtain rfl := Option.some.inj H
  exact Lq (tn [3] 9)
 ·refine Rg V_ok 0 [(1, {bv := some false})] (ac hb1 az) ?_
  obtain rfl := Option.some.inj H
  exact Lq (tn [3] 9)
theorem at_ : FnAt P 82 16 c0 f82.results := fnA func82
end i_control_controller_is_1_29c
namespace i_slices_IndexFunc_int_024
noncomputable def c0 : Code := bo f120
noncomputable def V : Env := eV []
theorem V_ok : EnvOk P V := eOk (slk_nil)
variable (x1 x2 x3 x4 x5 x6 x7 x8 x9 x10 x11 x12 x13 x14 : Int) (x15 : List (List (List T1383.T))) (x16 : List Int) (x17 : List T23b6.T) (x18 : List T713d.T) (x19 x20 : List Int)
noncomputable def h0 (l : Hl) : Hl := (.box 13, [.nils, .i x1, .i x2, .i x3, .i x4, .i x5, .i x6, .nils, .nils, .nils, .nils, .nils, .i x7]) :: (.box 13, [.own 2, .i x8, .i x9, .i x10, .i x11, .i x12, .i x13, .own 3, .own 4, .own 5, .own 6, .own 7, .i x14]) :: (.buf 38 (.slice (.slice T1383)) x15, []) :: (.buf 3 (.int .i64) x16, []) :: (.buf 58 T23b6 x17, []) :: (.buf 93 T713d x18, []) :: (.buf 3 (.int .i64) x19, []) :: (.buf 3 (.int .i64) x20, []) :: (.box 1, [.ptr 1 0]) :: l
abbrev R := (Int) × Unit
noncomputable def s0 : St := ⟨19, [(0, .cv (.one (.own 3))), (1, .cv (.one (.fn 82 [] [(8, 0)])))], (h0 x1 x2 x3 x4 x5 x6 x7 x8 x9 x10 x11 x12 x13 x14 x15 x16 x17 x18 x19 x20 [])⟩
noncomputable def out (r : R) : St := ⟨19, [(4, .cv (.one (.i r.1)))], (h0 x1 x2 x3 x4 x5 x6 x7 x8 x9 x10 x11 x12 x13 x14 x15 x16 x17 x18 x19 x20 [])⟩
abbrev Q (r : R) := CallQ 9 (out x1 x2 x3 x4 x5 x6 x7 x8 x9 x10 x11 x12 x13 x14 x15 x16 x17 x18 x19 x20 r)
noncomputable def s1 (p1 p2 : Int) : St := ⟨19, [(0, .cv (.one (.own 3))), (1, .cv (.one (.fn 82 [] [(8, 0)]))), (7, .cv (.one (.i p1))), (8, .cv (.one (.i p2)))], (h0 x1 x2 x3 x4 x5 x6 x7 x8 x9 x10 x11 x12 x13 x14 x15 x16 x17 x18 x19 x20 [])⟩
noncomputable def b1 (L1 : Int → Int → Option R) (k : Nat) (p1 p2 : Int) : Option R :=
 if (decide (p2 < p1)) = true then
 if 0 ≤ p2 then
  if p2 < (x16.length : Int) then
   (i_control_controller_is_1_29c.f k (att (.int .i64) x16 p2) x1 x2 x3 x4 x5 x6 x7 x8 x9 x10 x11 x12 x13 x14 x15 x16 x17 x18 x19 x20).bind fun y4 =>
    if y4.1 = true then
     some (p2, ())
    else
     L1 p1 (IntKind.i64.wrap (p2 + 1))
  else none
 else none
else
 some ((-1), ())
theorem b1_ok {r x1 x2 x3 x4 x5 x6 x7 x8 x9 x10 x11 x12 x13 x14 x15 x16 x17 x18 x19 x20} {L1 : Int → Int → Option R} {m1 : Nat} (hL1 : ∀ p1 p2, L1 p1 p2 = some r → Gw P 9 (Q x1 x2 x3 x4 x5 x6 x7 x8 x9 x10 x11 x12 x13 x14 x15 x16 x17 x18 x19 x20 r) (Pb c0 21 [] m1) (s1 x1 x2 x3 x4 x5 x6 x7 x8 x9 x10 x11 x12 x13 x14 x15 x16 x17 x18 x19 x20 p1 p2)) {k p1 p2} (H : b1 x1 x2 x3 x4 x5 x6 x7 x8 x9 x10 x11 x12 x13 x14 x15 x16 x17 x18 x19 x20 L1 k p1 p2 = some r) : Gw P 9 (Q x1 x2 x3 x4 x5 x6 x7 x8 x9 x10 x11 x12 x13 x14 x15 x16 x17 x18 x19 x20 r) (Px c0 37 [m1]) (s1 x1 x2 x3 x4 x5 x6 x7 x8 x9 x10 x11 x12 x13 x14 x15 x16 x17 x18 x19 x20 p1 p2) := by
 unfold b1 at H
 refine Ra ?_
 rcases of_ite H with ⟨hb1, H⟩ | ⟨hb1, H⟩
 ·refine C1 hb1 ?_
  refine Ra ?_
  refine GT (tn [0, 1, 5, 7, 8] 9) (RI ?_)
  obtain ⟨n2, H⟩ := of_if H
  obtain ⟨n3, H⟩ := of_if H
  refine EV V_ok 0 [] 5 (ac n2 (ac n3 az)) ?_
  obtain ⟨y4, e5, H⟩ := of_bind H
  refine CL V_ok i_control_controller_is_1_29c.at_ (of_G (i_control_controller_is_1_29c.f_ok e5)) ?_
  refine RN ?_
  rcases of_ite H with ⟨hb6, H⟩ | ⟨hb6, H⟩
  ·refine C1 hb6 ?_
   refine Ra ?_
   obtain rfl := Option.some.inj H
   exact Lq (tn [4] 9)
  ·refine C0 hb6 ?_
   refine Ra ?_
   exact Jm (tn [0, 1, 7, 8] 9) (hL1 p1 (IntKind.i64.wrap (p2 + 1)) H)
 ·refine C0 hb1 ?_
  refine Ra ?_
  obtain rfl := Option.some.inj H
  exact Lq (tn [4] 9)
noncomputable def l1 (k : Nat) : Nat → Int → Int → Option R
 | 0, _, _ => none
 | m + 1, p1, p2 => b1 x1 x2 x3 x4 x5 x6 x7 x8 x9 x10 x11 x12 x13 x14 x15 x16 x17 x18 x19 x20 (l1 k m) k p1 p2
theorem l1_ok {r x1 x2 x3 x4 x5 x6 x7 x8 x9 x10 x11 x12 x13 x14 x15 x16 x17 x18 x19 x20} (k : Nat) : ∀ (m1 : Nat) (p1 : Int) (p2 : Int), l1 x1 x2 x3 x4 x5 x6 x7 x8 x9 x10 x11 x12 x13 x14 x15 x16 x17 x18 x19 x20 k m1 p1 p2 = some r → Gw P 9 (Q x1 x2 x3 x4 x5 x6 x7 x8 x9 x10 x11 x12 x13 x14 x15 x16 x17 x18 x19 x20 r) (Pb c0 21 [] m1) (s1 x1 x2 x3 x4 x5 x6 x7 x8 x9 x10 x11 x12 x13 x14 x15 x16 x17 x18 x19 x20 p1 p2)
 | 0, _, _, H => by cases H
 | m1 + 1, p1, p2, H => SU (by kernel_rfl) (b1_ok (l1_ok k m1) H)
noncomputable def f (k : Nat) (x1 x2 x3 x4 x5 x6 x7 x8 x9 x10 x11 x12 x13 x14 : Int) (x15 : List (List (List T1383.T))) (x16 : List Int) (x17 : List T23b6.T) (x18 : List T713d.T) (x19 x20 : List Int) : Option R :=
 l1 x1 x2 x3 x4 x5 x6 x7 x8 x9 x10 x11 x12 x13 x14 x15 x16 x17 x18 x19 x20 k k (x16.length : Int) 0
theorem f_ok {r k x1 x2 x3 x4 x5 x6 x7 x8 x9 x10 x11 x12 x13 x14 x15 x16 x17 x18 x19 x20} (H : f k x1 x2 x3 x4 x5 x6 x7 x8 x9 x10 x11 x12 x13 x14 x15 x16 x17 x18 x19 x20 = some r) : Gw P 9 (Q x1 x2 x3 x4 x5 x6 x7 x8 x9 x10 x11 x12 x13 x14 x15 x16 x17 x18 x19 x20 r) (Px c0 1 []) (s0 x1 x2 x3 x4 x5 x6 x7 x8 x9 x10 x11 x12 x13 x14 x15 x16 x17 x18 x19 x20) := by
 unfold f at H
 refine Ra ?_
 refine Ra ?_
 exact LP k (Jm (tn [0, 1, 7, 8] 9) (l1_ok k k (x16.length : Int) 0 H))
theorem at_ : FnAt P 120 19 c0 f120.results := fnA func120
end i_slices_IndexFunc_int_024
namespace i_slices_ContainsFunc_int_024
noncomputable def c0 : Code := bo f84
noncomputable def V : Env := eV []
theorem V_ok : EnvOk P V := eOk (slk_nil)
variable (x1 x2 x3 x4 x5 x6 x7 x8 x9 x10 x11 x12 x13 x14 : Int) (x15 : List (List (List T1383.T))) (x16 : List Int) (x17 : List T23b6.T) (x18 : List T713d.T) (x19 x20 : List Int)
abbrev R := (Bool) × Unit
noncomputable def s0 : St := ⟨9, [(0, .cv (.one (.own 3))), (1, .cv (.one (.fn 82 [] [(8, 0)])))], [(.box 13, [.nils, .i x1, .i x2, .i x3, .i x4, .i x5, .i x6, .nils, .nils, .nils, .nils, .nils, .i x7]), (.box 13, [.own 2, .i x8, .i x9, .i x10, .i x11, .i x12, .i x13, .own 3, .own 4, .own 5, .own 6, .own 7, .i x14]), (.buf 38 (.slice (.slice T1383)) x15, []), (.buf 3 (.int .i64) x16, []), (.buf 58 T23b6 x17, []), (.buf 93 T713d x18, []), (.buf 3 (.int .i64) x19, []), (.buf 3 (.int .i64) x20, []), (.box 1, [.ptr 1 0])]⟩
noncomputable def out (r : R) : St := ⟨9, [(4, .cv (.one (.bool r.1)))], [(.box 13, [.nils, .i x1, .i x2, .i x3, .i x4, .i x5, .i x6, .nils, .nils, .nils, .nils, .nils, .i x7]), (.box 13, [.own 2, .i x8, .i x9, .i x10, .i x11, .i x12, .i x13, .own 3, .own 4, .own 5, .own 6, .own 7, .i x14]), (.buf 38 (.slice (.slice T1383)) x15, []), (.buf 3 (.int .i64) x16, []), (.buf 58 T23b6 x17, []), (.buf 93 T713d x18, []), (.buf 3 (.int .i64) x19, []), (.buf 3 (.int .i64) x20, []), (.box 1, [.ptr 1 0])]⟩
abbrev Q (r : R) := CallQ 9 (out x1 x2 x3 x4 x5 x6 x7 x8 x9 x10 x11 x12 x13 x14 x15 x16 x17 x18 x19 x20 r)
noncomputable def f (k : Nat) (x1 x2 x3 x4 x5 x6 x7 x8 x9 x10 x11 x12 x13 x14 : Int) (x15 : List (List (List T1383.T))) (x16 : List Int) (x17 : List T23b6.T) (x18 : List T713d.T) (x19 x20 : List Int) : Option R :=
 (i_slices_IndexFunc_int_024.f k x1 x2 x3 x4 x5 x6 x7 x8 x9 x10 x11 x12 x13 x14 x15 x16 x17 x18 x19 x20).bind fun y1 =>
  some ((decide (y1.1 ≥ (0 : Int))), ())
theorem f_ok {r k x1 x2 x3 x4 x5 x6 x7 x8 x9 x10 x11 x12 x13 x14 x15 x16 x17 x18 x19 x20} (H : f k x1 x2 x3 x4 x5 x6 x7 x8 x9 x10 x11 x12 x13 x14 x15 x16 x17 x18 x19 x20 = some r) : Gw P 9 (Q x1 x2 x3 x4 x5 x6 x7 x8 x9 x10 x11 x12 x13 x14 x15 x16 x17 x18 x19 x20 r) (Px c0 1 []) (s0 x1 x2 x3 x4 x5 x6 x7 x8 x9 x10 x11 x12 x13 x14 x15 x16 x17 x18 x19 x20) := by
 unfold f at H
 refine Ra ?_
 refine GT (tn [0, 1] 9) (RI ?_)
 refine EV V_ok 0 [] 2 az ?_
 obtain ⟨y1, e2, H⟩ := of_bind H
 refine CL V_ok i_slices_IndexFunc_int_024.at_ (of_G (i_slices_IndexFunc_int_024.f_ok e2)) ?_
 refine EV V_ok 0 [] 2 az ?_
 refine RN ?_
 obtain rfl := Option.some.inj H
 exact Lq (tn [4] 9)
theorem at_ : FnAt P 84 9 c0 f84.results := fnA func84
end i_slices_ContainsFunc_int_024
namespace i_control_controller_is_559
noncomputable def c0 : Code := bo f33
noncomputable def V : Env := eV []
theorem V_ok : EnvOk P V := eOk (slk_nil)
variable (x1 x2 x3 x4 x5 x6 x7 x8 x9 x10 x11 x12 x13 x14 : Int) (x15 : List (List (List T1383.T))) (x16 : List Int) (x17 : List T23b6.T) (x18 : List T713d.T) (x19 x20 : List Int)
noncomputable def h0 (l : Hl) : Hl := (.box 13, [.nils, .i x1, .i x2, .i x3, .i x4, .i x5, .i x6, .nils, .nils, .nils, .nils, .nils, .i x7]) :: (.box 13, [.own 2, .i x8, .i x9, .i x10, .i x11, .i x12, .i x13, .own 3, .own 4, .own 5, .own 6, .own 7, .i x14]) :: (.buf 38 (.slice (.slice T1383)) x15, []) :: (.buf 3 (.int .i64) x16, []) :: (.buf 58 T23b6 x17, []) :: (.buf 93 T713d x18, []) :: (.buf 3 (.int .i64) x19, []) :: (.buf 3 (.int .i64) x20, []) :: l
abbrev R := (Bool) × Unit
noncomputable def s0 : St := ⟨57, [(0, .cv (.one (.ptr 1 0)))], (h0 x1 x2 x3 x4 x5 x6 x7 x8 x9 x10 x11 x12 x13 x14 x15 x16 x17 x18 x19 x20 [])⟩
noncomputable def out (r : R) : St := ⟨57, [(2, .cv (.one (.bool r.1)))], (h0 x1 x2 x3 x4 x5 x6 x7 x8 x9 x10 x11 x12 x13 x14 x15 x16 x17 x18 x19 x20 [])⟩
abbrev Q (r : R) := CallQ 8 (out x1 x2 x3 x4 x5 x6 x7 x8 x9 x10 x11 x12 x13 x14 x15 x16 x17 x18 x19 x20 r)
noncomputable def s1 (p1 : Bool) : St := ⟨57, [(1, .cv (.one (.ptr 8 0))), (3, .cv (.one (.fn 82 [] [(8, 0)]))), (4, .cv (.one (.bool p1)))], (h0 x1 x2 x3 x4 x5 x6 x7 x8 x9 x10 x11 x12 x13 x14 x15 x16 x17 x18 x19 x20 [(.box 1, [.ptr 1 0])])⟩
noncomputable def j1 (k : Nat) (p1 : Bool) : Option R :=
 if p1 = true then
 (i_control_controller_is_1_29c.f k x8 x1 x2 x3 x4 x5 x6 x7 x8 x9 x10 x11 x12 x13 x14 x15 x16 x17 x18 x19 x20).bind fun y6 =>
  if (!y6.1) = true then
   (i_slices_ContainsFunc_int_024.f k x1 x2 x3 x4 x5 x6 x7 x8 x9 x10 x11 x12 x13 x14 x15 x16 x17 x18 x19 x20).bind fun y9 =>
    if (!y9.1) = true then
     some ((decide ((x17.length : Int) ≤ (100 : Int))), ())
    else
     some (false, ())
  else
   some (false, ())
else
 some (false, ())
theorem j1_ok {r x1 x2 x3 x4 x5 x6 x7 x8 x9 x10 x11 x12 x13 x14 x15 x16 x17 x18 x19 x20} {k p1} (H : j1 x1 x2 x3 x4 x5 x6 x7 x8 x9 x10 x11 x12 x13 x14 x15 x16 x17 x18 x19 x20 k p1 = some r) : Gw P 8 (Q x1 x2 x3 x4 x5 x6 x7 x8 x9 x10 x11 x12 x13 x14 x15 x16 x17 x18 x19 x20 r) (Px c0 15 []) (s1 x1 x2 x3 x4 x5 x6 x7 x8 x9 x10 x11 x12 x13 x14 x15 x16 x17 x18 x19 x20 p1) := by
 unfold j1 at H
 refine GT (tn [1, 3, 4] 9) (RI ?_)
 refine EV V_ok 0 [] 2 az ?_
 rcases of_ite H with ⟨hb5, H⟩ | ⟨hb5, H⟩
 ·refine FXO 28 hb5 ?_
  refine EV V_ok 0 [] 6 az ?_
  obtain ⟨y6, e7, H⟩ := of_bind H
  refine CL V_ok i_control_controller_is_1_29c.at_ (of_G (i_control_controller_is_1_29c.f_ok e7)) ?_
  refine EV V_ok 0 [] 3 az ?_
  rcases of_ite H with ⟨hb8, H⟩ | ⟨hb8, H⟩
  ·refine FXO 38 hb8 ?_
   refine EV V_ok 0 [] 6 az ?_
   obtain ⟨y9, e10, H⟩ := of_bind H
   refine CL V_ok i_slices_ContainsFunc_int_024.at_ (of_G (i_slices_ContainsFunc_int_024.f_ok e10)) ?_
   refine EV V_ok 0 [] 3 az ?_
   rcases of_ite H with ⟨hb11, H⟩ | ⟨hb11, H⟩
   ·refine FXO 48 hb11 ?_
    refine EV V_ok 0 [] 9 az ?_
    refine RN ?_
    obtain rfl := Option.some.inj H
    exact Lq (tn [2] 8)
   ·refine FXO 48 hb11 ?_
    refine EV V_ok 0 [] 9 az ?_
    refine RN ?_
    obtain rfl := Option.some.inj H
    exact Lq (tn [2] 8)
  ·refine FXO 38 hb8 ?_
   refine EV V_ok 0 [] 10 az ?_
   refine EV V_ok 0 [] 9 az ?_
   refine RN ?_
   obtain rfl := Option.some.inj H
   exact Lq (tn [2] 8)
 ·refine FXO 28 hb5 ?_
  refine EV V_ok 0 [] 10 az ?_
  refine EV V_ok 0 [] 10 az ?_
  refine EV V_ok 0 [] 9 az ?_
  refine RN ?_
  obtain rfl := Option.some.inj H
  exact Lq (tn [2] 8)
noncomputable def f (k : Nat) (x1 x2 x3 x4 x5 x6 x7 x8 x9 x10 x11 x12 x13 x14 : Int) (x15 : List (List (List T1383.T))) (x16 : List Int) (x17 : List T23b6.T) (x18 : List T713d.T) (x19 x20 : List Int) : Option R :=
 if (x9 == (-1 : Int)) = true then
  (i_control_controller_two_f7e.f k x1 x2 x3 x4 x5 x6 x7 x8 x9 x10 x11 x12 x13 x14 x15 x16 x17 x18 x19 x20).bind fun y2 =>
   if (!y2.1) = true then
    j1 x1 x2 x3 x4 x5 x6 x7 x8 x9 x10 x11 x12 x13 x14 x15 x16 x17 x18 x19 x20 k true
   else
    (i_control_controller_is_1_29c.f k x9 x1 x2 x3 x4 x5 x6 x7 x8 x9 x10 x11 x12 x13 x14 x15 x16 x17 x18 x19 x20).bind fun y12 =>
     j1 x1 x2 x3 x4 x5 x6 x7 x8 x9 x10 x11 x12 x13 x14 x15 x16 x17 x18 x19 x20 k (!y12.1)
 else
  (i_control_controller_is_1_29c.f k x9 x1 x2 x3 x4 x5 x6 x7 x8 x9 x10 x11 x12 x13 x14 x15 x16 x17 x18 x19 x20).bind fun y14 =>
   j1 x1 x2 x3 x4 x5 x6 x7 x8 x9 x10 x11 x12 x13 x14 x15 x16 x17 x18 x19 x20 k (!y14.1)
theorem f_ok {r k x1 x2 x3 x4 x5 x6 x7 x8 x9 x10 x11 x12 x13 x14 x15 x16 x17 x18 x19 x20} (H : f k x1 x2 x3 x4 x5 x6 x7 x8 x9 x10 x11 x12 x13 x14 x15 x16 x17 x18 x19 x20 = some r) : Gw P 8 (Q x1 x2 x3 x4 x5 x6 x7 x8 x9 x10 x11 x12 x13 x14 x15 x16 x17 x18 x19 x20 r) (Px c0 1 []) (s0 x1 x2 x3 x4 x5 x6 x7 x8 x9 x10 x11 x12 x13 x14 x15 x16 x17 x18 x19 x20) := by
 unfold f at H
 refine Rg V_ok 1 [(0, hb 8)] az ?_
 refine Ra ?_
 refine GT (tn [1, 3] 9) (RI ?_)
 refine EV V_ok 0 [] 7 az ?_
 rcases of_ite H with ⟨hb1, H⟩ | ⟨hb1, H⟩
 ·refine FXO 12 hb1 ?_
  refine EV V_ok 0 [] 1 az ?_
  obtain ⟨y2, e3, H⟩ := of_bind H
  refine CL V_ok i_control_controller_two_f7e.at_ (of_G (i_control_controller_two_f7e.f_ok e3)) ?_
  refine EV V_ok 0 [] 3 az ?_
  rcases of_ite H with ⟨hb4, H⟩ | ⟨hb4, H⟩
  ·refine FXO 17 hb4 ?_
   refine EV V_ok 0 [] 10 az ?_
   refine RN ?_
   exact Jm (tn [1, 3, 4] 9) (j1_ok H)
  ·refine FXO 17 hb4 ?_
   refine EV V_ok 0 [] 6 az ?_
   obtain ⟨y12, e13, H⟩ := of_bind H
   refine CL V_ok i_control_controller_is_1_29c.at_ (of_G (i_control_controller_is_1_29c.f_ok e13)) ?_
   refine EV V_ok 0 [] 3 az ?_
   refine RN ?_
   exact Jm (tn [1, 3, 4] 9) (j1_ok H)
 ·refine FXO 12 hb1 ?_
  refine EV V_ok 0 [] 5 az ?_
  refine EV V_ok 0 [] 6 az ?_
  obtain ⟨y14, e15, H⟩ := of_bind H
  refine CL V_ok i_control_controller_is_1_29c.at_ (of_G (i_control_controller_is_1_29c.f_ok e15)) ?_
  refine EV V_ok 0 [] 3 az ?_
  refine RN ?_
  exact Jm (tn [1, 3, 4] 9) (j1_ok H)
theorem at_ : FnAt P 33 57 c0 f33.results := fnA func33
end i_control_controller_is_559
namespace i_control_controller_two_234
noncomputable def c0 : Code := bo f83
noncomputable def V : Env := eV [(119, f_slices_Contains_int.S)]
theorem V_ok : EnvOk P V := eOk (slk_cons f_slices_Contains_int.fits (slk_nil))
variable (x1 x2 x3 x4 x5 x6 x7 x8 x9 x10 x11 x12 x13 x14 : Int) (x15 : T4414.T) (x16 : List (List (List T1383.T))) (x17 : List Int) (x18 : List T23b6.T) (x19 : List T713d.T) (x20 x21 : List Int) (x22 : T4414.T)
abbrev R := (Bool) × Unit
noncomputable def s0 : St := ⟨10, [(0, .cv (.one (.ptr 1 0)))], [(.box 13, [.nils, .i x1, .i x2, .i x3, .i x4, .i x5, .i x6, .nils, .nils, .nils, .nils, .nils, .i x7]), (.box 13, [.own 3, .i x8, .i x9, .i x10, .i x11, .i x12, .i x13, .own 4, .own 5, .own 6, .own 7, .own 8, .i x14]), (.box 10, (encC .any T4414 x15)), (.buf 38 (.slice (.slice T1383)) x16, []), (.buf 3 (.int .i64) x17, []), (.buf 58 T23b6 x18, []), (.buf 93 T713d x19, []), (.buf 3 (.int .i64) x20, []), (.buf 3 (.int .i64) x21, []), (.box 10, (encC .any T4414 x22))]⟩
noncomputable def out (r : R) : St := ⟨10, [(2, .cv (.one (.bool r.1)))], [(.box 13, [.nils, .i x1, .i x2, .i x3, .i x4, .i x5, .i x6, .nils, .nils, .nils, .nils, .nils, .i x7]), (.box 13, [.own 3, .i x8, .i x9, .i x10, .i x11, .i x12, .i x13, .own 4, .own 5, .own 6, .own 7, .own 8, .i x14]), (.box 10, (encC .any T4414 x15)), (.buf 38 (.slice (.slice T1383)) x16, []), (.buf 3 (.int .i64) x17, []), (.buf 58 T23b6 x18, []), (.buf 93 T713d x19, []), (.buf 3 (.int .i64) x20, []), (.buf 3 (.int .i64) x21, []), (.box 10, (encC .any T4414 x22))]⟩
abbrev Q (r : R) := CallQ 10 (out x1 x2 x3 x4 x5 x6 x7 x8 x9 x10 x11 x12 x13 x14 x15 x16 x17 x18 x19 x20 x21 x22 r)
noncomputable def f (k : Nat) (x1 x2 x3 x4 x5 x6 x7 x8 x9 x10 x11 x12 x13 x14 : Int) (x15 : T4414.T) (x16 : List (List (List T1383.T))) (x17 : List Int) (x18 : List T23b6.T) (x19 : List T713d.T) (x20 x21 : List Int) (x22 : T4414.T) : Option R :=
 (f_slices_Contains_int.f k [1, 2, 3] x12).bind fun y1 =>
  some (y1.1, ())
theorem f_ok {r k x1 x2 x3 x4 x5 x6 x7 x8 x9 x10 x11 x12 x13 x14 x15 x16 x17 x18 x19 x20 x21 x22} (H : f k x1 x2 x3 x4 x5 x6 x7 x8 x9 x10 x11 x12 x13 x14 x15 x16 x17 x18 x19 x20 x21 x22 = some r) : Gw P 10 (Q x1 x2 x3 x4 x5 x6 x7 x8 x9 x10 x11 x12 x13 x14 x15 x16 x17 x18 x19 x20 x21 x22 r) (Px c0 1 []) (s0 x1 x2 x3 x4 x5 x6 x7 x8 x9 x10 x11 x12 x13 x14 x15 x16 x17 x18 x19 x20 x21 x22) := by
 unfold f at H
 refine Ra ?_
 obtain ⟨y1, e2, H⟩ := of_bind H
 refine Rg V_ok 0 [(6, hr f_slices_Contains_int.S y1)] (ac (f_slices_Contains_int.rl e2) az) ?_
 obtain rfl := Option.some.inj H
 exact Lq (tn [2] 10)
theorem at_ : FnAt P 83 10 c0 f83.results := fnA func83
end i_control_controller_two_234
namespace i_control_controller_live_1_90e
noncomputable def c0 : Code := bo f111
noncomputable def V : Env := eV []
theorem V_ok : EnvOk P V := eOk (slk_nil)
variable (x1 x2 : T814c.T) (x3 x4 x5 x6 x7 x8 x9 x10 x11 x12 x13 x14 x15 x16 : Int) (x17 : T4414.T) (x18 : List (List (List T1383.T))) (x19 : List Int) (x20 : List T23b6.T) (x21 : List T713d.T) (x22 x23 : List Int) (x24 : T4414.T) (x25 : List T814c.T)
abbrev R := (Int) × Unit
noncomputable def s0 : St := ⟨17, [(0, .cv (.agg [.i x1.1, .sl T1383 x1.2 .any])), (1, .cv (.agg [.i x2.1, .sl T1383 x2.2 .any]))], [(.box 13, [.nils, .i x3, .i x4, .i x5, .i x6, .i x7, .i x8, .nils, .nils, .nils, .nils, .nils, .i x9]), (.box 13, [.own 3, .i x10, .i x11, .i x12, .i x13, .i x14, .i x15, .own 4, .own 5, .own 6, .own 7, .own 8, .i x16]), (.box 10, (encC .any T4414 x17)), (.buf 38 (.slice (.slice T1383)) x18, []), (.buf 3 (.int .i64) x19, []), (.buf 58 T23b6 x20, []), (.buf 93 T713d x21, []), (.buf 3 (.int .i64) x22, []), (.buf 3 (.int .i64) x23, []), (.box 10, (encC .any T4414 x24)), (.buf 100 T814c x25, [])]⟩
noncomputable def out (r : R) : St := ⟨17, [(4, .cv (.one (.i r.1)))], [(.box 13, [.nils, .i x3, .i x4, .i x5, .i x6, .i x7, .i x8, .nils, .nils, .nils, .nils, .nils, .i x9]), (.box 13, [.own 3, .i x10, .i x11, .i x12, .i x13, .i x14, .i x15, .own 4, .own 5, .own 6, .own 7, .own 8, .i x16]), (.box 10, (encC .any T4414 x17)), (.buf 38 (.slice (.slice T1383)) x18, []), (.buf 3 (.int .i64) x19, []), (.buf 58 T23b6 x20, []), (.buf 93 T713d x21, []), (.buf 3 (.int .i64) x22, []), (.buf 3 (.int .i64) x23, []), (.box 10, (encC .any T4414 x24)), (.buf 100 T814c x25, [])]⟩
abbrev Q (r : R) := CallQ 11 (out x3 x4 x5 x6 x7 x8 x9 x10 x11 x12 x13 x14 x15 x16 x17 x18 x19 x20 x21 x22 x23 x24 x25 r)
noncomputable def f (k : Nat) (x1 x2 : T814c.T) (x3 x4 x5 x6 x7 x8 x9 x10 x11 x12 x13 x14 x15 x16 : Int) (x17 : T4414.T) (x18 : List (List (List T1383.T))) (x19 : List Int) (x20 : List T23b6.T) (x21 : List T713d.T) (x22 x23 : List Int) (x24 : T4414.T) (x25 : List T814c.T) : Option R :=
 if (decide (x1.1 < x2.1)) = true then
  some ((-1), ())
 else
  if (decide (x1.1 > x2.1)) = true then
   some ((1 : Int), ())
  else
   some ((0 : Int), ())
theorem f_ok {r k x1 x2 x3 x4 x5 x6 x7 x8 x9 x10 x11 x12 x13 x14 x15 x16 x17 x18 x19 x20 x21 x22 x23 x24 x25} (H : f k x1 x2 x3 x4 x5 x6 x7 x8 x9 x10 x11 x12 x13 x14 x15 x16 x17 x18 x19 x20 x21 x22 x23 x24 x25 = some r) : Gw P 11 (Q x3 x4 x5 x6 x7 x8 x9 x10 x11 x12 x13 x14 x15 x16 x17 x18 x19 x20 x21 x22 x23 x24 x25 r) (Px c0 1 []) (s0 x1 x2 x3 x4 x5 x6 x7 x8 x9 x10 x11 x12 x13 x14 x15 x16 x17 x18 x19 x20 x21 x22 x23 x24 x25) := by
 unfold f at H
 refine Rg V_ok 2 [(0, hb 11), (1, hb 12)] az ?_
 refine Ra ?_
 rcases of_ite H with ⟨hb1, H⟩ | ⟨hb1, H⟩
 ·refine C1 hb1 ?_
  refine Ra ?_
  obtain rfl := Option.some.inj H
  exact Lq (tn [4] 11)
 ·refine C0 hb1 ?_
  refine Ra ?_
  rcases of_ite H with ⟨hb2, H⟩ | ⟨hb2, H⟩
  ·refine C1 hb2 ?_
   refine Ra ?_
   obtain rfl := Option.some.inj H
   exact Lq (tn [4] 11)
  ·refine C0 hb2 ?_
   refine Ra ?_
   obtain rfl := Option.some.inj H
   exact Lq (tn [4] 11)
theorem at_ : FnAt P 111 17 c0 f111.results := fnA func111
end i_control_controller_live_1_90e
namespace i_slices_insertionSortCmpFunc_Ver_6b1
noncomputable def c0 : Code := bo f160
noncomputable def V : Env := eV []
theorem V_ok : EnvOk P V := eOk (slk_nil)
variable (x1 x2 x3 x4 x5 x6 x7 x8 x9 x10 x11 x12 x13 x14 x15 x16 : Int) (x17 : T4414.T) (x18 : List (List (List T1383.T))) (x19 : List Int) (x20 : List T23b6.T) (x21 : List T713d.T) (x22 x23 : List Int) (x24 : T4414.T) (x25 : List T814c.T)
noncomputable def h0 (l : Hl) : Hl := (.box 13, [.nils, .i x3, .i x4, .i x5, .i x6, .i x7, .i x8, .nils, .nils, .nils, .nils, .nils, .i x9]) :: (.box 13, [.own 3, .i x10, .i x11, .i x12, .i x13, .i x14, .i x15, .own 4, .own 5, .own 6, .own 7, .own 8, .i x16]) :: (.box 10, (encC .any T4414 x17)) :: (.buf 38 (.slice (.slice T1383)) x18, []) :: (.buf 3 (.int .i64) x19, []) :: (.buf 58 T23b6 x20, []) :: (.buf 93 T713d x21, []) :: (.buf 3 (.int .i64) x22, []) :: (.buf 3 (.int .i64) x23, []) :: (.box 10, (encC .any T4414 x24)) :: l
abbrev R := (List T814c.T) × Unit
noncomputable def s0 : St := ⟨53, [(0, .cv (.one (.own 10))), (1, .cv (.one (.i x1))), (2, .cv (.one (.i x2))), (3, .cv (.one (.fn 111 [] [])))], (h0 x3 x4 x5 x6 x7 x8 x9 x10 x11 x12 x13 x14 x15 x16 x17 x18 x19 x20 x21 x22 x23 x24 [(.buf 100 T814c x25, [])])⟩
noncomputable def out (r : R) : St := ⟨53, [], (h0 x3 x4 x5 x6 x7 x8 x9 x10 x11 x12 x13 x14 x15 x16 x17 x18 x19 x20 x21 x22 x23 x24 [(.buf 100 T814c r.1, [])])⟩
abbrev Q (r : R) := CallQ 11 (out x3 x4 x5 x6 x7 x8 x9 x10 x11 x12 x13 x14 x15 x16 x17 x18 x19 x20 x21 x22 x23 x24 r)
noncomputable def s1 (p3 : Int) (p26 : List T814c.T) : St := ⟨53, [(0, .cv (.one (.own 10))), (1, .cv (.one (.i x1))), (2, .cv (.one (.i x2))), (3, .cv (.one (.fn 111 [] []))), (8, .cv (.one (.i p3)))], (h0 x3 x4 x5 x6 x7 x8 x9 x10 x11 x12 x13 x14 x15 x16 x17 x18 x19 x20 x21 x22 x23 x24 [(.buf 100 T814c p26, [])])⟩
noncomputable def s2 (p3 p4 : Int) (p27 : List T814c.T) : St := ⟨53, [(0, .cv (.one (.own 10))), (1, .cv (.one (.i x1))), (2, .cv (.one (.i x2))), (3, .cv (.one (.fn 111 [] []))), (8, .cv (.one (.i p3))), (9, .cv (.one (.i p4)))], (h0 x3 x4 x5 x6 x7 x8 x9 x10 x11 x12 x13 x14 x15 x16 x17 x18 x19 x20 x21 x22 x23 x24 [(.buf 100 T814c p27, [])])⟩
noncomputable def s3 (p3 p4 : Int) (p5 : Bool) (p28 : List T814c.T) : St := ⟨53, [(0, .cv (.one (.own 10))), (1, .cv (.one (.i x1))), (2, .cv (.one (.i x2))), (3, .cv (.one (.fn 111 [] []))), (8, .cv (.one (.i p3))), (9, .cv (.one (.i p4))), (34, .cv (.one (.bool p5)))], (h0 x3 x4 x5 x6 x7 x8 x9 x10 x11 x12 x13 x14 x15 x16 x17 x18 x19 x20 x21 x22 x23 x24 [(.buf 100 T814c p28, [])])⟩
noncomputable def j3 (x1 x2 x3 x4 x5 x6 x7 x8 x9 x10 x11 x12 x13 x14 x15 x16 : Int) (x17 : T4414.T) (x18 : List (List (List T1383.T))) (x19 : List Int) (x20 : List T23b6.T) (x21 : List T713d.T) (x22 x23 : List Int) (x24 : T4414.T) (L1 : Int → List T814c.T → Option R) (L2 : Int → Int → List T814c.T → Option R) (k : Nat) (p3 p4 : Int) (p5 : Bool) (p28 : List T814c.T) : Option R :=
 if p5 = true then
 if 0 ≤ (IntKind.i64.wrap (p4 - 1)) then
  if (IntKind.i64.wrap (p4 - 1)) < (p28.length : Int) then
   if 0 ≤ p4 then
    if p4 < (p28.length : Int) then
     if (IntKind.i64.wrap (p4 - 1)) < ((p28.set p4.toNat (att T814c p28 (IntKind.i64.wrap (p4 - 1)))).length : Int) then
      L2 p3 (IntKind.i64.wrap (p4 - 1)) ((p28.set p4.toNat (att T814c p28 (IntKind.i64.wrap (p4 - 1)))).set (IntKind.i64.wrap (p4 - 1)).toNat (att T814c p28 p4))
     else none
    else none
   else none
  else none
 else none
else
 L1 (IntKind.i64.wrap (p3 + 1)) p28
theorem j3_ok {r x1 x2 x3 x4 x5 x6 x7 x8 x9 x10 x11 x12 x13 x14 x15 x16 x17 x18 x19 x20 x21 x22 x23 x24} {L1 : Int → List T814c.T → Option R} {m1 : Nat} (hL1 : ∀ p3 p26, L1 p3 p26 = some r → Gw P 11 (Q x3 x4 x5 x6 x7 x8 x9 x10 x11 x12 x13 x14 x15 x16 x17 x18 x19 x20 x21 x22 x23 x24 r) (Pb c0 5 [] m1) (s1 x1 x2 x3 x4 x5 x6 x7 x8 x9 x10 x11 x12 x13 x14 x15 x16 x17 x18 x19 x20 x21 x22 x23 x24 p3 p26)) {L2 : Int → Int → List T814c.T → Option R} {m2 : Nat} (hL2 : ∀ p3 p4 p27, L2 p3 p4 p27 = some r → Gw P 11 (Q x3 x4 x5 x6 x7 x8 x9 x10 x11 x12 x13 x14 x15 x16 x17 x18 x19 x20 x21 x22 x23 x24 r) (Pb c0 329 [m1] m2) (s2 x1 x2 x3 x4 x5 x6 x7 x8 x9 x10 x11 x12 x13 x14 x15 x16 x17 x18 x19 x20 x21 x22 x23 x24 p3 p4 p27)) {k p3 p4 p5 p28} (H : j3 x1 x2 x3 x4 x5 x6 x7 x8 x9 x10 x11 x12 x13 x14 x15 x16 x17 x18 x19 x20 x21 x22 x23 x24 L1 L2 k p3 p4 p5 p28 = some r) : Gw P 11 (Q x3 x4 x5 x6 x7 x8 x9 x10 x11 x12 x13 x14 x15 x16 x17 x18 x19 x20 x21 x22 x23 x24 r) (Px c0 3145 [m1, m2]) (s3 x1 x2 x3 x4 x5 x6 x7 x8 x9 x10 x11 x12 x13 x14 x15 x16 x17 x18 x19 x20 x21 x22 x23 x24 p3 p4 p5 p28) := by
 unfold j3 at H
 rcases of_ite H with ⟨hb9, H⟩ | ⟨hb9, H⟩
 ·refine C1 hb9 ?_
  obtain ⟨n10, H⟩ := of_if H
  obtain ⟨n11, H⟩ := of_if H
  obtain ⟨n12, H⟩ := of_if H
  obtain ⟨n13, H⟩ := of_if H
  obtain ⟨n14, H⟩ := of_if H
  refine Rg V_ok 0 [] (ac n10 (ac n11 (ac n12 (ac n13 (ac n12 (ac n13 (ac n10 (ac n14 az)))))))) ?_
  refine Ra ?_
  exact Jm (tn [0, 1, 2, 3, 8, 9] 11) (hL2 p3 (IntKind.i64.wrap (p4 - 1)) ((p28.set p4.toNat (att T814c p28 (IntKind.i64.wrap (p4 - 1)))).set (IntKind.i64.wrap (p4 - 1)).toNat (att T814c p28 p4)) H)
 ·refine C0 hb9 ?_
  refine Ra ?_
  exact Jm (tn [0, 1, 2, 3, 8] 11) (hL1 (IntKind.i64.wrap (p3 + 1)) p28 H)
noncomputable def b2 (L1 : Int → List T814c.T → Option R) (L2 : Int → Int → List T814c.T → Option R) (k : Nat) (p3 p4 : Int) (p27 : List T814c.T) : Option R :=
 if (decide (p4 > x1)) = true then
 if 0 ≤ p4 then
  if p4 < (p27.length : Int) then
   if 0 ≤ (IntKind.i64.wrap (p4 - 1)) then
    if (IntKind.i64.wrap (p4 - 1)) < (p27.length : Int) then
     (i_control_controller_live_1_90e.f k (att T814c p27 p4) (att T814c p27 (IntKind.i64.wrap (p4 - 1))) x3 x4 x5 x6 x7 x8 x9 x10 x11 x12 x13 x14 x15 x16 x17 x18 x19 x20 x21 x22 x23 x24 p27).bind fun y7 =>
      j3 x1 x2 x3 x4 x5 x6 x7 x8 x9 x10 x11 x12 x13 x14 x15 x16 x17 x18 x19 x20 x21 x22 x23 x24 L1 L2 k p3 p4 (decide (y7.1 < (0 : Int))) p27
    else none
   else none
  else none
 else none
else
 j3 x1 x2 x3 x4 x5 x6 x7 x8 x9 x10 x11 x12 x13 x14 x15 x16 x17 x18 x19 x20 x21 x22 x23 x24 L1 L2 k p3 p4 false p27
theorem b2_ok {r x1 x2 x3 x4 x5 x6 x7 x8 x9 x10 x11 x12 x13 x14 x15 x16 x17 x18 x19 x20 x21 x22 x23 x24} {L1 : Int → List T814c.T → Option R} {m1 : Nat} (hL1 : ∀ p3 p26, L1 p3 p26 = some r → Gw P 11 (Q x3 x4 x5 x6 x7 x8 x9 x10 x11 x12 x13 x14 x15 x16 x17 x18 x19 x20 x21 x22 x23 x24 r) (Pb c0 5 [] m1) (s1 x1 x2 x3 x4 x5 x6 x7 x8 x9 x10 x11 x12 x13 x14 x15 x16 x17 x18 x19 x20 x21 x22 x23 x24 p3 p26)) {L2 : Int → Int → List T814c.T → Option R} {m2 : Nat} (hL2 : ∀ p3 p4 p27, L2 p3 p4 p27 = some r → Gw P 11 (Q x3 x4 x5 x6 x7 x8 x9 x10 x11 x12 x13 x14 x15 x16 x17 x18 x19 x20 x21 x22 x23 x24 r) (Pb c0 329 [m1] m2) (s2 x1 x2 x3 x4 x5 x6 x7 x8 x9 x10 x11 x12 x13 x14 x15 x16 x17 x18 x19 x20 x21 x22 x23 x24 p3 p4 p27)) {k p3 p4 p27} (H : b2 x1 x2 x3 x4 x5 x6 x7 x8 x9 x10 x11 x12 x13 x14 x15 x16 x17 x18 x19 x20 x21 x22 x23 x24 L1 L2 k p3 p4 p27 = some r) : Gw P 11 (Q x3 x4 x5 x6 x7 x8 x9 x10 x11 x12 x13 x14 x15 x16 x17 x18 x19 x20 x21 x22 x23 x24 r) (Px c0 585 [m1, m2]) (s2 x1 x2 x3 x4 x5 x6 x7 x8 x9 x10 x11 x12 x13 x14 x15 x16 x17 x18 x19 x20 x21 x22 x23 x24 p3 p4 p27) := by
 unfold b2 at H
 rcases of_ite H with ⟨hb2, H⟩ | ⟨hb2, H⟩
 ·obtain ⟨n3, H⟩ := of_if H
  obtain ⟨n4, H⟩ := of_if H
  obtain ⟨n5, H⟩ := of_if H
  obtain ⟨n6, H⟩ := of_if H
  obtain ⟨y7, e8, H⟩ := of_bind H
  let x : Nx := (Px c0 2121 [m1, m2])
  let t0 : St := ⟨53, [(0, .cv (.one (.own 10))), (1, .cv (.one (.i x1))), (2, .cv (.one (.i x2))), (3, .cv (.one (.fn 111 [] []))), (8, .cv (.one (.i p3))), (9, .cv (.one (.i p4)))], (h0 x3 x4 x5 x6 x7 x8 x9 x10 x11 x12 x13 x14 x15 x16 x17 x18 x19 x20 x21 x22 x23 x24 [(.buf 100 T814c p27, [])])⟩
  refine Jm (x' := x) (τ := t0) (tn [0, 1, 2, 3, 8, 9] 11) ?_
  let Φ := phiX P 11 (Q x3 x4 x5 x6 x7 x8 x9 x10 x11 x12 x13 x14 x15 x16 x17 x18 x19 x20 x21 x22 x23 x24 r) x
  let o := fun (k m : Nat) (t : St) => WA P 11 (opsX x) k (bs 17 m) Φ t
  let t1 : St := stpS V x 0 [] 0 (tn [0, 1, 2, 3, 8, 9, 18] 11) t0
  let t2 : St := stpS V x 0 [] 1 (tn [0, 1, 2, 3, 8, 9, 18, 19] 11) t1
  let t3 : St := stpS V x 0 [] 2 (tn [0, 1, 2, 3, 8, 9, 20] 11) t2
  let t4 : St := stpS V x 0 [(3, {bv := some true})] 3 (tn [0, 1, 2, 3, 8, 9, 21] 11) t3
  let t5 : St := stpS V x 0 [] 4 (tn [0, 1, 2, 3, 8, 9, 21, 22] 11) t4
  let t6 : St := stpS V x 0 [] 5 (tn [0, 1, 2, 3, 8, 9, 21, 22, 23] 11) t5
  let t7 : St := stpS V x 0 [] 6 (tn [0, 1, 2, 3, 8, 9, 21, 22, 23, 24] 11) t6
  let t8 : St := stpS V x 0 [] 9 (tn [0, 1, 2, 3, 8, 9, 21, 22, 23, 24, 27] 11) t7
  let t9 : St := stpS V x 0 [] 10 (tn [0, 1, 2, 3, 8, 9, 21, 22, 23, 24, 27, 28] 11) t8
  let t10 : St := stpS V x 0 [] 7 (tn [0, 1, 2, 3, 8, 9, 21, 22, 25, 27, 28] 11) t9
  let t11 : St := stpS V x 0 [] 11 (tn [0, 1, 2, 3, 8, 9, 21, 22, 23, 24, 27, 29] 11) t9
  let t12 : St := stpS V x 0 [] 8 (tn [0, 1, 2, 3, 8, 9, 21, 22, 26, 27, 28] 11) t10
  let t13 : St := stpS V x 0 [] 11 (tn [0, 1, 2, 3, 8, 9, 21, 22, 25, 27, 29] 11) t10
  let t14 : St := stpS V x 0 [] 12 (tn [0, 1, 2, 3, 8, 9, 21, 22, 23, 24, 30] 11) t11
  let t15 : St := stpS V x 0 [] 11 (tn [0, 1, 2, 3, 8, 9, 21, 22, 26, 27, 29] 11) t12
  let t16 : St := stpS V x 0 [] 12 (tn [0, 1, 2, 3, 8, 9, 21, 22, 25, 30] 11) t13
  let t17 : St := stpS V x 0 [] 13 (tn [0, 1, 2, 3, 8, 9, 21, 22, 23, 24, 31] 11) t14
  let t18 : St := stpS V x 0 [] 12 (tn [0, 1, 2, 3, 8, 9, 21, 22, 26, 30] 11) t15
  let t19 : St := stpS V x 0 [] 13 (tn [0, 1, 2, 3, 8, 9, 21, 22, 25, 31] 11) t16
  let t20 : St := stpS V x 0 [] 13 (tn [0, 1, 2, 3, 8, 9, 21, 22, 26, 31] 11) t18
  let u0 : St := i_control_controller_live_1_90e.out x3 x4 x5 x6 x7 x8 x9 x10 x11 x12 x13 x14 x15 x16 x17 x18 x19 x20 x21 x22 x23 x24 p27 y7
  let t21 : St := clT V.tt x 14 f111.results (tn [0, 1, 2, 3, 8, 9, 21, 32] 11) t20 u0
  let t22 : St := stpS V x 0 [] 15 (tn [0, 1, 2, 3, 8, 9, 21, 33] 11) t21
  let t23 : St := stpS V x 0 [] 16 (tn [0, 1, 2, 3, 8, 9, 34] 11) t22
  have w23 : o 0 131071 t23 := by
   refine WA_nil (by kernel_rfl) (RAn (by kernel_rfl) ?_)
   exact Jm (tn [0, 1, 2, 3, 8, 9, 34] 11) (j3_ok hL1 hL2 H)
  have w22 : o 1 65535 t22 := WAs (an (We az w23) aN)
  have w21 : o 2 32767 t21 := WAs (an (We az w22) aN)
  have w20 : o 3 16383 t20 := WAs (an (Wc V_ok i_control_controller_live_1_90e.at_ (of_G (i_control_controller_live_1_90e.f_ok e8)) w21) aN)
  have w19 : o 4 16127 t19 := WAs (an (WE V_ok 0 [] 8 (tn [0, 1, 2, 3, 8, 9, 21, 22, 26, 31] 11) az w20) aN)
  have w18 : o 4 8191 t18 := WAs (an (We az w20) aN)
  have w17 : o 5 15999 t17 := WAs (an (WE V_ok 0 [] 7 (tn [0, 1, 2, 3, 8, 9, 21, 22, 25, 31] 11) (ac n3 (ac n4 az)) w19) aN)
  have w16 : o 5 7935 t16 := WAs (an (WE V_ok 0 [] 8 (tn [0, 1, 2, 3, 8, 9, 21, 22, 26, 30] 11) az w18) (an (We az w19) aN))
  have w15 : o 5 4095 t15 := WAs (an (We (ac n5 (ac n6 az)) w18) aN)
  have w14 : o 6 7807 t14 := WAs (an (WE V_ok 0 [] 7 (tn [0, 1, 2, 3, 8, 9, 21, 22, 25, 30] 11) (ac n3 (ac n4 az)) w16) (an (We az w17) aN))
  have w13 : o 6 3839 t13 := WAs (an (WE V_ok 0 [] 8 (tn [0, 1, 2, 3, 8, 9, 21, 22, 26, 27, 29] 11) az w15) (an (We (ac n5 (ac n6 az)) w16) aN))
  have w12 : o 6 2047 t12 := WAs (an (We az w15) aN)
  have w11 : o 7 3711 t11 := WAs (an (WE V_ok 0 [] 7 (tn [0, 1, 2, 3, 8, 9, 21, 22, 25, 27, 29] 11) (ac n3 (ac n4 az)) w13) (an (We (ac n5 (ac n6 az)) w14) aN))
  have w10 : o 7 1791 t10 := WAs (an (We az w12) (an (We az w13) aN))
  have w9 : o 8 1663 t9 := WAs (an (We (ac n3 (ac n4 az)) w10) (an (We az w11) aN))
  have w8 : o 9 639 t8 := Wt az w9
  have w7 : o 10 127 t7 := Wt az w8
  have w6 : o 11 63 t6 := Wt az w7
  have w5 : o 12 31 t5 := Wt az w6
  have w4 : o 13 15 t4 := Wt az w5
  have w3 : o 14 7 t3 := Wt (ac hb2 az) w4
  have w2 : o 15 3 t2 := WAs (an (We az w3) aN)
  have w1 : o 16 1 t1 := Wt az w2
  have w0 : o 17 0 t0 := Wt az w1
  exact RA V_ok 17 (by kernel_rfl) (by kernel_rfl) (by kernel_rfl) w0
 ·let x : Nx := (Px c0 2121 [m1, m2])
  let t0 : St := ⟨53, [(0, .cv (.one (.own 10))), (1, .cv (.one (.i x1))), (2, .cv (.one (.i x2))), (3, .cv (.one (.fn 111 [] []))), (8, .cv (.one (.i p3))), (9, .cv (.one (.i p4)))], (h0 x3 x4 x5 x6 x7 x8 x9 x10 x11 x12 x13 x14 x15 x16 x17 x18 x19 x20 x21 x22 x23 x24 [(.buf 100 T814c p27, [])])⟩
  refine Jm (x' := x) (τ := t0) (tn [0, 1, 2, 3, 8, 9] 11) ?_
  let Φ := phiX P 11 (Q x3 x4 x5 x6 x7 x8 x9 x10 x11 x12 x13 x14 x15 x16 x17 x18 x19 x20 x21 x22 x23 x24 r) x
  let o := fun (k m : Nat) (t : St) => WA P 11 (opsX x) k (bs 17 m) Φ t
  let t1 : St := stpS V x 0 [] 0 (tn [0, 1, 2, 3, 8, 9, 18] 11) t0
  let t2 : St := stpS V x 0 [] 1 (tn [0, 1, 2, 3, 8, 9, 18, 19] 11) t1
  let t3 : St := stpS V x 0 [] 2 (tn [0, 1, 2, 3, 8, 9, 20] 11) t2
  let t4 : St := stpS V x 0 [(3, {bv := some false})] 3 (tn [0, 1, 2, 3, 8, 9, 21] 11) t3
  let t5 : St := stpS V x 0 [] 4 (tn [0, 1, 2, 3, 8, 9, 21, 22] 11) t4
  let t6 : St := stpS V x 0 [] 5 (tn [0, 1, 2, 3, 8, 9, 21, 22, 23] 11) t5
  let t7 : St := stpS V x 0 [] 6 (tn [0, 1, 2, 3, 8, 9, 21, 22, 23, 24] 11) t6
  let t8 : St := stpS V x 0 [] 9 (tn [0, 1, 2, 3, 8, 9, 21, 22, 23, 24, 27] 11) t7
  let t9 : St := stpS V x 0 [] 10 (tn [0, 1, 2, 3, 8, 9, 21, 22, 23, 24, 27, 28] 11) t8
  let t10 : St := stpS V x 0 [] 7 (tn [0, 1, 2, 3, 8, 9, 21, 22, 25, 27, 28] 11) t9
  let t11 : St := stpS V x 0 [] 11 (tn [0, 1, 2, 3, 8, 9, 21, 22, 23, 24, 27, 29] 11) t9
  let t12 : St := stpS V x 0 [] 8 (tn [0, 1, 2, 3, 8, 9, 21, 22, 26, 27, 28] 11) t10
  let t13 : St := stpS V x 0 [] 11 (tn [0, 1, 2, 3, 8, 9, 21, 22, 25, 27, 29] 11) t10
  let t14 : St := stpS V x 0 [] 12 (tn [0, 1, 2, 3, 8, 9, 21, 22, 23, 24, 30] 11) t11
  let t15 : St := stpS V x 0 [] 11 (tn [0, 1, 2, 3, 8, 9, 21, 22, 26, 27, 29] 11) t12
  let t16 : St := stpS V x 0 [] 12 (tn [0, 1, 2, 3, 8, 9, 21, 22, 25, 30] 11) t13
  let t17 : St := stpS V x 0 [] 13 (tn [0, 1, 2, 3, 8, 9, 21, 22, 23, 24, 31] 11) t14
  let t18 : St := stpS V x 0 [] 12 (tn [0, 1, 2, 3, 8, 9, 21, 22, 26, 30] 11) t15
  let t19 : St := stpS V x 0 [] 13 (tn [0, 1, 2, 3, 8, 9, 21, 22, 25, 31] 11) t16
  let t20 : St := stpS V x 0 [] 13 (tn [0, 1, 2, 3, 8, 9, 21, 22, 26, 31] 11) t18
  let t21 : St := stpS V x 0 [] 14 (tn [0, 1, 2, 3, 8, 9, 21, 32] 11) t20
  let t22 : St := stpS V x 0 [] 15 (tn [0, 1, 2, 3, 8, 9, 21, 33] 11) t21
  let t23 : St := stpS V x 0 [] 16 (tn [0, 1, 2, 3, 8, 9, 34] 11) t22
  have w23 : o 0 131071 t23 := by
   refine WA_nil (by kernel_rfl) (RAn (by kernel_rfl) ?_)
   exact Jm (tn [0, 1, 2, 3, 8, 9, 34] 11) (j3_ok hL1 hL2 H)
  have w22 : o 1 65535 t22 := WAs (an (We az w23) aN)
  have w21 : o 2 32767 t21 := WAs (an (We az w22) aN)
  have w20 : o 3 16383 t20 := WAs (an (We az w21) aN)
  have w19 : o 4 16127 t19 := WAs (an (WE V_ok 0 [] 8 (tn [0, 1, 2, 3, 8, 9, 21, 22, 26, 31] 11) az w20) aN)
  have w18 : o 4 8191 t18 := WAs (an (We az w20) aN)
  have w17 : o 5 15999 t17 := WAs (an (WE V_ok 0 [] 7 (tn [0, 1, 2, 3, 8, 9, 21, 22, 25, 31] 11) az w19) aN)
  have w16 : o 5 7935 t16 := WAs (an (WE V_ok 0 [] 8 (tn [0, 1, 2, 3, 8, 9, 21, 22, 26, 30] 11) az w18) (an (We az w19) aN))
  have w15 : o 5 4095 t15 := WAs (an (We az w18) aN)
  have w14 : o 6 7807 t14 := WAs (an (WE V_ok 0 [] 7 (tn [0, 1, 2, 3, 8, 9, 21, 22, 25, 30] 11) az w16) (an (We az w17) aN))
  have w13 : o 6 3839 t13 := WAs (an (WE V_ok 0 [] 8 (tn [0, 1, 2, 3, 8, 9, 21, 22, 26, 27, 29] 11) az w15) (an (We az w16) aN))
  have w12 : o 6 2047 t12 := WAs (an (We az w15) aN)
  have w11 : o 7 3711 t11 := WAs (an (WE V_ok 0 [] 7 (tn [0, 1, 2, 3, 8, 9, 21, 22, 25, 27, 29] 11) az w13) (an (We az w14) aN))
  have w10 : o 7 1791 t10 := WAs (an (We az w12) (an (We az w13) aN))
  have w9 : o 8 1663 t9 := WAs (an (We az w10) (an (We az w11) aN))
  have w8 : o 9 639 t8 := Wt az w9
  have w7 : o 10 127 t7 := Wt az w8
  have w6 : o 11 63 t6 := Wt az w7
  have w5 : o 12 31 t5 := Wt az w6
  have w4 : o 13 15 t4 := Wt az w5
  have w3 : o 14 7 t3 := Wt (ac hb2 az) w4
  have w2 : o 15 3 t2 := WAs (an (We az w3) aN)
  have w1 : o 16 1 t1 := Wt az w2
  have w0 : o 17 0 t0 := Wt az w1
  exact RA V_ok 17 (by kernel_rfl) (by kernel_rfl) (by kernel_rfl) w0
noncomputable def l2 (L1 : Int → List T814c.T → Option R) (k : Nat) : Nat → Int → Int → List T814c.T → Option R
 | 0, _, _, _ => none
 | m + 1, p3, p4, p27 => b2 x1 x2 x3 x4 x5 x6 x7 x8 x9 x10 x11 x12 x13 x14 x15 x16 x17 x18 x19 x20 x21 x22 x23 x24 L1 (l2 L1 k m) k p3 p4 p27
theorem l2_ok {r x1 x2 x3 x4 x5 x6 x7 x8 x9 x10 x11 x12 x13 x14 x15 x16 x17 x18 x19 x20 x21 x22 x23 x24} {L1 : Int → List T814c.T → Option R} {m1 : Nat} (hL1 : ∀ p3 p26, L1 p3 p26 = some r → Gw P 11 (Q x3 x4 x5 x6 x7 x8 x9 x10 x11 x12 x13 x14 x15 x16 x17 x18 x19 x20 x21 x22 x23 x24 r) (Pb c0 5 [] m1) (s1 x1 x2 x3 x4 x5 x6 x7 x8 x9 x10 x11 x12 x13 x14 x15 x16 x17 x18 x19 x20 x21 x22 x23 x24 p3 p26)) (k : Nat) : ∀ (m2 : Nat) (p3 p4 : Int) (p27 : List T814c.T), l2 x1 x2 x3 x4 x5 x6 x7 x8 x9 x10 x11 x12 x13 x14 x15 x16 x17 x18 x19 x20 x21 x22 x23 x24 L1 k m2 p3 p4 p27 = some r → Gw P 11 (Q x3 x4 x5 x6 x7 x8 x9 x10 x11 x12 x13 x14 x15 x16 x17 x18 x19 x20 x21 x22 x23 x24 r) (Pb c0 329 [m1] m2) (s2 x1 x2 x3 x4 x5 x6 x7 x8 x9 x10 x11 x12 x13 x14 x15 x16 x17 x18 x19 x20 x21 x22 x23 x24 p3 p4 p27)
 | 0, _, _, _, H => by cases H
 | m2 + 1, p3, p4, p27, H => SU (by kernel_rfl) (b2_ok hL1 (l2_ok hL1 k m2) H)
noncomputable def b1 (L1 : Int → List T814c.T → Option R) (k : Nat) (p3 : Int) (p26 : List T814c.T) : Option R :=
 if (decide (p3 < x2)) = true then
 l2 x1 x2 x3 x4 x5 x6 x7 x8 x9 x10 x11 x12 x13 x14 x15 x16 x17 x18 x19 x20 x21 x22 x23 x24 L1 k k p3 p3 p26
else
 some (p26, ())
theorem b1_ok {r x1 x2 x3 x4 x5 x6 x7 x8 x9 x10 x11 x12 x13 x14 x15 x16 x17 x18 x19 x20 x21 x22 x23 x24} {L1 : Int → List T814c.T → Option R} {m1 : Nat} (hL1 : ∀ p3 p26, L1 p3 p26 = some r → Gw P 11 (Q x3 x4 x5 x6 x7 x8 x9 x10 x11 x12 x13 x14 x15 x16 x17 x18 x19 x20 x21 x22 x23 x24 r) (Pb c0 5 [] m1) (s1 x1 x2 x3 x4 x5 x6 x7 x8 x9 x10 x11 x12 x13 x14 x15 x16 x17 x18 x19 x20 x21 x22 x23 x24 p3 p26)) {k p3 p26} (H : b1 x1 x2 x3 x4 x5 x6 x7 x8 x9 x10 x11 x12 x13 x14 x15 x16 x17 x18 x19 x20 x21 x22 x23 x24 L1 k p3 p26 = some r) : Gw P 11 (Q x3 x4 x5 x6 x7 x8 x9 x10 x11 x12 x13 x14 x15 x16 x17 x18 x19 x20 x21 x22 x23 x24 r) (Px c0 9 [m1]) (s1 x1 x2 x3 x4 x5 x6 x7 x8 x9 x10 x11 x12 x13 x14 x15 x16 x17 x18 x19 x20 x21 x22 x23 x24 p3 p26) := by
 unfold b1 at H
 refine Ra ?_
 rcases of_ite H with ⟨hb1, H⟩ | ⟨hb1, H⟩
 ·refine C1 hb1 ?_
  refine Ra ?_
  exact LP k (Jm (tn [0, 1, 2, 3, 8, 9] 11) (l2_ok hL1 k k p3 p3 p26 H))
 ·refine C0 hb1 ?_
  obtain rfl := Option.some.inj H
  exact Lq (tn [] 11)
noncomputable def l1 (k : Nat) : Nat → Int → List T814c.T → Option R
 | 0, _, _ => none
 | m + 1, p3, p26 => b1 x1 x2 x3 x4 x5 x6 x7 x8 x9 x10 x11 x12 x13 x14 x15 x16 x17 x18 x19 x20 x21 x22 x23 x24 (l1 k m) k p3 p26
theorem l1_ok {r x1 x2 x3 x4 x5 x6 x7 x8 x9 x10 x11 x12 x13 x14 x15 x16 x17 x18 x19 x20 x21 x22 x23 x24} (k : Nat) : ∀ (m1 : Nat) (p3 : Int) (p26 : List T814c.T), l1 x1 x2 x3 x4 x5 x6 x7 x8 x9 x10 x11 x12 x13 x14 x15 x16 x17 x18 x19 x20 x21 x22 x23 x24 k m1 p3 p26 = some r → Gw P 11 (Q x3 x4 x5 x6 x7 x8 x9 x10 x11 x12 x13 x14 x15 x16 x17 x18 x19 x20 x21 x22 x23 x24 r) (Pb c0 5 [] m1) (s1 x1 x2 x3 x4 x5 x6 x7 x8 x9 x10 x11 x12 x13 x14 x15 x16 x17 x18 x19 x20 x21 x22 x23 x24 p3 p26)
 | 0, _, _, H => by cases H
 | m1 + 1, p3, p26, H => SU (by kernel_rfl) (b1_ok (l1_ok k m1) H)
noncomputable def f (k : Nat) (x1 x2 x3 x4 x5 x6 x7 x8 x9 x10 x11 x12 x13 x14 x15 x16 : Int) (x17 : T4414.T) (x18 : List (List (List T1383.T))) (x19 : List Int) (x20 : List T23b6.T) (x21 : List T713d.T) (x22 x23 : List Int) (x24 : T4414.T) (x25 : List T814c.T) : Option R :=
 l1 x1 x2 x3 x4 x5 x6 x7 x8 x9 x10 x11 x12 x13 x14 x15 x16 x17 x18 x19 x20 x21 x22 x23 x24 k k (IntKind.i64.wrap (x1 + 1)) x25
theorem f_ok {r k x1 x2 x3 x4 x5 x6 x7 x8 x9 x10 x11 x12 x13 x14 x15 x16 x17 x18 x19 x20 x21 x22 x23 x24 x25} (H : f k x1 x2 x3 x4 x5 x6 x7 x8 x9 x10 x11 x12 x13 x14 x15 x16 x17 x18 x19 x20 x21 x22 x23 x24 x25 = some r) : Gw P 11 (Q x3 x4 x5 x6 x7 x8 x9 x10 x11 x12 x13 x14 x15 x16 x17 x18 x19 x20 x21 x22 x23 x24 r) (Px c0 1 []) (s0 x1 x2 x3 x4 x5 x6 x7 x8 x9 x10 x11 x12 x13 x14 x15 x16 x17 x18 x19 x20 x21 x22 x23 x24 x25) := by
 unfold f at H
 refine Ra ?_
 exact LP k (Jm (tn [0, 1, 2, 3, 8] 11) (l1_ok k k (IntKind.i64.wrap (x1 + 1)) x25 H))
theorem at_ : FnAt P 160 53 c0 f160.results := fnA func160
end i_slices_insertionSortCmpFunc_Ver_6b1
namespace i_slices_stableCmpFunc_Ver_dbc
noncomputable def c0 : Code := bo f149
noncomputable def V : Env := eV []
theorem V_ok : EnvOk P V := eOk (slk_nil)
variable (x1 x2 x3 x4 x5 x6 x7 x8 x9 x10 x11 x12 x13 x14 x15 : Int) (x16 : T4414.T) (x17 : List (List (List T1383.T))) (x18 : List Int) (x19 : List T23b6.T) (x20 : List T713d.T) (x21 x22 : List Int) (x23 : T4414.T) (x24 : List T814c.T)
noncomputable def h0 (l : Hl) : Hl := (.box 13, [.nils, .i x2, .i x3, .i x4, .i x5, .i x6, .i x7, .nils, .nils, .nils, .nils, .nils, .i x8]) :: (.box 13, [.own 3, .i x9, .i x10, .i x11, .i x12, .i x13, .i x14, .own 4, .own 5, .own 6, .own 7, .own 8, .i x15]) :: (.box 10, (encC .any T4414 x16)) :: (.buf 38 (.slice (.slice T1383)) x17, []) :: (.buf 3 (.int .i64) x18, []) :: (.buf 58 T23b6 x19, []) :: (.buf 93 T713d x20, []) :: (.buf 3 (.int .i64) x21, []) :: (.buf 3 (.int .i64) x22, []) :: (.box 10, (encC .any T4414 x23)) :: l
abbrev R := (List T814c.T) × Unit
noncomputable def s0 : St := ⟨63, [(0, .cv (.one (.own 10))), (1, .cv (.one (.i x1))), (2, .cv (.one (.fn 111 [] [])))], (h0 x2 x3 x4 x5 x6 x7 x8 x9 x10 x11 x12 x13 x14 x15 x16 x17 x18 x19 x20 x21 x22 x23 [(.buf 100 T814c x24, [])])⟩
noncomputable def out (r : R) : St := ⟨63, [], (h0 x2 x3 x4 x5 x6 x7 x8 x9 x10 x11 x12 x13 x14 x15 x16 x17 x18 x19 x20 x21 x22 x23 [(.buf 100 T814c r.1, [])])⟩
abbrev Q (r : R) := CallQ 11 (out x2 x3 x4 x5 x6 x7 x8 x9 x10 x11 x12 x13 x14 x15 x16 x17 x18 x19 x20 x21 x22 x23 r)
noncomputable def s1 (p2 p3 p4 : Int) (p27 : List T814c.T) : St := ⟨63, [(0, .cv (.one (.own 10))), (1, .cv (.one (.i x1))), (2, .cv (.one (.fn 111 [] []))), (6, .cv (.one (.i p2))), (7, .cv (.one (.i p3))), (8, .cv (.one (.i p4)))], (h0 x2 x3 x4 x5 x6 x7 x8 x9 x10 x11 x12 x13 x14 x15 x16 x17 x18 x19 x20 x21 x22 x23 [(.buf 100 T814c p27, [])])⟩
noncomputable def s2 (p2 : Int) (p25 : List T814c.T) : St := ⟨63, [(0, .cv (.one (.own 10))), (1, .cv (.one (.i x1))), (2, .cv (.one (.fn 111 [] []))), (6, .cv (.one (.i p2)))], (h0 x2 x3 x4 x5 x6 x7 x8 x9 x10 x11 x12 x13 x14 x15 x16 x17 x18 x19 x20 x21 x22 x23 [(.buf 100 T814c p25, [])])⟩
noncomputable def s3 (p2 p3 p4 : Int) (p27 : List T814c.T) : St := ⟨63, [(0, .cv (.one (.own 10))), (1, .cv (.one (.i x1))), (2, .cv (.one (.fn 111 [] []))), (6, .cv (.one (.i p2))), (7, .cv (.one (.i p3))), (8, .cv (.one (.i p4)))], (h0 x2 x3 x4 x5 x6 x7 x8 x9 x10 x11 x12 x13 x14 x15 x16 x17 x18 x19 x20 x21 x22 x23 [(.buf 100 T814c p27, [])])⟩
noncomputable def b3 (x1 x2 x3 x4 x5 x6 x7 x8 x9 x10 x11 x12 x13 x14 x15 : Int) (x16 : T4414.T) (x17 : List (List (List T1383.T))) (x18 : List Int) (x19 : List T23b6.T) (x20 : List T713d.T) (x21 x22 : List Int) (x23 : T4414.T) (L2 : Int → List T814c.T → Option R) (L3 : Int → Int → Int → List T814c.T → Option R) (k : Nat) (p2 p3 p4 : Int) (p27 : List T814c.T) : Option R :=
 if (decide (p4 ≤ x1)) = true then
 none
else
 if (decide ((IntKind.i64.wrap (p3 + p2)) < x1)) = true then
  none
 else
  L2 (IntKind.i64.wrap (p2 * 2)) p27
theorem b3_ok {r x1 x2 x3 x4 x5 x6 x7 x8 x9 x10 x11 x12 x13 x14 x15 x16 x17 x18 x19 x20 x21 x22 x23} {L2 : Int → List T814c.T → Option R} {m2 : Nat} (hL2 : ∀ p2 p25, L2 p2 p25 = some r → Gw P 11 (Q x2 x3 x4 x5 x6 x7 x8 x9 x10 x11 x12 x13 x14 x15 x16 x17 x18 x19 x20 x21 x22 x23 r) (Pb c0 47 [] m2) (s2 x1 x2 x3 x4 x5 x6 x7 x8 x9 x10 x11 x12 x13 x14 x15 x16 x17 x18 x19 x20 x21 x22 x23 p2 p25)) {L3 : Int → Int → Int → List T814c.T → Option R} {m3 : Nat} (hL3 : ∀ p2 p3 p4 p27, L3 p2 p3 p4 p27 = some r → Gw P 11 (Q x2 x3 x4 x5 x6 x7 x8 x9 x10 x11 x12 x13 x14 x15 x16 x17 x18 x19 x20 x21 x22 x23 r) (Pb c0 2383 [m2] m3) (s3 x1 x2 x3 x4 x5 x6 x7 x8 x9 x10 x11 x12 x13 x14 x15 x16 x17 x18 x19 x20 x21 x22 x23 p2 p3 p4 p27)) {k p2 p3 p4 p27} (H : b3 x1 x2 x3 x4 x5 x6 x7 x8 x9 x10 x11 x12 x13 x14 x15 x16 x17 x18 x19 x20 x21 x22 x23 L2 L3 k p2 p3 p4 p27 = some r) : Gw P 11 (Q x2 x3 x4 x5 x6 x7 x8 x9 x10 x11 x12 x13 x14 x15 x16 x17 x18 x19 x20 x21 x22 x23 r) (Px c0 4431 [m2, m3]) (s3 x1 x2 x3 x4 x5 x6 x7 x8 x9 x10 x11 x12 x13 x14 x15 x16 x17 x18 x19 x20 x21 x22 x23 p2 p3 p4 p27) := by
 unfold b3 at H
 refine Ra ?_
 rcases of_ite H with ⟨hb7, H⟩ | ⟨hb7, H⟩
 ·refine C1 hb7 ?_
  cases H
 ·refine C0 hb7 ?_
  refine Ra ?_
  refine Ra ?_
  rcases of_ite H with ⟨hb8, H⟩ | ⟨hb8, H⟩
  ·refine C1 hb8 ?_
   cases H
  ·refine C0 hb8 ?_
   refine Ra ?_
   exact Jm (tn [0, 1, 2, 6] 11) (hL2 (IntKind.i64.wrap (p2 * 2)) p27 H)
noncomputable def l3 (L2 : Int → List T814c.T → Option R) (k : Nat) : Nat → Int → Int → Int → List T814c.T → Option R
 | 0, _, _, _, _ => none
 | m + 1, p2, p3, p4, p27 => b3 x1 x2 x3 x4 x5 x6 x7 x8 x9 x10 x11 x12 x13 x14 x15 x16 x17 x18 x19 x20 x21 x22 x23 L2 (l3 L2 k m) k p2 p3 p4 p27
theorem l3_ok {r x1 x2 x3 x4 x5 x6 x7 x8 x9 x10 x11 x12 x13 x14 x15 x16 x17 x18 x19 x20 x21 x22 x23} {L2 : Int → List T814c.T → Option R} {m2 : Nat} (hL2 : ∀ p2 p25, L2 p2 p25 = some r → Gw P 11 (Q x2 x3 x4 x5 x6 x7 x8 x9 x10 x11 x12 x13 x14 x15 x16 x17 x18 x19 x20 x21 x22 x23 r) (Pb c0 47 [] m2) (s2 x1 x2 x3 x4 x5 x6 x7 x8 x9 x10 x11 x12 x13 x14 x15 x16 x17 x18 x19 x20 x21 x22 x23 p2 p25)) (k : Nat) : ∀ (m3 : Nat) (p2 p3 p4 : Int) (p27 : List T814c.T), l3 x1 x2 x3 x4 x5 x6 x7 x8 x9 x10 x11 x12 x13 x14 x15 x16 x17 x18 x19 x20 x21 x22 x23 L2 k m3 p2 p3 p4 p27 = some r → Gw P 11 (Q x2 x3 x4 x5 x6 x7 x8 x9 x10 x11 x12 x13 x14 x15 x16 x17 x18 x19 x20 x21 x22 x23 r) (Pb c0 2383 [m2] m3) (s3 x1 x2 x3 x4 x5 x6 x7 x8 x9 x10 x11 x12 x13 x14 x15 x16 x17 x18 x19 x20 x21 x22 x23 p2 p3 p4 p27)
 | 0, _, _, _, _, H => by cases H
 | m3 + 1, p2, p3, p4, p27, H => SU (by kernel_rfl) (b3_ok hL2 (l3_ok hL2 k m3) H)
noncomputable def b2 (L2 : Int → List T814c.T → Option R) (k : Nat) (p2 : Int) (p25 : List T814c.T) : Option R :=
 if (decide (p2 < x1)) = true then
 l3 x1 x2 x3 x4 x5 x6 x7 x8 x9 x10 x11 x12 x13 x14 x15 x16 x17 x18 x19 x20 x21 x22 x23 L2 k k p2 0 (IntKind.i64.wrap (2 * p2)) p25
else
 some (p25, ())
theorem b2_ok {r x1 x2 x3 x4 x5 x6 x7 x8 x9 x10 x11 x12 x13 x14 x15 x16 x17 x18 x19 x20 x21 x22 x23} {L2 : Int → List T814c.T → Option R} {m2 : Nat} (hL2 : ∀ p2 p25, L2 p2 p25 = some r → Gw P 11 (Q x2 x3 x4 x5 x6 x7 x8 x9 x10 x11 x12 x13 x14 x15 x16 x17 x18 x19 x20 x21 x22 x23 r) (Pb c0 47 [] m2) (s2 x1 x2 x3 x4 x5 x6 x7 x8 x9 x10 x11 x12 x13 x14 x15 x16 x17 x18 x19 x20 x21 x22 x23 p2 p25)) {k p2 p25} (H : b2 x1 x2 x3 x4 x5 x6 x7 x8 x9 x10 x11 x12 x13 x14 x15 x16 x17 x18 x19 x20 x21 x22 x23 L2 k p2 p25 = some r) : Gw P 11 (Q x2 x3 x4 x5 x6 x7 x8 x9 x10 x11 x12 x13 x14 x15 x16 x17 x18 x19 x20 x21 x22 x23 r) (Px c0 79 [m2]) (s2 x1 x2 x3 x4 x5 x6 x7 x8 x9 x10 x11 x12 x13 x14 x15 x16 x17 x18 x19 x20 x21 x22 x23 p2 p25) := by
 unfold b2 at H
 refine Ra ?_
 rcases of_ite H with ⟨hb6, H⟩ | ⟨hb6, H⟩
 ·refine C1 hb6 ?_
  refine Ra ?_
  exact LP k (Jm (tn [0, 1, 2, 6, 7, 8] 11) (l3_ok hL2 k k p2 0 (IntKind.i64.wrap (2 * p2)) p25 H))
 ·refine C0 hb6 ?_
  obtain rfl := Option.some.inj H
  exact Lq (tn [] 11)
noncomputable def l2 (k : Nat) : Nat → Int → List T814c.T → Option R
 | 0, _, _ => none
 | m + 1, p2, p25 => b2 x1 x2 x3 x4 x5 x6 x7 x8 x9 x10 x11 x12 x13 x14 x15 x16 x17 x18 x19 x20 x21 x22 x23 (l2 k m) k p2 p25
theorem l2_ok {r x1 x2 x3 x4 x5 x6 x7 x8 x9 x10 x11 x12 x13 x14 x15 x16 x17 x18 x19 x20 x21 x22 x23} (k : Nat) : ∀ (m2 : Nat) (p2 : Int) (p25 : List T814c.T), l2 x1 x2 x3 x4 x5 x6 x7 x8 x9 x10 x11 x12 x13 x14 x15 x16 x17 x18 x19 x20 x21 x22 x23 k m2 p2 p25 = some r → Gw P 11 (Q x2 x3 x4 x5 x6 x7 x8 x9 x10 x11 x12 x13 x14 x15 x16 x17 x18 x19 x20 x21 x22 x23 r) (Pb c0 47 [] m2) (s2 x1 x2 x3 x4 x5 x6 x7 x8 x9 x10 x11 x12 x13 x14 x15 x16 x17 x18 x19 x20 x21 x22 x23 p2 p25)
 | 0, _, _, H => by cases H
 | m2 + 1, p2, p25, H => SU (by kernel_rfl) (b2_ok (l2_ok k m2) H)
noncomputable def b1 (L1 : Int → Int → Int → List T814c.T → Option R) (k : Nat) (p2 p3 p4 : Int) (p27 : List T814c.T) : Option R :=
 if (decide (p4 ≤ x1)) = true then
 (i_slices_insertionSortCmpFunc_Ver_6b1.f k p3 p4 x2 x3 x4 x5 x6 x7 x8 x9 x10 x11 x12 x13 x14 x15 x16 x17 x18 x19 x20 x21 x22 x23 p27).bind fun y2 =>
  L1 p2 p4 (IntKind.i64.wrap (p4 + p2)) y2.1
else
 (i_slices_insertionSortCmpFunc_Ver_6b1.f k p3 x1 x2 x3 x4 x5 x6 x7 x8 x9 x10 x11 x12 x13 x14 x15 x16 x17 x18 x19 x20 x21 x22 x23 p27).bind fun y4 =>
  l2 x1 x2 x3 x4 x5 x6 x7 x8 x9 x10 x11 x12 x13 x14 x15 x16 x17 x18 x19 x20 x21 x22 x23 k k p2 y4.1
theorem b1_ok {r x1 x2 x3 x4 x5 x6 x7 x8 x9 x10 x11 x12 x13 x14 x15 x16 x17 x18 x19 x20 x21 x22 x23} {L1 : Int → Int → Int → List T814c.T → Option R} {m1 : Nat} (hL1 : ∀ p2 p3 p4 p27, L1 p2 p3 p4 p27 = some r → Gw P 11 (Q x2 x3 x4 x5 x6 x7 x8 x9 x10 x11 x12 x13 x14 x15 x16 x17 x18 x19 x20 x21 x22 x23 r) (Pb c0 19 [] m1) (s1 x1 x2 x3 x4 x5 x6 x7 x8 x9 x10 x11 x12 x13 x14 x15 x16 x17 x18 x19 x20 x21 x22 x23 p2 p3 p4 p27)) {k p2 p3 p4 p27} (H : b1 x1 x2 x3 x4 x5 x6 x7 x8 x9 x10 x11 x12 x13 x14 x15 x16 x17 x18 x19 x20 x21 x22 x23 L1 k p2 p3 p4 p27 = some r) : Gw P 11 (Q x2 x3 x4 x5 x6 x7 x8 x9 x10 x11 x12 x13 x14 x15 x16 x17 x18 x19 x20 x21 x22 x23 r) (Px c0 35 [m1]) (s1 x1 x2 x3 x4 x5 x6 x7 x8 x9 x10 x11 x12 x13 x14 x15 x16 x17 x18 x19 x20 x21 x22 x23 p2 p3 p4 p27) := by
 unfold b1 at H
 refine Ra ?_
 rcases of_ite H with ⟨hb1, H⟩ | ⟨hb1, H⟩
 ·refine C1 hb1 ?_
  refine GT (tn [0, 1, 2, 6, 7, 8] 11) (RI ?_)
  refine EV V_ok 0 [] 4 az ?_
  obtain ⟨y2, e3, H⟩ := of_bind H
  refine CL V_ok i_slices_insertionSortCmpFunc_Ver_6b1.at_ (of_G (i_slices_insertionSortCmpFunc_Ver_6b1.f_ok e3)) ?_
  refine RN ?_
  refine Ra ?_
  refine Ra ?_
  exact Jm (tn [0, 1, 2, 6, 7, 8] 11) (hL1 p2 p4 (IntKind.i64.wrap (p4 + p2)) y2.1 H)
 ·refine C0 hb1 ?_
  refine GT (tn [0, 1, 2, 6, 7] 11) (RI ?_)
  refine EV V_ok 0 [] 4 az ?_
  obtain ⟨y4, e5, H⟩ := of_bind H
  refine CL V_ok i_slices_insertionSortCmpFunc_Ver_6b1.at_ (of_G (i_slices_insertionSortCmpFunc_Ver_6b1.f_ok e5)) ?_
  refine RN ?_
  exact LP k (Jm (tn [0, 1, 2, 6] 11) (l2_ok k k p2 y4.1 H))
noncomputable def l1 (k : Nat) : Nat → Int → Int → Int → List T814c.T → Option R
 | 0, _, _, _, _ => none
 | m + 1, p2, p3, p4, p27 => b1 x1 x2 x3 x4 x5 x6 x7 x8 x9 x10 x11 x12 x13 x14 x15 x16 x17 x18 x19 x20 x21 x22 x23 (l1 k m) k p2 p3 p4 p27
theorem l1_ok {r x1 x2 x3 x4 x5 x6 x7 x8 x9 x10 x11 x12 x13 x14 x15 x16 x17 x18 x19 x20 x21 x22 x23} (k : Nat) : ∀ (m1 : Nat) (p2 p3 p4 : Int) (p27 : List T814c.T), l1 x1 x2 x3 x4 x5 x6 x7 x8 x9 x10 x11 x12 x13 x14 x15 x16 x17 x18 x19 x20 x21 x22 x23 k m1 p2 p3 p4 p27 = some r → Gw P 11 (Q x2 x3 x4 x5 x6 x7 x8 x9 x10 x11 x12 x13 x14 x15 x16 x17 x18 x19 x20 x21 x22 x23 r) (Pb c0 19 [] m1) (s1 x1 x2 x3 x4 x5 x6 x7 x8 x9 x10 x11 x12 x13 x14 x15 x16 x17 x18 x19 x20 x21 x22 x23 p2 p3 p4 p27)
 | 0, _, _, _, _, H => by cases H
 | m1 + 1, p2, p3, p4, p27, H => SU (by kernel_rfl) (b1_ok (l1_ok k m1) H)
noncomputable def f (k : Nat) (x1 x2 x3 x4 x5 x6 x7 x8 x9 x10 x11 x12 x13 x14 x15 : Int) (x16 : T4414.T) (x17 : List (List (List T1383.T))) (x18 : List Int) (x19 : List T23b6.T) (x20 : List T713d.T) (x21 x22 : List Int) (x23 : T4414.T) (x24 : List T814c.T) : Option R :=
 l1 x1 x2 x3 x4 x5 x6 x7 x8 x9 x10 x11 x12 x13 x14 x15 x16 x17 x18 x19 x20 x21 x22 x23 k k 20 0 20 x24
theorem f_ok {r k x1 x2 x3 x4 x5 x6 x7 x8 x9 x10 x11 x12 x13 x14 x15 x16 x17 x18 x19 x20 x21 x22 x23 x24} (H : f k x1 x2 x3 x4 x5 x6 x7 x8 x9 x10 x11 x12 x13 x14 x15 x16 x17 x18 x19 x20 x21 x22 x23 x24 = some r) : Gw P 11 (Q x2 x3 x4 x5 x6 x7 x8 x9 x10 x11 x12 x13 x14 x15 x16 x17 x18 x19 x20 x21 x22 x23 r) (Px c0 1 []) (s0 x1 x2 x3 x4 x5 x6 x7 x8 x9 x10 x11 x12 x13 x14 x15 x16 x17 x18 x19 x20 x21 x22 x23 x24) := by
 unfold f at H
 refine Ra ?_
 refine Ra ?_
 exact LP k (Jm (tn [0, 1, 2, 6, 7, 8] 11) (l1_ok k k 20 0 20 x24 H))
theorem at_ : FnAt P 149 63 c0 f149.results := fnA func149
end i_slices_stableCmpFunc_Ver_dbc
namespace i_slices_SortStableFunc_Ver_18c
noncomputable def c0 : Code := bo f110
noncomputable def V : Env := eV []
theorem V_ok : EnvOk P V := eOk (slk_nil)
variable (x1 x2 x3 x4 x5 x6 x7 x8 x9 x10 x11 x12 x13 x14 : Int) (x15 : T4414.T) (x16 : List (List (List T1383.T))) (x17 : List Int) (x18 : List T23b6.T) (x19 : List T713d.T) (x20 x21 : List Int) (x22 : T4414.T) (x23 : List T814c.T)
abbrev R := (List T814c.T) × Unit
noncomputable def s0 : St := ⟨9, [(0, .cv (.one (.own 10))), (1, .cv (.one (.fn 111 [] [])))], [(.box 13, [.nils, .i x1, .i x2, .i x3, .i x4, .i x5, .i x6, .nils, .nils, .nils, .nils, .nils, .i x7]), (.box 13, [.own 3, .i x8, .i x9, .i x10, .i x11, .i x12, .i x13, .own 4, .own 5, .own 6, .own 7, .own 8, .i x14]), (.box 10, (encC .any T4414 x15)), (.buf 38 (.slice (.slice T1383)) x16, []), (.buf 3 (.int .i64) x17, []), (.buf 58 T23b6 x18, []), (.buf 93 T713d x19, []), (.buf 3 (.int .i64) x20, []), (.buf 3 (.int .i64) x21, []), (.box 10, (encC .any T4414 x22)), (.buf 100 T814c x23, [])]⟩
noncomputable def out (r : R) : St := ⟨9, [], [(.box 13, [.nils, .i x1, .i x2, .i x3, .i x4, .i x5, .i x6, .nils, .nils, .nils, .nils, .nils, .i x7]), (.box 13, [.own 3, .i x8, .i x9, .i x10, .i x11, .i x12, .i x13, .own 4, .own 5, .own 6, .own 7, .own 8, .i x14]), (.box 10, (encC .any T4414 x15)), (.buf 38 (.slice (.slice T1383)) x16, []), (.buf 3 (.int .i64) x17, []), (.buf 58 T23b6 x18, []), (.buf 93 T713d x19, []), (.buf 3 (.int .i64) x20, []), (.buf 3 (.int .i64) x21, []), (.box 10, (encC .any T4414 x22)), (.buf 100 T814c r.1, [])]⟩
abbrev Q (r : R) := CallQ 11 (out x1 x2 x3 x4 x5 x6 x7 x8 x9 x10 x11 x12 x13 x14 x15 x16 x17 x18 x19 x20 x21 x22 r)
noncomputable def f (k : Nat) (x1 x2 x3 x4 x5 x6 x7 x8 x9 x10 x11 x12 x13 x14 : Int) (x15 : T4414.T) (x16 : List (List (List T1383.T))) (x17 : List Int) (x18 : List T23b6.T) (x19 : List T713d.T) (x20 x21 : List Int) (x22 : T4414.T) (x23 : List T814c.T) : Option R :=
 (i_slices_stableCmpFunc_Ver_dbc.f k (x23.length : Int) x1 x2 x3 x4 x5 x6 x7 x8 x9 x10 x11 x12 x13 x14 x15 x16 x17 x18 x19 x20 x21 x22 x23).bind fun y1 =>
  some (y1.1, ())
theorem f_ok {r k x1 x2 x3 x4 x5 x6 x7 x8 x9 x10 x11 x12 x13 x14 x15 x16 x17 x18 x19 x20 x21 x22 x23} (H : f k x1 x2 x3 x4 x5 x6 x7 x8 x9 x10 x11 x12 x13 x14 x15 x16 x17 x18 x19 x20 x21 x22 x23 = some r) : Gw P 11 (Q x1 x2 x3 x4 x5 x6 x7 x8 x9 x10 x11 x12 x13 x14 x15 x16 x17 x18 x19 x20 x21 x22 r) (Px c0 1 []) (s0 x1 x2 x3 x4 x5 x6 x7 x8 x9 x10 x11 x12 x13 x14 x15 x16 x17 x18 x19 x20 x21 x22 x23) := by
 unfold f at H
 refine GT (tn [0, 1] 11) (RI ?_)
 refine EV V_ok 0 [] 4 az ?_
 obtain ⟨y1, e2, H⟩ := of_bind H
 refine CL V_ok i_slices_stableCmpFunc_Ver_dbc.at_ (of_G (i_slices_stableCmpFunc_Ver_dbc.f_ok e2)) ?_
 refine RN ?_
 obtain rfl := Option.some.inj H
 exact Lq (tn [] 11)
theorem at_ : FnAt P 110 9 c0 f110.results := fnA func110
end i_slices_SortStableFunc_Ver_18c
namespace i_control_controller_flips_854
noncomputable def c0 : Code := bo f112
noncomputable def V : Env := eV []
theorem V_ok : EnvOk P V := eOk (slk_nil)
variable (x1 x2 x3 x4 x5 x6 x7 x8 x9 x10 x11 x12 x13 x14 : Int) (x15 : T4414.T) (x16 : List (List (List T1383.T))) (x17 : List Int) (x18 : List T23b6.T) (x19 : List T713d.T) (x20 x21 : List Int) (x22 : T4414.T) (x23 : List T814c.T)
abbrev R := (Bool) × Unit
noncomputable def s0 : St := ⟨17, [(0, .cv (.one (.ptr 1 0)))], [(.box 13, [.nils, .i x1, .i x2, .i x3, .i x4, .i x5, .i x6, .nils, .nils, .nils, .nils, .nils, .i x7]), (.box 13, [.own 3, .i x8, .i x9, .i x10, .i x11, .i x12, .i x13, .own 4, .own 5, .own 6, .own 7, .own 8, .i x14]), (.box 10, (encC .any T4414 x15)), (.buf 38 (.slice (.slice T1383)) x16, []), (.buf 3 (.int .i64) x17, []), (.buf 58 T23b6 x18, []), (.buf 93 T713d x19, []), (.buf 3 (.int .i64) x20, []), (.buf 3 (.int .i64) x21, []), (.box 10, (encC .any T4414 x22)), (.buf 100 T814c x23, [])]⟩
noncomputable def out (r : R) : St := ⟨17, [(2, .cv (.one (.bool r.1)))], [(.box 13, [.nils, .i x1, .i x2, .i x3, .i x4, .i x5, .i x6, .nils, .nils, .nils, .nils, .nils, .i x7]), (.box 13, [.own 3, .i x8, .i x9, .i x10, .i x11, .i x12, .i x13, .own 4, .own 5, .own 6, .own 7, .own 8, .i x14]), (.box 10, (encC .any T4414 x15)), (.buf 38 (.slice (.slice T1383)) x16, []), (.buf 3 (.int .i64) x17, []), (.buf 58 T23b6 x18, []), (.buf 93 T713d x19, []), (.buf 3 (.int .i64) x20, []), (.buf 3 (.int .i64) x21, []), (.box 10, (encC .any T4414 x22)), (.buf 100 T814c x23, [])]⟩
abbrev Q (r : R) := CallQ 11 (out x1 x2 x3 x4 x5 x6 x7 x8 x9 x10 x11 x12 x13 x14 x15 x16 x17 x18 x19 x20 x21 x22 x23 r)
noncomputable def f (k : Nat) (x1 x2 x3 x4 x5 x6 x7 x8 x9 x10 x11 x12 x13 x14 : Int) (x15 : T4414.T) (x16 : List (List (List T1383.T))) (x17 : List Int) (x18 : List T23b6.T) (x19 : List T713d.T) (x20 x21 : List Int) (x22 : T4414.T) (x23 : List T814c.T) : Option R :=
 if (x12 == (2 : Int)) = true then
  some (true, ())
 else
  some ((x12 == (3 : Int)), ())
theorem f_ok {r k x1 x2 x3 x4 x5 x6 x7 x8 x9 x10 x11 x12 x13 x14 x15 x16 x17 x18 x19 x20 x21 x22 x23} (H : f k x1 x2 x3 x4 x5 x6 x7 x8 x9 x10 x11 x12 x13 x14 x15 x16 x17 x18 x19 x20 x21 x22 x23 = some r) : Gw P 11 (Q x1 x2 x3 x4 x5 x6 x7 x8 x9 x10 x11 x12 x13 x14 x15 x16 x17 x18 x19 x20 x21 x22 x23 r) (Px c0 1 []) (s0 x1 x2 x3 x4 x5 x6 x7 x8 x9 x10 x11 x12 x13 x14 x15 x16 x17 x18 x19 x20 x21 x22 x23) := by
 unfold f at H
 refine Ra ?_
 rcases of_ite H with ⟨hb1, H⟩ | ⟨hb1, H⟩
 ·refine Rg V_ok 0 [(5, {bv := some true})] (ac hb1 az) ?_
  obtain rfl := Option.some.inj H
  exact Lq (tn [2] 11)
 ·refine Rg V_ok 0 [(5, {bv := some false})] (ac hb1 az) ?_
  obtain rfl := Option.some.inj H
  exact Lq (tn [2] 11)
theorem at_ : FnAt P 112 17 c0 f112.results := fnA func112
end i_control_controller_flips_854
namespace i_control_controller_flips_234
noncomputable def c0 : Code := bo f112
noncomputable def V : Env := eV []
theorem V_ok : EnvOk P V := eOk (slk_nil)
variable (x1 x2 x3 x4 x5 x6 x7 x8 x9 x10 x11 x12 x13 x14 : Int) (x15 : T4414.T) (x16 : List (List (List T1383.T))) (x17 : List Int) (x18 : List T23b6.T) (x19 : List T713d.T) (x20 x21 : List Int) (x22 : T4414.T)
abbrev R := (Bool) × Unit
noncomputable def s0 : St := ⟨17, [(0, .cv (.one (.ptr 1 0)))], [(.box 13, [.nils, .i x1, .i x2, .i x3, .i x4, .i x5, .i x6, .nils, .nils, .nils, .nils, .nils, .i x7]), (.box 13, [.own 3, .i x8, .i x9, .i x10, .i x11, .i x12, .i x13, .own 4, .own 5, .own 6, .own 7, .own 8, .i x14]), (.box 10, (encC .any T4414 x15)), (.buf 38 (.slice (.slice T1383)) x16, []), (.buf 3 (.int .i64) x17, []), (.buf 58 T23b6 x18, []), (.buf 93 T713d x19, []), (.buf 3 (.int .i64) x20, []), (.buf 3 (.int .i64) x21, []), (.box 10, (encC .any T4414 x22))]⟩
noncomputable def out (r : R) : St := ⟨17, [(2, .cv (.one (.bool r.1)))], [(.box 13, [.nils, .i x1, .i x2, .i x3, .i x4, .i x5, .i x6, .nils, .nils, .nils, .nils, .nils, .i x7]), (.box 13, [.own 3, .i x8, .i x9, .i x10, .i x11, .i x12, .i x13, .own 4, .own 5, .own 6, .own 7, .own 8, .i x14]), (.box 10, (encC .any T4414 x15)), (.buf 38 (.slice (.slice T1383)) x16, []), (.buf 3 (.int .i64) x17, []), (.buf 58 T23b6 x18, []), (.buf 93 T713d x19, []), (.buf 3 (.int .i64) x20, []), (.buf 3 (.int .i64) x21, []), (.box 10, (encC .any T4414 x22))]⟩
abbrev Q (r : R) := CallQ 10 (out x1 x2 x3 x4 x5 x6 x7 x8 x9 x10 x11 x12 x13 x14 x15 x16 x17 x18 x19 x20 x21 x22 r)
noncomputable def f (k : Nat) (x1 x2 x3 x4 x5 x6 x7 x8 x9 x10 x11 x12 x13 x14 : Int) (x15 : T4414.T) (x16 : List (List (List T1383.T))) (x17 : List Int) (x18 : List T23b6.T) (x19 : List T713d.T) (x20 x21 : List Int) (x22 : T4414.T) : Option R :=
 if (x12 == (2 : Int)) = true then
  some (true, ())
 else
  some ((x12 == (3 : Int)), ())
theorem f_ok {r k x1 x2 x3 x4 x5 x6 x7 x8 x9 x10 x11 x12 x13 x14 x15 x16 x17 x18 x19 x20 x21 x22} (H : f k x1 x2 x3 x4 x5 x6 x7 x8 x9 x10 x11 x12 x13 x14 x15 x16 x17 x18 x19 x20 x21 x22 = some r) : Gw P 10 (Q x1 x2 x3 x4 x5 x6 x7 x8 x9 x10 x11 x12 x13 x14 x15 x16 x17 x18 x19 x20 x21 x22 r) (Px c0 1 []) (s0 x1 x2 x3 x4 x5 x6 x7 x8 x9 x10 x11 x12 x13 x14 x15 x16 x17 x18 x19 x20 x21 x22) := by
 unfold f at H
 refine Ra ?_
 rcases of_ite H with ⟨hb1, H⟩ | ⟨hb1, H⟩
 ·refine Rg V_ok 0 [(5, {bv := some true})] (ac hb1 az) ?_
  obtain rfl := Option.some.inj H
  exact Lq (tn [2] 10)
 ·refine Rg V_ok 0 [(5, {bv := some false})] (ac hb1 az) ?_
  obtain rfl := Option.some.inj H
  exact Lq (tn [2] 10)
theorem at_ : FnAt P 112 17 c0 f112.results := fnA func112
end i_control_controller_flips_234
namespace i_control_controller_live_eda
noncomputable def c0 : Code := bo f59
noncomputable def V : Env := eV [(44, f_conf_At.S)]
theorem V_ok : EnvOk P V := eOk (slk_cons f_conf_At.fits (slk_nil))
variable (x1 x2 x3 x4 x5 x6 x7 x8 x9 x10 x11 x12 x13 x14 x15 : Int) (x16 : T4414.T) (x17 : List (List (List T1383.T))) (x18 : List Int) (x19 : List T23b6.T) (x20 : List T713d.T) (x21 x22 : List Int) (x23 : T4414.T)
noncomputable def h0 (l : Hl) : Hl := (.box 13, [.nils, .i x2, .i x3, .i x4, .i x5, .i x6, .i x7, .nils, .nils, .nils, .nils, .nils, .i x8]) :: (.box 13, [.own 3, .i x9, .i x10, .i x11, .i x12, .i x13, .i x14, .own 4, .own 5, .own 6, .own 7, .own 8, .i x15]) :: (.box 10, (encC .any T4414 x16)) :: (.buf 38 (.slice (.slice T1383)) x17, []) :: (.buf 3 (.int .i64) x18, []) :: (.buf 58 T23b6 x19, []) :: (.buf 93 T713d x20, []) :: (.buf 3 (.int .i64) x21, []) :: (.buf 3 (.int .i64) x22, []) :: (.box 10, (encC .any T4414 x23)) :: l
abbrev R := (List T814c.T) × (Int) × Unit
noncomputable def s0 : St := ⟨70, [(0, .cv (.one (.ptr 1 0))), (1, .cv (.one (.i x1)))], (h0 x2 x3 x4 x5 x6 x7 x8 x9 x10 x11 x12 x13 x14 x15 x16 x17 x18 x19 x20 x21 x22 x23 [])⟩
noncomputable def out (r : R) : St := ⟨70, [(4, .cv (.one (.sl T814c r.1 .any))), (5, .cv (.one (.i r.2.1)))], (h0 x2 x3 x4 x5 x6 x7 x8 x9 x10 x11 x12 x13 x14 x15 x16 x17 x18 x19 x20 x21 x22 x23 [])⟩
abbrev Q (r : R) := CallQ 10 (out x2 x3 x4 x5 x6 x7 x8 x9 x10 x11 x12 x13 x14 x15 x16 x17 x18 x19 x20 x21 x22 x23 r)
noncomputable def s2 (p24 : List T814c.T) : St := ⟨70, [(0, .cv (.one (.ptr 1 0))), (6, .cv (.one (.own 10))), (7, .cv (.one (.i x11)))], (h0 x2 x3 x4 x5 x6 x7 x8 x9 x10 x11 x12 x13 x14 x15 x16 x17 x18 x19 x20 x21 x22 x23 [(.buf 100 T814c p24, [])])⟩
noncomputable def s4 (p2 : Bool) (p25 : List T814c.T) : St := ⟨70, [(0, .cv (.one (.ptr 1 0))), (6, .cv (.one (.own 10))), (7, .cv (.one (.i x11))), (62, .cv (.one (.bool p2)))], (h0 x2 x3 x4 x5 x6 x7 x8 x9 x10 x11 x12 x13 x14 x15 x16 x17 x18 x19 x20 x21 x22 x23 [(.buf 100 T814c p25, [])])⟩
noncomputable def s6 (p23 : List T814c.T) : St := ⟨70, [(0, .cv (.one (.ptr 1 0))), (6, .cv (.one (.own 10)))], (h0 x2 x3 x4 x5 x6 x7 x8 x9 x10 x11 x12 x13 x14 x15 x16 x17 x18 x19 x20 x21 x22 x23 [(.buf 100 T814c p23, [])])⟩
noncomputable def s1 (p1 : Int) (p24 : List T814c.T) : St := ⟨70, [(6, .cv (.one (.own 10))), (7, .cv (.one (.i p1)))], (h0 x2 x3 x4 x5 x6 x7 x8 x9 x10 x11 x12 x13 x14 x15 x16 x17 x18 x19 x20 x21 x22 x23 [(.buf 100 T814c p24, [])])⟩
noncomputable def j1 (x2 x3 x4 x5 x6 x7 x8 x9 x10 x11 x12 x13 x14 x15 : Int) (x16 : T4414.T) (x17 : List (List (List T1383.T))) (x18 : List Int) (x19 : List T23b6.T) (x20 : List T713d.T) (x21 x22 : List Int) (x23 : T4414.T) (k : Nat) (p1 : Int) (p24 : List T814c.T) : Option R :=
 some (p24, (p1, ()))
theorem j1_ok {r x2 x3 x4 x5 x6 x7 x8 x9 x10 x11 x12 x13 x14 x15 x16 x17 x18 x19 x20 x21 x22 x23} {k p1 p24} (H : j1 x2 x3 x4 x5 x6 x7 x8 x9 x10 x11 x12 x13 x14 x15 x16 x17 x18 x19 x20 x21 x22 x23 k p1 p24 = some r) : Gw P 10 (Q x2 x3 x4 x5 x6 x7 x8 x9 x10 x11 x12 x13 x14 x15 x16 x17 x18 x19 x20 x21 x22 x23 r) (Px c0 31 []) (s1 x2 x3 x4 x5 x6 x7 x8 x9 x10 x11 x12 x13 x14 x15 x16 x17 x18 x19 x20 x21 x22 x23 p1 p24) := by
 unfold j1 at H
 refine Ra ?_
 obtain rfl := Option.some.inj H
 exact Lq {fz := [10], gr := 0, ad := [], live := [4, 5], src := [some 0, some 1, some 2, some 3, some 4, some 5, some 6, some 7, some 8, some 9]}
noncomputable def j6 (k : Nat) (p23 : List T814c.T) : Option R :=
 j1 x2 x3 x4 x5 x6 x7 x8 x9 x10 x11 x12 x13 x14 x15 x16 x17 x18 x19 x20 x21 x22 x23 k x12 p23
theorem j6_ok {r x2 x3 x4 x5 x6 x7 x8 x9 x10 x11 x12 x13 x14 x15 x16 x17 x18 x19 x20 x21 x22 x23} {k p23} (H : j6 x2 x3 x4 x5 x6 x7 x8 x9 x10 x11 x12 x13 x14 x15 x16 x17 x18 x19 x20 x21 x22 x23 k p23 = some r) : Gw P 10 (Q x2 x3 x4 x5 x6 x7 x8 x9 x10 x11 x12 x13 x14 x15 x16 x17 x18 x19 x20 x21 x22 x23 r) (Px c0 87 []) (s6 x2 x3 x4 x5 x6 x7 x8 x9 x10 x11 x12 x13 x14 x15 x16 x17 x18 x19 x20 x21 x22 x23 p23) := by
 unfold j6 at H
 refine Ra ?_
 exact Jm (tn [6, 7] 11) (j1_ok H)
noncomputable def j4 (k : Nat) (p2 : Bool) (p25 : List T814c.T) : Option R :=
 if p2 = true then
 j6 x2 x3 x4 x5 x6 x7 x8 x9 x10 x11 x12 x13 x14 x15 x16 x17 x18 x19 x20 x21 x22 x23 k p25
else
 j1 x2 x3 x4 x5 x6 x7 x8 x9 x10 x11 x12 x13 x14 x15 x16 x17 x18 x19 x20 x21 x22 x23 k x11 p25
theorem j4_ok {r x2 x3 x4 x5 x6 x7 x8 x9 x10 x11 x12 x13 x14 x15 x16 x17 x18 x19 x20 x21 x22 x23} {k p2 p25} (H : j4 x2 x3 x4 x5 x6 x7 x8 x9 x10 x11 x12 x13 x14 x15 x16 x17 x18 x19 x20 x21 x22 x23 k p2 p25 = some r) : Gw P 10 (Q x2 x3 x4 x5 x6 x7 x8 x9 x10 x11 x12 x13 x14 x15 x16 x17 x18 x19 x20 x21 x22 x23 r) (Px c0 55 []) (s4 x2 x3 x4 x5 x6 x7 x8 x9 x10 x11 x12 x13 x14 x15 x16 x17 x18 x19 x20 x21 x22 x23 p2 p25) := by
 unfold j4 at H
 rcases of_ite H with ⟨hb16, H⟩ | ⟨hb16, H⟩
 ·refine C1 hb16 ?_
  exact Jm (tn [0, 6] 11) (j6_ok H)
 ·refine C0 hb16 ?_
  exact Jm (tn [6, 7] 11) (j1_ok H)
noncomputable def j2 (k : Nat) (p24 : List T814c.T) : Option R :=
 (i_control_controller_flips_854.f k x2 x3 x4 x5 x6 x7 x8 x9 x10 x11 x12 x13 x14 x15 x16 x17 x18 x19 x20 x21 x22 x23 p24).bind fun y14 =>
 j4 x2 x3 x4 x5 x6 x7 x8 x9 x10 x11 x12 x13 x14 x15 x16 x17 x18 x19 x20 x21 x22 x23 k y14.1 p24
theorem j2_ok {r x2 x3 x4 x5 x6 x7 x8 x9 x10 x11 x12 x13 x14 x15 x16 x17 x18 x19 x20 x21 x22 x23} {k p24} (H : j2 x2 x3 x4 x5 x6 x7 x8 x9 x10 x11 x12 x13 x14 x15 x16 x17 x18 x19 x20 x21 x22 x23 k p24 = some r) : Gw P 10 (Q x2 x3 x4 x5 x6 x7 x8 x9 x10 x11 x12 x13 x14 x15 x16 x17 x18 x19 x20 x21 x22 x23 r) (Px c0 15 []) (s2 x2 x3 x4 x5 x6 x7 x8 x9 x10 x11 x12 x13 x14 x15 x16 x17 x18 x19 x20 x21 x22 x23 p24) := by
 unfold j2 at H
 refine GT (tn [0, 6, 7] 11) (RI ?_)
 refine EV V_ok 0 [] 1 az ?_
 obtain ⟨y14, e15, H⟩ := of_bind H
 refine CL V_ok i_control_controller_flips_854.at_ (of_G (i_control_controller_flips_854.f_ok e15)) ?_
 refine RN ?_
 exact Jm (tn [0, 6, 7, 62] 11) (j4_ok H)
noncomputable def s3 (p1 : List T814c.T) : St := ⟨70, [(0, .cv (.one (.ptr 1 0))), (6, .cv (.one (.sl T814c p1 .full))), (7, .cv (.one (.i x11)))], (h0 x2 x3 x4 x5 x6 x7 x8 x9 x10 x11 x12 x13 x14 x15 x16 x17 x18 x19 x20 x21 x22 x23 [])⟩
noncomputable def s5 (p1 : List T814c.T) (p3 : Bool) : St := ⟨70, [(0, .cv (.one (.ptr 1 0))), (6, .cv (.one (.sl T814c p1 .full))), (7, .cv (.one (.i x11))), (62, .cv (.one (.bool p3)))], (h0 x2 x3 x4 x5 x6 x7 x8 x9 x10 x11 x12 x13 x14 x15 x16 x17 x18 x19 x20 x21 x22 x23 [])⟩
noncomputable def s7 (p1 : List T814c.T) : St := ⟨70, [(0, .cv (.one (.ptr 1 0))), (6, .cv (.one (.sl T814c p1 .full)))], (h0 x2 x3 x4 x5 x6 x7 x8 x9 x10 x11 x12 x13 x14 x15 x16 x17 x18 x19 x20 x21 x22 x23 [])⟩
noncomputable def s8 (p1 : List T814c.T) (p2 : Int) : St := ⟨70, [(6, .cv (.one (.sl T814c p1 .full))), (7, .cv (.one (.i p2)))], (h0 x2 x3 x4 x5 x6 x7 x8 x9 x10 x11 x12 x13 x14 x15 x16 x17 x18 x19 x20 x21 x22 x23 [])⟩
noncomputable def j8 (x2 x3 x4 x5 x6 x7 x8 x9 x10 x11 x12 x13 x14 x15 : Int) (x16 : T4414.T) (x17 : List (List (List T1383.T))) (x18 : List Int) (x19 : List T23b6.T) (x20 : List T713d.T) (x21 x22 : List Int) (x23 : T4414.T) (k : Nat) (p1 : List T814c.T) (p2 : Int) : Option R :=
 some (p1, (p2, ()))
theorem j8_ok {r x2 x3 x4 x5 x6 x7 x8 x9 x10 x11 x12 x13 x14 x15 x16 x17 x18 x19 x20 x21 x22 x23} {k p1 p2} (H : j8 x2 x3 x4 x5 x6 x7 x8 x9 x10 x11 x12 x13 x14 x15 x16 x17 x18 x19 x20 x21 x22 x23 k p1 p2 = some r) : Gw P 10 (Q x2 x3 x4 x5 x6 x7 x8 x9 x10 x11 x12 x13 x14 x15 x16 x17 x18 x19 x20 x21 x22 x23 r) (Px c0 31 []) (s8 x2 x3 x4 x5 x6 x7 x8 x9 x10 x11 x12 x13 x14 x15 x16 x17 x18 x19 x20 x21 x22 x23 p1 p2) := by
 unfold j8 at H
 refine Ra ?_
 obtain rfl := Option.some.inj H
 exact Lq {fz := [], gr := 0, ad := [.tmp 4 (.any)], live := [4, 5], src := [some 0, some 1, some 2, some 3, some 4, some 5, some 6, some 7, some 8, some 9]}
noncomputable def j7 (k : Nat) (p1 : List T814c.T) : Option R :=
 j8 x2 x3 x4 x5 x6 x7 x8 x9 x10 x11 x12 x13 x14 x15 x16 x17 x18 x19 x20 x21 x22 x23 k p1 x12
theorem j7_ok {r x2 x3 x4 x5 x6 x7 x8 x9 x10 x11 x12 x13 x14 x15 x16 x17 x18 x19 x20 x21 x22 x23} {k p1} (H : j7 x2 x3 x4 x5 x6 x7 x8 x9 x10 x11 x12 x13 x14 x15 x16 x17 x18 x19 x20 x21 x22 x23 k p1 = some r) : Gw P 10 (Q x2 x3 x4 x5 x6 x7 x8 x9 x10 x11 x12 x13 x14 x15 x16 x17 x18 x19 x20 x21 x22 x23 r) (Px c0 87 []) (s7 x2 x3 x4 x5 x6 x7 x8 x9 x10 x11 x12 x13 x14 x15 x16 x17 x18 x19 x20 x21 x22 x23 p1) := by
 unfold j7 at H
 refine Ra ?_
 exact Jm (tn [6, 7] 10) (j8_ok H)
noncomputable def j5 (k : Nat) (p1 : List T814c.T) (p3 : Bool) : Option R :=
 if p3 = true then
 j7 x2 x3 x4 x5 x6 x7 x8 x9 x10 x11 x12 x13 x14 x15 x16 x17 x18 x19 x20 x21 x22 x23 k p1
else
 j8 x2 x3 x4 x5 x6 x7 x8 x9 x10 x11 x12 x13 x14 x15 x16 x17 x18 x19 x20 x21 x22 x23 k p1 x11
theorem j5_ok {r x2 x3 x4 x5 x6 x7 x8 x9 x10 x11 x12 x13 x14 x15 x16 x17 x18 x19 x20 x21 x22 x23} {k p1 p3} (H : j5 x2 x3 x4 x5 x6 x7 x8 x9 x10 x11 x12 x13 x14 x15 x16 x17 x18 x19 x20 x21 x22 x23 k p1 p3 = some r) : Gw P 10 (Q x2 x3 x4 x5 x6 x7 x8 x9 x10 x11 x12 x13 x14 x15 x16 x17 x18 x19 x20 x21 x22 x23 r) (Px c0 55 []) (s5 x2 x3 x4 x5 x6 x7 x8 x9 x10 x11 x12 x13 x14 x15 x16 x17 x18 x19 x20 x21 x22 x23 p1 p3) := by
 unfold j5 at H
 rcases of_ite H with ⟨hb19, H⟩ | ⟨hb19, H⟩
 ·refine C1 hb19 ?_
  exact Jm (tn [0, 6] 10) (j7_ok H)
 ·refine C0 hb19 ?_
  exact Jm (tn [6, 7] 10) (j8_ok H)
noncomputable def j3 (k : Nat) (p1 : List T814c.T) : Option R :=
 (i_control_controller_flips_234.f k x2 x3 x4 x5 x6 x7 x8 x9 x10 x11 x12 x13 x14 x15 x16 x17 x18 x19 x20 x21 x22 x23).bind fun y17 =>
 j5 x2 x3 x4 x5 x6 x7 x8 x9 x10 x11 x12 x13 x14 x15 x16 x17 x18 x19 x20 x21 x22 x23 k p1 y17.1
theorem j3_ok {r x2 x3 x4 x5 x6 x7 x8 x9 x10 x11 x12 x13 x14 x15 x16 x17 x18 x19 x20 x21 x22 x23} {k p1} (H : j3 x2 x3 x4 x5 x6 x7 x8 x9 x10 x11 x12 x13 x14 x15 x16 x17 x18 x19 x20 x21 x22 x23 k p1 = some r) : Gw P 10 (Q x2 x3 x4 x5 x6 x7 x8 x9 x10 x11 x12 x13 x14 x15 x16 x17 x18 x19 x20 x21 x22 x23 r) (Px c0 15 []) (s3 x2 x3 x4 x5 x6 x7 x8 x9 x10 x11 x12 x13 x14 x15 x16 x17 x18 x19 x20 x21 x22 x23 p1) := by
 unfold j3 at H
 refine GT (tn [0, 6, 7] 10) (RI ?_)
 refine EV V_ok 0 [] 1 az ?_
 obtain ⟨y17, e18, H⟩ := of_bind H
 refine CL V_ok i_control_controller_flips_234.at_ (of_G (i_control_controller_flips_234.f_ok e18)) ?_
 refine RN ?_
 exact Jm (tn [0, 6, 7, 62] 10) (j5_ok H)
noncomputable def f (k : Nat) (x1 x2 x3 x4 x5 x6 x7 x8 x9 x10 x11 x12 x13 x14 x15 : Int) (x16 : T4414.T) (x17 : List (List (List T1383.T))) (x18 : List Int) (x19 : List T23b6.T) (x20 : List T713d.T) (x21 x22 : List Int) (x23 : T4414.T) : Option R :=
 if 0 ≤ x9 then
  if x9 < (x17.length : Int) then
   (f_conf_At.f k (att (.slice (.slice T1383)) x17 x9) x1).bind fun y1 =>
    (i_control_controller_two_234.f k x2 x3 x4 x5 x6 x7 x8 x9 x10 x11 x12 x13 x14 x15 x16 x17 x18 x19 x20 x21 x22 x23).bind fun y5 =>
     if y5.1 = true then
      if 0 ≤ x10 then
       if x10 < (x17.length : Int) then
        (f_conf_At.f k (att (.slice (.slice T1383)) x17 x10) x1).bind fun y8 =>
         (i_slices_SortStableFunc_Ver_18c.f k x2 x3 x4 x5 x6 x7 x8 x9 x10 x11 x12 x13 x14 x15 x16 x17 x18 x19 x20 x21 x22 x23 [(x11, y1.1), (x12, y8.1)]).bind fun y12 =>
          j2 x2 x3 x4 x5 x6 x7 x8 x9 x10 x11 x12 x13 x14 x15 x16 x17 x18 x19 x20 x21 x22 x23 k y12.1
       else none
      else none
     else
      j3 x2 x3 x4 x5 x6 x7 x8 x9 x10 x11 x12 x13 x14 x15 x16 x17 x18 x19 x20 x21 x22 x23 k [(x11, y1.1)]
  else none
 else none
theorem f_ok {r k x1 x2 x3 x4 x5 x6 x7 x8 x9 x10 x11 x12 x13 x14 x15 x16 x17 x18 x19 x20 x21 x22 x23} (H : f k x1 x2 x3 x4 x5 x6 x7 x8 x9 x10 x11 x12 x13 x14 x15 x16 x17 x18 x19 x20 x21 x22 x23 = some r) : Gw P 10 (Q x2 x3 x4 x5 x6 x7 x8 x9 x10 x11 x12 x13 x14 x15 x16 x17 x18 x19 x20 x21 x22 x23 r) (Px c0 1 []) (s0 x1 x2 x3 x4 x5 x6 x7 x8 x9 x10 x11 x12 x13 x14 x15 x16 x17 x18 x19 x20 x21 x22 x23) := by
 unfold f at H
 refine Ra ?_
 obtain ⟨n2, H⟩ := of_if H
 obtain ⟨n3, H⟩ := of_if H
 obtain ⟨y1, e4, H⟩ := of_bind H
 refine Rg V_ok 0 [(18, hr f_conf_At.S y1)] (ac n2 (ac n3 (ac (f_conf_At.rl e4) az))) ?_
 refine GT (tn [0, 1, 6, 7] 10) (RI ?_)
 refine EV V_ok 0 [] 1 az ?_
 obtain ⟨y5, e6, H⟩ := of_bind H
 refine CL V_ok i_control_controller_two_234.at_ (of_G (i_control_controller_two_234.f_ok e6)) ?_
 refine RN ?_
 rcases of_ite H with ⟨hb7, H⟩ | ⟨hb7, H⟩
 ·refine C1 hb7 ?_
  obtain ⟨n9, H⟩ := of_if H
  obtain ⟨n10, H⟩ := of_if H
  obtain ⟨y8, e11, H⟩ := of_bind H
  refine Rg V_ok 1 [(19, hr f_conf_At.S y8), (22, hb 10)] (ac n9 (ac n10 (ac (f_conf_At.rl e11) (ac (show (1 + 1) * 32 ≤ 140737488355328 by decide) (ac (show 1 = 0 ∨ 0 < 1 by decide) az))))) ?_
  refine GT (tn [0, 6, 7] 11) (RI ?_)
  refine EV V_ok 0 [] 1 az ?_
  obtain ⟨y12, e13, H⟩ := of_bind H
  refine CL V_ok i_slices_SortStableFunc_Ver_18c.at_ (of_G (i_slices_SortStableFunc_Ver_18c.f_ok e13)) ?_
  refine RN ?_
  exact Jm (tn [0, 6, 7] 11) (j2_ok H)
 ·refine C0 hb7 ?_
  exact Jm (tn [0, 6, 7] 10) (j3_ok H)
theorem at_ : FnAt P 59 70 c0 f59.results := fnA func59
end i_control_controller_live_eda
namespace i_control_controller_hello_399
noncomputable def c0 : Code := bo f34
noncomputable def V : Env := eV [(85, f_plan_Push.S), (86, f_sess_New.S), (87, f_plan_Sync.S)]
theorem V_ok : EnvOk P V := eOk (slk_cons f_plan_Push.fits (slk_cons f_sess_New.fits (slk_cons f_plan_Sync.fits (slk_nil))))
variable (x1 : Int) (x2 : T4414.T) (x3 x4 x5 x6 x7 x8 x9 x10 x11 x12 x13 x14 x15 x16 : Int) (x17 : T4414.T) (x18 : List (List (List T1383.T))) (x19 : List Int) (x20 : List T23b6.T) (x21 : List T713d.T) (x22 x23 : List Int)
noncomputable def h0 (l : Hl) : Hl := (.box 13, [.nils, .i x3, .i x4, .i x5, .i x6, .i x7, .i x8, .nils, .nils, .nils, .nils, .nils, .i x9]) :: (.box 13, [.own 3, .i x10, .i x11, .i x12, .i x13, .i x14, .i x15, .own 4, .own 5, .own 6, .own 7, .own 8, .i x16]) :: (.box 10, (encC .any T4414 x17)) :: (.buf 38 (.slice (.slice T1383)) x18, []) :: (.buf 3 (.int .i64) x19, []) :: l
abbrev R := (List T23b6.T) × Unit
noncomputable def s0 : St := ⟨38, [(0, .cv (.one (.ptr 1 0))), (1, .cv (.one (.i x1))), (2, .cv (.agg (encC .any T4414 x2)))], (h0 x3 x4 x5 x6 x7 x8 x9 x10 x11 x12 x13 x14 x15 x16 x17 x18 x19 [(.buf 58 T23b6 x20, []), (.buf 93 T713d x21, []), (.buf 3 (.int .i64) x22, []), (.buf 3 (.int .i64) x23, [])])⟩
noncomputable def out (r : R) : St := ⟨38, [], (h0 x3 x4 x5 x6 x7 x8 x9 x10 x11 x12 x13 x14 x15 x16 x17 x18 x19 [(.buf 58 T23b6 r.1, []), (.buf 93 T713d x21, []), (.buf 3 (.int .i64) x22, []), (.buf 3 (.int .i64) x23, [])])⟩
abbrev Q (r : R) := CallQ 9 (out x3 x4 x5 x6 x7 x8 x9 x10 x11 x12 x13 x14 x15 x16 x17 x18 x19 x21 x22 x23 r)
noncomputable def f (k : Nat) (x1 : Int) (x2 : T4414.T) (x3 x4 x5 x6 x7 x8 x9 x10 x11 x12 x13 x14 x15 x16 : Int) (x17 : T4414.T) (x18 : List (List (List T1383.T))) (x19 : List Int) (x20 : List T23b6.T) (x21 : List T713d.T) (x22 x23 : List Int) : Option R :=
 if 0 ≤ x1 then
  if x1 < (x20.length : Int) then
   if (decide (x2.2.1 > ((att T23b6 x20 x1).1))) = true then
    (f_sess_New.f k x2.2.1).bind fun y4 =>
      (i_control_controller_live_eda.f k x1 x3 x4 x5 x6 x7 x8 x9 x10 x11 x12 x13 x14 x15 x16 x17 x18 x19 x20 x21 x22 x23 x2).bind fun y6 =>
      (f_plan_Sync.f k y6.1 y6.2.1).bind fun y8 =>
        (f_plan_Push.f k y4.1 y8.1).bind fun y10 =>
         some ((x20.set x1.toNat (x2.2.1, (0, y10.1))), ())
   else
    some (x20, ())
  else none
 else none
theorem f_ok {r k x1 x2 x3 x4 x5 x6 x7 x8 x9 x10 x11 x12 x13 x14 x15 x16 x17 x18 x19 x20 x21 x22 x23} (H : f k x1 x2 x3 x4 x5 x6 x7 x8 x9 x10 x11 x12 x13 x14 x15 x16 x17 x18 x19 x20 x21 x22 x23 = some r) : Gw P 9 (Q x3 x4 x5 x6 x7 x8 x9 x10 x11 x12 x13 x14 x15 x16 x17 x18 x19 x21 x22 x23 r) (Px c0 1 []) (s0 x1 x2 x3 x4 x5 x6 x7 x8 x9 x10 x11 x12 x13 x14 x15 x16 x17 x18 x19 x20 x21 x22 x23) := by
 unfold f at H
 refine Rg V_ok 1 [(0, hb 9)] az ?_
 obtain ⟨n1, H⟩ := of_if H
 obtain ⟨n2, H⟩ := of_if H
 refine Rg V_ok 0 [] (ac n1 (ac n2 az)) ?_
 rcases of_ite H with ⟨hb3, H⟩ | ⟨hb3, H⟩
 ·refine C1 hb3 ?_
  obtain ⟨y4, e5, H⟩ := of_bind H
  obtain ⟨y6, e7, H⟩ := of_bind H
  obtain ⟨y8, e9, H⟩ := of_bind H
  obtain ⟨y10, e11, H⟩ := of_bind H
  let x : Nx := (Px c0 11 [])
  let t0 : St := ⟨38, [(0, .cv (.one (.ptr 1 0))), (1, .cv (.one (.i x1))), (5, .cv (.one (.ptr 9 0)))], (h0 x3 x4 x5 x6 x7 x8 x9 x10 x11 x12 x13 x14 x15 x16 x17 x18 x19 [(.buf 58 T23b6 x20, []), (.buf 93 T713d x21, []), (.buf 3 (.int .i64) x22, []), (.buf 3 (.int .i64) x23, []), (.box 10, (encC .any T4414 x2))])⟩
  refine Jm (x' := x) (τ := t0) (tn [0, 1, 5] 10) ?_
  let Φ := phiX P 9 (Q x3 x4 x5 x6 x7 x8 x9 x10 x11 x12 x13 x14 x15 x16 x17 x18 x19 x21 x22 x23 r) x
  let o := fun (k m : Nat) (t : St) => WA P 9 (opsX x) k (bs 21 m) Φ t
  let t1 : St := stpS V x 0 [] 0 (tn [0, 1, 5, 18] 10) t0
  let t2 : St := stpS V x 0 [] 1 (tn [0, 1, 5, 19] 10) t1
  let t3 : St := stpS V x 0 [] 2 (tn [0, 1, 5, 20] 10) t2
  let t4 : St := stpS V x 0 [] 3 (tn [0, 1, 5, 21] 10) t3
  let t5 : St := stpS V x 0 [] 5 (tn [0, 1, 5, 21, 23] 10) t4
  let t6 : St := stpS V x 0 [] 6 (tn [0, 1, 5, 21, 23, 24] 10) t5
  let t7 : St := stpS V x 0 [] 8 (tn [0, 1, 5, 21, 23, 24, 26] 10) t6
  let t8 : St := stpS V x 0 [] 11 (tn [0, 1, 5, 21, 23, 24, 26, 29] 10) t7
  let t9 : St := stpS V x 0 [] 12 (tn [0, 5, 21, 23, 24, 26, 29, 30] 10) t8
  let t10 : St := stpS V x 0 [] 4 (tn [0, 5, 22, 23, 24, 26, 29, 30] 10) t9
  let t11 : St := stpS V x 0 [] 7 (tn [0, 5, 21, 23, 25, 26, 29, 30] 10) t9
  let t12 : St := stpS V x 0 [] 9 (tn [0, 5, 21, 23, 24, 27, 29, 30] 10) t9
  let t13 : St := stpS V x 0 [] 7 (tn [0, 5, 22, 23, 25, 26, 29, 30] 10) t10
  let t14 : St := stpS V x 0 [] 9 (tn [0, 5, 22, 23, 24, 27, 29, 30] 10) t10
  let t15 : St := stpS V x 0 [] 9 (tn [0, 5, 21, 23, 25, 27, 29, 30] 10) t11
  let t16 : St := stpS V x 0 [(10, hr f_sess_New.S y4)] 10 (tn [0, 5, 21, 23, 24, 28, 29, 30] 10) t12
  let t17 : St := stpS V x 0 [] 9 (tn [0, 5, 22, 23, 25, 27, 29, 30] 10) t13
  let t18 : St := stpS V x 0 [(10, hr f_sess_New.S y4)] 10 (tn [0, 5, 22, 23, 24, 28, 29, 30] 10) t14
  let t19 : St := stpS V x 0 [(10, hr f_sess_New.S y4)] 10 (tn [0, 5, 21, 23, 25, 28, 29, 30] 10) t15
  let u0 : St := i_control_controller_live_eda.out x3 x4 x5 x6 x7 x8 x9 x10 x11 x12 x13 x14 x15 x16 x17 x18 x19 x20 x21 x22 x23 x2 y6
  let t20 : St := clT V.tt x 13 f59.results (tn [0, 5, 21, 23, 24, 28, 31] 10) t16 u0
  let t21 : St := stpS V x 0 [(10, hr f_sess_New.S y4)] 10 (tn [0, 5, 22, 23, 25, 28, 29, 30] 10) t17
  let t22 : St := clT V.tt x 13 f59.results (tn [0, 5, 22, 23, 24, 28, 31] 10) t18 u0
  let t23 : St := clT V.tt x 13 f59.results (tn [0, 5, 21, 23, 25, 28, 31] 10) t19 u0
  let t24 : St := stpS V x 0 [] 14 (tn [0, 5, 21, 23, 24, 28, 31, 32] 10) t20
  let t25 : St := clT V.tt x 13 f59.results (tn [0, 5, 22, 23, 25, 28, 31] 10) t21 u0
  let t26 : St := stpS V x 0 [] 14 (tn [0, 5, 22, 23, 24, 28, 31, 32] 10) t22
  let t27 : St := stpS V x 0 [] 14 (tn [0, 5, 21, 23, 25, 28, 31, 32] 10) t23
  let t28 : St := stpS V x 0 [] 15 (tn [0, 5, 21, 23, 24, 28, 32, 33] 10) t24
  let t29 : St := stpS V x 0 [] 14 (tn [0, 5, 22, 23, 25, 28, 31, 32] 10) t25
  let t30 : St := stpS V x 0 [] 15 (tn [0, 5, 22, 23, 24, 28, 32, 33] 10) t26
  let t31 : St := stpS V x 0 [] 15 (tn [0, 5, 21, 23, 25, 28, 32, 33] 10) t27
  let t32 : St := stpS V x 0 [(16, hr f_plan_Sync.S y8)] 16 (tn [0, 5, 21, 23, 24, 28, 34] 10) t28
  let t33 : St := stpS V x 0 [] 15 (tn [0, 5, 22, 23, 25, 28, 32, 33] 10) t29
  let t34 : St := stpS V x 0 [(16, hr f_plan_Sync.S y8)] 16 (tn [0, 5, 22, 23, 24, 28, 34] 10) t30
  let t35 : St := stpS V x 0 [(16, hr f_plan_Sync.S y8)] 16 (tn [0, 5, 21, 23, 25, 28, 34] 10) t31
  let t36 : St := stpS V x 0 [(17, hr f_plan_Push.S y10)] 17 (tn [0, 5, 21, 23, 24, 35] 10) t32
  let t37 : St := stpS V x 0 [(16, hr f_plan_Sync.S y8)] 16 (tn [0, 5, 22, 23, 25, 28, 34] 10) t33
  let t38 : St := stpS V x 0 [(17, hr f_plan_Push.S y10)] 17 (tn [0, 5, 22, 23, 24, 35] 10) t34
  let t39 : St := stpS V x 0 [(17, hr f_plan_Push.S y10)] 17 (tn [0, 5, 21, 23, 25, 35] 10) t35
  let t40 : St := stpS V x 0 [(17, hr f_plan_Push.S y10)] 17 (tn [0, 5, 22, 23, 25, 35] 10) t37
  let t41 : St := stpS V x 0 [] 18 (tn [0, 5, 21, 23, 36] 10) t39
  let t42 : St := stpS V x 0 [] 18 (tn [0, 5, 22, 23, 36] 10) t40
  let t43 : St := stpS V x 0 [] 19 (tn [0, 5, 36, 37] 10) t42
  let t44 : St := stpS V x 0 [] 20 (tn [] 9) t43
  have w44 : o 0 2097151 t44 := by
   refine WA_nil (by kernel_rfl) (RAn (by kernel_rfl) ?_)
   obtain rfl := Option.some.inj H
   exact Lq (tn [] 9)
  have w43 : o 1 1048575 t43 := WAs (an (We az w44) aN)
  have w42 : o 2 524287 t42 := WAs (an (We (ac n1 (ac n2 az)) w43) aN)
  have w41 : o 3 524271 t41 := WAs (an (WE V_ok 0 [] 4 (tn [0, 5, 22, 23, 36] 10) az w42) aN)
  have w40 : o 3 262143 t40 := WAs (an (We az w42) aN)
  have w39 : o 4 262127 t39 := WAs (an (WE V_ok 0 [] 4 (tn [0, 5, 22, 23, 25, 35] 10) az w40) (an (We az w41) aN))
  have w38 : o 4 262015 t38 := WAs (an (WE V_ok 0 [] 7 (tn [0, 5, 22, 23, 25, 35] 10) az w40) aN)
  have w37 : o 4 131071 t37 := WAs (an (We (ac (f_plan_Push.rl e11) az) w40) aN)
  have w36 : o 5 261999 t36 := WAs (an (WE V_ok 0 [] 4 (tn [0, 5, 22, 23, 24, 35] 10) az w38) (an (WE V_ok 0 [] 7 (tn [0, 5, 21, 23, 25, 35] 10) az w39) aN))
  have w35 : o 5 131055 t35 := WAs (an (WE V_ok 0 [] 4 (tn [0, 5, 22, 23, 25, 28, 34] 10) az w37) (an (We (ac (f_plan_Push.rl e11) az) w39) aN))
  have w34 : o 5 130943 t34 := WAs (an (WE V_ok 0 [] 7 (tn [0, 5, 22, 23, 25, 28, 34] 10) az w37) (an (We (ac (f_plan_Push.rl e11) az) w38) aN))
  have w33 : o 5 65535 t33 := WAs (an (We (ac (f_plan_Sync.rl e9) az) w37) aN)
  have w32 : o 6 130927 t32 := WAs (an (WE V_ok 0 [] 4 (tn [0, 5, 22, 23, 24, 28, 34] 10) az w34) (an (WE V_ok 0 [] 7 (tn [0, 5, 21, 23, 25, 28, 34] 10) az w35) (an (We (ac (f_plan_Push.rl e11) az) w36) aN)))
  have w31 : o 6 65519 t31 := WAs (an (WE V_ok 0 [] 4 (tn [0, 5, 22, 23, 25, 28, 32, 33] 10) az w33) (an (We (ac (f_plan_Sync.rl e9) az) w35) aN))
  have w30 : o 6 65407 t30 := WAs (an (WE V_ok 0 [] 7 (tn [0, 5, 22, 23, 25, 28, 32, 33] 10) az w33) (an (We (ac (f_plan_Sync.rl e9) az) w34) aN))
  have w29 : o 6 32767 t29 := Wt az w33
  have w28 : o 7 65391 t28 := WAs (an (WE V_ok 0 [] 4 (tn [0, 5, 22, 23, 24, 28, 32, 33] 10) az w30) (an (WE V_ok 0 [] 7 (tn [0, 5, 21, 23, 25, 28, 32, 33] 10) az w31) (an (We (ac (f_plan_Sync.rl e9) az) w32) aN)))
  have w27 : o 7 32751 t27 := Wt az w31
  have w26 : o 7 32639 t26 := Wt az w30
  have w25 : o 7 16383 t25 := Wt az w29
  have w24 : o 8 32623 t24 := Wt az w28
  have w23 : o 8 16367 t23 := Wt az w27
  have w22 : o 8 16255 t22 := Wt az w26
  have w21 : o 8 8191 t21 := WAs (an (Wc V_ok i_control_controller_live_eda.at_ (of_G (i_control_controller_live_eda.f_ok e7)) w25) aN)
  have w20 : o 9 16239 t20 := Wt az w24
  have w19 : o 9 8175 t19 := WAs (an (WE V_ok 0 [] 4 (tn [0, 5, 22, 23, 25, 28, 29, 30] 10) az w21) (an (Wc V_ok i_control_controller_live_eda.at_ (of_G (i_control_controller_live_eda.f_ok e7)) w23) aN))
  have w18 : o 9 8063 t18 := WAs (an (WE V_ok 0 [] 7 (tn [0, 5, 22, 23, 25, 28, 29, 30] 10) az w21) (an (Wc V_ok i_control_controller_live_eda.at_ (of_G (i_control_controller_live_eda.f_ok e7)) w22) aN))
  have w17 : o 9 7167 t17 := WAs (an (We (ac (f_sess_New.rl e5) az) w21) aN)
  have w16 : o 10 8047 t16 := WAs (an (WE V_ok 0 [] 4 (tn [0, 5, 22, 23, 24, 28, 29, 30] 10) az w18) (an (WE V_ok 0 [] 7 (tn [0, 5, 21, 23, 25, 28, 29, 30] 10) az w19) (an (Wc V_ok i_control_controller_live_eda.at_ (of_G (i_control_controller_live_eda.f_ok e7)) w20) aN)))
  have w15 : o 10 7151 t15 := WAs (an (WE V_ok 0 [] 4 (tn [0, 5, 22, 23, 25, 27, 29, 30] 10) az w17) (an (We (ac (f_sess_New.rl e5) az) w19) aN))
  have w14 : o 10 7039 t14 := WAs (an (WE V_ok 0 [] 7 (tn [0, 5, 22, 23, 25, 27, 29, 30] 10) az w17) (an (We (ac (f_sess_New.rl e5) az) w18) aN))
  have w13 : o 10 6655 t13 := WAs (an (We az w17) aN)
  have w12 : o 11 7023 t12 := WAs (an (WE V_ok 0 [] 4 (tn [0, 5, 22, 23, 24, 27, 29, 30] 10) az w14) (an (WE V_ok 0 [] 7 (tn [0, 5, 21, 23, 25, 27, 29, 30] 10) az w15) (an (We (ac (f_sess_New.rl e5) az) w16) aN)))
  have w11 : o 11 6639 t11 := WAs (an (WE V_ok 0 [] 4 (tn [0, 5, 22, 23, 25, 26, 29, 30] 10) az w13) (an (We az w15) aN))
  have w10 : o 11 6527 t10 := WAs (an (We az w13) (an (We az w14) aN))
  have w9 : o 12 6511 t9 := WAs (an (We az w10) (an (We az w11) (an (We az w12) aN)))
  have w8 : o 13 2415 t8 := Wt az w9
  have w7 : o 14 367 t7 := Wt az w8
  have w6 : o 15 111 t6 := Wt az w7
  have w5 : o 16 47 t5 := Wt az w6
  have w4 : o 17 15 t4 := Wt az w5
  have w3 : o 18 7 t3 := Wt az w4
  have w2 : o 19 3 t2 := Wt az w3
  have w1 : o 20 1 t1 := Wt az w2
  have w0 : o 21 0 t0 := Wt az w1
  exact RA V_ok 21 (by kernel_rfl) (by kernel_rfl) (by kernel_rfl) w0
 ·refine C0 hb3 ?_
  obtain rfl := Option.some.inj H
  exact Lq (tn [] 9)
theorem at_ : FnAt P 34 38 c0 f34.results := fnA func34
end i_control_controller_hello_399
namespace i_control_controller_ack_399
noncomputable def c0 : Code := bo f35
noncomputable def V : Env := eV [(88, f_sess_Done.S)]
theorem V_ok : EnvOk P V := eOk (slk_cons f_sess_Done.fits (slk_nil))
variable (x1 : Int) (x2 : T4414.T) (x3 x4 x5 x6 x7 x8 x9 x10 x11 x12 x13 x14 x15 x16 : Int) (x17 : T4414.T) (x18 : List (List (List T1383.T))) (x19 : List Int) (x20 : List T23b6.T) (x21 : List T713d.T) (x22 x23 : List Int)
noncomputable def h0 (l : Hl) : Hl := (.box 13, [.nils, .i x3, .i x4, .i x5, .i x6, .i x7, .i x8, .nils, .nils, .nils, .nils, .nils, .i x9]) :: (.box 13, [.own 3, .i x10, .i x11, .i x12, .i x13, .i x14, .i x15, .own 4, .own 5, .own 6, .own 7, .own 8, .i x16]) :: (.box 10, (encC .any T4414 x17)) :: (.buf 38 (.slice (.slice T1383)) x18, []) :: (.buf 3 (.int .i64) x19, []) :: l
abbrev R := (List T23b6.T) × Unit
noncomputable def s0 : St := ⟨68, [(0, .cv (.one (.ptr 1 0))), (1, .cv (.one (.i x1))), (2, .cv (.agg (encC .any T4414 x2)))], (h0 x3 x4 x5 x6 x7 x8 x9 x10 x11 x12 x13 x14 x15 x16 x17 x18 x19 [(.buf 58 T23b6 x20, []), (.buf 93 T713d x21, []), (.buf 3 (.int .i64) x22, []), (.buf 3 (.int .i64) x23, [])])⟩
noncomputable def out (r : R) : St := ⟨68, [], (h0 x3 x4 x5 x6 x7 x8 x9 x10 x11 x12 x13 x14 x15 x16 x17 x18 x19 [(.buf 58 T23b6 r.1, []), (.buf 93 T713d x21, []), (.buf 3 (.int .i64) x22, []), (.buf 3 (.int .i64) x23, [])])⟩
abbrev Q (r : R) := CallQ 9 (out x3 x4 x5 x6 x7 x8 x9 x10 x11 x12 x13 x14 x15 x16 x17 x18 x19 x21 x22 x23 r)
noncomputable def s1 (p2 : Bool) : St := ⟨68, [(5, .cv (.one (.ptr 9 0))), (6, .cv (.one (.eptr 5 T23b6 x1 0))), (50, .cv (.one (.bool p2)))], (h0 x3 x4 x5 x6 x7 x8 x9 x10 x11 x12 x13 x14 x15 x16 x17 x18 x19 [(.buf 58 T23b6 x20, []), (.buf 93 T713d x21, []), (.buf 3 (.int .i64) x22, []), (.buf 3 (.int .i64) x23, []), (.box 10, (encC .any T4414 x2))])⟩
noncomputable def j1 (x1 : Int) (x2 : T4414.T) (x3 x4 x5 x6 x7 x8 x9 x10 x11 x12 x13 x14 x15 x16 : Int) (x17 : T4414.T) (x18 : List (List (List T1383.T))) (x19 : List Int) (x20 : List T23b6.T) (x21 : List T713d.T) (x22 x23 : List Int) (k : Nat) (p2 : Bool) : Option R :=
 if p2 = true then
 (f_sess_Done.f k (((att T23b6 x20 x1).2).2) x2.2.1 x2.2.2.1).bind fun y6 =>
  some (((x20.set x1.toNat ((att T23b6 x20 x1).1, (((att T23b6 x20 x1).2).1, y6.1))).set x1.toNat ((att T23b6 (x20.set x1.toNat ((att T23b6 x20 x1).1, (((att T23b6 x20 x1).2).1, y6.1))) x1).1, (x2.2.2.2.1, (((att T23b6 (x20.set x1.toNat ((att T23b6 x20 x1).1, (((att T23b6 x20 x1).2).1, y6.1))) x1).2).2)))), ())
else
 some (x20, ())
theorem j1_ok {r x1 x2 x3 x4 x5 x6 x7 x8 x9 x10 x11 x12 x13 x14 x15 x16 x17 x18 x19 x20 x21 x22 x23} {k p2} (H : j1 x1 x2 x3 x4 x5 x6 x7 x8 x9 x10 x11 x12 x13 x14 x15 x16 x17 x18 x19 x20 x21 x22 x23 k p2 = some r) : Gw P 9 (Q x3 x4 x5 x6 x7 x8 x9 x10 x11 x12 x13 x14 x15 x16 x17 x18 x19 x21 x22 x23 r) (Px c0 31 []) (s1 x1 x2 x3 x4 x5 x6 x7 x8 x9 x10 x11 x12 x13 x14 x15 x16 x17 x18 x19 x20 x21 x22 x23 p2) := by
 unfold j1 at H
 rcases of_ite H with ⟨hb5, H⟩ | ⟨hb5, H⟩
 ·refine C1 hb5 ?_
  obtain ⟨y6, e7, H⟩ := of_bind H
  refine Rg V_ok 0 [(10, hr f_sess_Done.S y6)] (ac (f_sess_Done.rl e7) az) ?_
  obtain rfl := Option.some.inj H
  exact Lq (tn [] 9)
 ·refine C0 hb5 ?_
  obtain rfl := Option.some.inj H
  exact Lq (tn [] 9)
noncomputable def f (k : Nat) (x1 : Int) (x2 : T4414.T) (x3 x4 x5 x6 x7 x8 x9 x10 x11 x12 x13 x14 x15 x16 : Int) (x17 : T4414.T) (x18 : List (List (List T1383.T))) (x19 : List Int) (x20 : List T23b6.T) (x21 : List T713d.T) (x22 x23 : List Int) : Option R :=
 if 0 ≤ x1 then
  if x1 < (x20.length : Int) then
   if (x2.2.1 == ((att T23b6 x20 x1).1)) = true then
    if (decide (x2.2.2.1 ≥ (IntKind.i64.wrap ((IntKind.i64.wrap ((((((att T23b6 x20 x1).2).2).2).1) - 1)) - ((((((att T23b6 x20 x1).2).2).2).2).length : Int))))) = true then
     j1 x1 x2 x3 x4 x5 x6 x7 x8 x9 x10 x11 x12 x13 x14 x15 x16 x17 x18 x19 x20 x21 x22 x23 k (decide (x2.2.2.1 < (((((att T23b6 x20 x1).2).2).2).1)))
    else
     j1 x1 x2 x3 x4 x5 x6 x7 x8 x9 x10 x11 x12 x13 x14 x15 x16 x17 x18 x19 x20 x21 x22 x23 k false
   else
    j1 x1 x2 x3 x4 x5 x6 x7 x8 x9 x10 x11 x12 x13 x14 x15 x16 x17 x18 x19 x20 x21 x22 x23 k false
  else none
 else none
theorem f_ok {r k x1 x2 x3 x4 x5 x6 x7 x8 x9 x10 x11 x12 x13 x14 x15 x16 x17 x18 x19 x20 x21 x22 x23} (H : f k x1 x2 x3 x4 x5 x6 x7 x8 x9 x10 x11 x12 x13 x14 x15 x16 x17 x18 x19 x20 x21 x22 x23 = some r) : Gw P 9 (Q x3 x4 x5 x6 x7 x8 x9 x10 x11 x12 x13 x14 x15 x16 x17 x18 x19 x21 x22 x23 r) (Px c0 1 []) (s0 x1 x2 x3 x4 x5 x6 x7 x8 x9 x10 x11 x12 x13 x14 x15 x16 x17 x18 x19 x20 x21 x22 x23) := by
 unfold f at H
 refine Rg V_ok 1 [(0, hb 9)] az ?_
 obtain ⟨n1, H⟩ := of_if H
 obtain ⟨n2, H⟩ := of_if H
 refine Rg V_ok 0 [] (ac n1 (ac n2 az)) ?_
 refine Ra ?_
 rcases of_ite H with ⟨hb3, H⟩ | ⟨hb3, H⟩
 ·rcases of_ite H with ⟨hb4, H⟩ | ⟨hb4, H⟩
  ·refine Rg V_ok 0 [(6, {bv := some true}), (12, {bv := some true})] (ac hb3 (ac hb4 az)) ?_
   exact Jm (tn [5, 6, 50] 10) (j1_ok H)
  ·refine Rg V_ok 0 [(6, {bv := some true}), (12, {bv := some false})] (ac hb3 (ac hb4 az)) ?_
   exact Jm (tn [5, 6, 50] 10) (j1_ok H)
 ·refine Rg V_ok 0 [(6, {bv := some false})] (ac hb3 az) ?_
  exact Jm (tn [5, 6, 50] 10) (j1_ok H)
theorem at_ : FnAt P 35 68 c0 f35.results := fnA func35
end i_control_controller_ack_399
namespace f_control_Heard
noncomputable def c0 : Code := bo f10
abbrev ps : Sg := [(true, T26b3), (false, (.int .i64)), (false, (.slice (.int .u8)))]
abbrev rs : Sg := [(true, T26b3)]
noncomputable def V : Env := eV [(27, f_frame_Open.S)]
theorem V_ok : EnvOk P V := eOk (slk_cons f_frame_Open.fits (slk_nil))
abbrev R := Tup rs
noncomputable abbrev Q (r : R) : Exit → St → Prop := Qr tt f10.results ⟨ps, rs, .any, none, fun _ _ => True⟩ r
noncomputable def s1 (a2 : Int) (a3 : List Int) (p3 : Bool) (p4 p5 p6 p7 p8 p9 p10 p11 p12 p13 p14 p15 p16 p17 : Int) (p18 : List (List (List T1383.T))) (p19 : List Int) (p20 : List T23b6.T) (p21 : List T713d.T) (p22 p23 : List Int) : St := ⟨75, [(1, .cv (.one (.i a2))), (2, .cv (.one (.sl (.int .u8) a3 .any))), (6, .cv (.one (.ptr 0 0))), (7, .cv (.one (.ptr 1 0))), (28, .cv (.one (.bool p3)))], [(.box 13, [.nils, .i p4, .i p5, .i p6, .i p7, .i p8, .i p9, .nils, .nils, .nils, .nils, .nils, .i p10]), (.box 13, [.own 2, .i p11, .i p12, .i p13, .i p14, .i p15, .i p16, .own 3, .own 4, .own 5, .own 6, .own 7, .i p17]), (.buf 38 (.slice (.slice T1383)) p18, []), (.buf 3 (.int .i64) p19, []), (.buf 58 T23b6 p20, []), (.buf 93 T713d p21, []), (.buf 3 (.int .i64) p22, []), (.buf 3 (.int .i64) p23, [])]⟩
noncomputable def s3 (a2 p2 : Int) (p3 : Bool) (p4 p5 p6 p7 p8 p9 p10 p11 p12 p13 p14 p15 p16 p17 : Int) (p18 : T4414.T) (p19 : List (List (List T1383.T))) (p20 : List Int) (p21 : List T23b6.T) (p22 : List T713d.T) (p23 p24 : List Int) : St := ⟨75, [(1, .cv (.one (.i a2))), (6, .cv (.one (.ptr 0 0))), (7, .cv (.one (.ptr 1 0))), (8, .cv (.one (.ptr 2 0))), (9, .cv (.one (.i p2))), (47, .cv (.one (.bool p3)))], [(.box 13, [.nils, .i p4, .i p5, .i p6, .i p7, .i p8, .i p9, .nils, .nils, .nils, .nils, .nils, .i p10]), (.box 13, [.own 3, .i p11, .i p12, .i p13, .i p14, .i p15, .i p16, .own 4, .own 5, .own 6, .own 7, .own 8, .i p17]), (.box 10, (encC .any T4414 p18)), (.buf 38 (.slice (.slice T1383)) p19, []), (.buf 3 (.int .i64) p20, []), (.buf 58 T23b6 p21, []), (.buf 93 T713d p22, []), (.buf 3 (.int .i64) p23, []), (.buf 3 (.int .i64) p24, [])]⟩
noncomputable def s2 (p1 p2 p3 p4 p5 p6 p7 p8 p9 p10 p11 p12 p13 p14 : Int) (p15 : List (List (List T1383.T))) (p16 : List Int) (p17 : List T23b6.T) (p18 : List T713d.T) (p19 p20 : List Int) : St := ⟨75, [(6, .cv (.one (.ptr 0 0))), (7, .cv (.one (.ptr 1 0)))], [(.box 13, [.nils, .i p1, .i p2, .i p3, .i p4, .i p5, .i p6, .nils, .nils, .nils, .nils, .nils, .i p7]), (.box 13, [.own 2, .i p8, .i p9, .i p10, .i p11, .i p12, .i p13, .own 3, .own 4, .own 5, .own 6, .own 7, .i p14]), (.buf 38 (.slice (.slice T1383)) p15, []), (.buf 3 (.int .i64) p16, []), (.buf 58 T23b6 p17, []), (.buf 93 T713d p18, []), (.buf 3 (.int .i64) p19, []), (.buf 3 (.int .i64) p20, [])]⟩
noncomputable def j2 (k : Nat) (p1 p2 p3 p4 p5 p6 p7 p8 p9 p10 p11 p12 p13 p14 : Int) (p15 : List (List (List T1383.T))) (p16 : List Int) (p17 : List T23b6.T) (p18 : List T713d.T) (p19 p20 : List Int) : Option R :=
 some ((p15, (p8, (p9, (p10, (p11, (p12, (p13, (p16, (p17, (p18, (p19, (p20, p14)))))))))))), ())
theorem j2_ok {r} {k p1 p2 p3 p4 p5 p6 p7 p8 p9 p10 p11 p12 p13 p14 p15 p16 p17 p18 p19 p20} (H : j2 k p1 p2 p3 p4 p5 p6 p7 p8 p9 p10 p11 p12 p13 p14 p15 p16 p17 p18 p19 p20 = some r) : Gw P 0 (Q r) (Px c0 63 []) (s2 p1 p2 p3 p4 p5 p6 p7 p8 p9 p10 p11 p12 p13 p14 p15 p16 p17 p18 p19 p20) := by
 unfold j2 at H
 refine Ra ?_
 exact Le H
noncomputable def s4 (a2 : Int) (p2 : Bool) (p3 p4 p5 p6 p7 p8 p9 p10 p11 p12 p13 p14 p15 p16 : Int) (p17 : T4414.T) (p18 : List (List (List T1383.T))) (p19 : List Int) (p20 : List T23b6.T) (p21 : List T713d.T) (p22 p23 : List Int) : St := ⟨75, [(1, .cv (.one (.i a2))), (6, .cv (.one (.ptr 0 0))), (7, .cv (.one (.ptr 1 0))), (8, .cv (.one (.ptr 2 0))), (59, .cv (.one (.bool p2)))], [(.box 13, [.nils, .i p3, .i p4, .i p5, .i p6, .i p7, .i p8, .nils, .nils, .nils, .nils, .nils, .i p9]), (.box 13, [.own 3, .i p10, .i p11, .i p12, .i p13, .i p14, .i p15, .own 4, .own 5, .own 6, .own 7, .own 8, .i p16]), (.box 10, (encC .any T4414 p17)), (.buf 38 (.slice (.slice T1383)) p18, []), (.buf 3 (.int .i64) p19, []), (.buf 58 T23b6 p20, []), (.buf 93 T713d p21, []), (.buf 3 (.int .i64) p22, []), (.buf 3 (.int .i64) p23, [])]⟩
noncomputable def j4 (a2 : Int) (k : Nat) (p2 : Bool) (p3 p4 p5 p6 p7 p8 p9 p10 p11 p12 p13 p14 p15 p16 : Int) (p17 : T4414.T) (p18 : List (List (List T1383.T))) (p19 : List Int) (p20 : List T23b6.T) (p21 : List T713d.T) (p22 p23 : List Int) : Option R :=
 if p2 = true then
 (i_control_controller_ack_399.f k a2 p17 p3 p4 p5 p6 p7 p8 p9 p10 p11 p12 p13 p14 p15 p16 p17 p18 p19 p20 p21 p22 p23).bind fun y15 =>
  j2 k p3 p4 p5 p6 p7 p8 p9 p10 p11 p12 p13 p14 p15 p16 p18 p19 y15.1 p21 p22 p23
else
 j2 k p3 p4 p5 p6 p7 p8 p9 p10 p11 p12 p13 p14 p15 (IntKind.i64.wrap (p16 + 1)) p18 p19 p20 p21 p22 p23
theorem j4_ok {r a2} {k p2 p3 p4 p5 p6 p7 p8 p9 p10 p11 p12 p13 p14 p15 p16 p17 p18 p19 p20 p21 p22 p23} (H : j4 a2 k p2 p3 p4 p5 p6 p7 p8 p9 p10 p11 p12 p13 p14 p15 p16 p17 p18 p19 p20 p21 p22 p23 = some r) : Gw P 0 (Q r) (Px c0 975 []) (s4 a2 p2 p3 p4 p5 p6 p7 p8 p9 p10 p11 p12 p13 p14 p15 p16 p17 p18 p19 p20 p21 p22 p23) := by
 unfold j4 at H
 rcases of_ite H with ⟨hb14, H⟩ | ⟨hb14, H⟩
 ·refine C1 hb14 ?_
  refine GT (tn [1, 6, 7, 8] 9) (RI ?_)
  refine EV V_ok 0 [] 3 az ?_
  obtain ⟨y15, e16, H⟩ := of_bind H
  refine CL V_ok i_control_controller_ack_399.at_ (of_G (i_control_controller_ack_399.f_ok e16)) ?_
  refine RN ?_
  exact Jm (tl [6, 7] [0, 1, 3, 4, 5, 6, 7, 8]) (j2_ok H)
 ·refine C0 hb14 ?_
  refine Ra ?_
  exact Jm (tl [6, 7] [0, 1, 3, 4, 5, 6, 7, 8]) (j2_ok H)
noncomputable def j3 (a2 : Int) (k : Nat) (p2 : Int) (p3 : Bool) (p4 p5 p6 p7 p8 p9 p10 p11 p12 p13 p14 p15 p16 p17 : Int) (p18 : T4414.T) (p19 : List (List (List T1383.T))) (p20 : List Int) (p21 : List T23b6.T) (p22 : List T713d.T) (p23 p24 : List Int) : Option R :=
 if p3 = true then
 (i_control_controller_hello_399.f k a2 p18 p4 p5 p6 p7 p8 p9 p10 p11 p12 p13 p14 p15 p16 p17 p18 p19 p20 p21 p22 p23 p24).bind fun y11 =>
  j2 k p4 p5 p6 p7 p8 p9 p10 p11 p12 p13 p14 p15 p16 p17 p19 p20 y11.1 p22 p23 p24
else
 if (p2 == (0 : Int)) = true then
  j4 a2 k (p18.1 == (1 : Int)) p4 p5 p6 p7 p8 p9 p10 p11 p12 p13 p14 p15 p16 p17 p18 p19 p20 p21 p22 p23 p24
 else
  j4 a2 k false p4 p5 p6 p7 p8 p9 p10 p11 p12 p13 p14 p15 p16 p17 p18 p19 p20 p21 p22 p23 p24
theorem j3_ok {r a2} {k p2 p3 p4 p5 p6 p7 p8 p9 p10 p11 p12 p13 p14 p15 p16 p17 p18 p19 p20 p21 p22 p23 p24} (H : j3 a2 k p2 p3 p4 p5 p6 p7 p8 p9 p10 p11 p12 p13 p14 p15 p16 p17 p18 p19 p20 p21 p22 p23 p24 = some r) : Gw P 0 (Q r) (Px c0 207 []) (s3 a2 p2 p3 p4 p5 p6 p7 p8 p9 p10 p11 p12 p13 p14 p15 p16 p17 p18 p19 p20 p21 p22 p23 p24) := by
 unfold j3 at H
 rcases of_ite H with ⟨hb10, H⟩ | ⟨hb10, H⟩
 ·refine C1 hb10 ?_
  refine GT (tn [1, 6, 7, 8] 9) (RI ?_)
  refine EV V_ok 0 [] 3 az ?_
  obtain ⟨y11, e12, H⟩ := of_bind H
  refine CL V_ok i_control_controller_hello_399.at_ (of_G (i_control_controller_hello_399.f_ok e12)) ?_
  refine RN ?_
  exact Jm (tl [6, 7] [0, 1, 3, 4, 5, 6, 7, 8]) (j2_ok H)
 ·refine C0 hb10 ?_
  rcases of_ite H with ⟨hb13, H⟩ | ⟨hb13, H⟩
  ·refine Rg V_ok 0 [(1, {bv := some true})] (ac hb13 az) ?_
   exact Jm (tn [1, 6, 7, 8, 59] 9) (j4_ok H)
  ·refine Rg V_ok 0 [(1, {bv := some false})] (ac hb13 az) ?_
   exact Jm (tn [1, 6, 7, 8, 59] 9) (j4_ok H)
noncomputable def j1 (a2 : Int) (a3 : List Int) (k : Nat) (p3 : Bool) (p4 p5 p6 p7 p8 p9 p10 p11 p12 p13 p14 p15 p16 p17 : Int) (p18 : List (List (List T1383.T))) (p19 : List Int) (p20 : List T23b6.T) (p21 : List T713d.T) (p22 p23 : List Int) : Option R :=
 if p3 = true then
 some ((p18, (p11, (p12, (p13, (p14, (p15, (p16, (p19, (p20, (p21, (p22, (p23, p17)))))))))))), ())
else
 (f_frame_Open.f k a3).bind fun y7 =>
  if (y7.2.1 == (0 : Int)) = true then
   j3 a2 k y7.2.1 (y7.1.1 == (0 : Int)) p4 p5 p6 p7 p8 p9 p10 p11 p12 p13 p14 p15 p16 p17 y7.1 p18 p19 p20 p21 p22 p23
  else
   j3 a2 k y7.2.1 false p4 p5 p6 p7 p8 p9 p10 p11 p12 p13 p14 p15 p16 p17 y7.1 p18 p19 p20 p21 p22 p23
theorem j1_ok {r a2 a3} {k p3 p4 p5 p6 p7 p8 p9 p10 p11 p12 p13 p14 p15 p16 p17 p18 p19 p20 p21 p22 p23} (H : j1 a2 a3 k p3 p4 p5 p6 p7 p8 p9 p10 p11 p12 p13 p14 p15 p16 p17 p18 p19 p20 p21 p22 p23 = some r) : Gw P 0 (Q r) (Px c0 27 []) (s1 a2 a3 p3 p4 p5 p6 p7 p8 p9 p10 p11 p12 p13 p14 p15 p16 p17 p18 p19 p20 p21 p22 p23) := by
 unfold j1 at H
 rcases of_ite H with ⟨hb6, H⟩ | ⟨hb6, H⟩
 ·refine C1 hb6 ?_
  refine Ra ?_
  exact Le H
 ·refine C0 hb6 ?_
  obtain ⟨y7, e8, H⟩ := of_bind H
  refine Rg V_ok 1 [(1, hr f_frame_Open.S y7), (5, hb 8)] (ac (f_frame_Open.rl e8) az) ?_
  rcases of_ite H with ⟨hb9, H⟩ | ⟨hb9, H⟩
  ·refine Rg V_ok 0 [(1, {bv := some true})] (ac hb9 az) ?_
   exact Jm (tl [1, 6, 7, 8, 9, 47] [0, 1, 8, 2, 3, 4, 5, 6, 7]) (j3_ok H)
  ·refine Rg V_ok 0 [(1, {bv := some false})] (ac hb9 az) ?_
   exact Jm (tl [1, 6, 7, 8, 9, 47] [0, 1, 8, 2, 3, 4, 5, 6, 7]) (j3_ok H)
noncomputable def f (k : Nat) (a1 : T26b3.T) (a2 : Int) (a3 : List Int) : Option R :=
 (i_control_own_776m.f k a1 a1 (0 : Int) (0 : Int) (0 : Int) (0 : Int) (0 : Int) (0 : Int) (0 : Int)).bind fun y1 =>
  (i_control_controller_is_559.f k (0 : Int) (0 : Int) (0 : Int) (0 : Int) (0 : Int) (0 : Int) (0 : Int) y1.1 y1.2.1 y1.2.2.1 y1.2.2.2.1 y1.2.2.2.2.1 y1.2.2.2.2.2.1 y1.2.2.2.2.2.2.1 y1.2.2.2.2.2.2.2.1 y1.2.2.2.2.2.2.2.2.1 y1.2.2.2.2.2.2.2.2.2.1 y1.2.2.2.2.2.2.2.2.2.2.1 y1.2.2.2.2.2.2.2.2.2.2.2.1 y1.2.2.2.2.2.2.2.2.2.2.2.2.1).bind fun y3 =>
   if (!y3.1) = true then
    j1 a2 a3 k true (0 : Int) (0 : Int) (0 : Int) (0 : Int) (0 : Int) (0 : Int) (0 : Int) y1.1 y1.2.1 y1.2.2.1 y1.2.2.2.1 y1.2.2.2.2.1 y1.2.2.2.2.2.1 y1.2.2.2.2.2.2.1 y1.2.2.2.2.2.2.2.1 y1.2.2.2.2.2.2.2.2.1 y1.2.2.2.2.2.2.2.2.2.1 y1.2.2.2.2.2.2.2.2.2.2.1 y1.2.2.2.2.2.2.2.2.2.2.2.1 y1.2.2.2.2.2.2.2.2.2.2.2.2.1
   else
    if (decide (a2 < (0 : Int))) = true then
     j1 a2 a3 k true (0 : Int) (0 : Int) (0 : Int) (0 : Int) (0 : Int) (0 : Int) (0 : Int) y1.1 y1.2.1 y1.2.2.1 y1.2.2.2.1 y1.2.2.2.2.1 y1.2.2.2.2.2.1 y1.2.2.2.2.2.2.1 y1.2.2.2.2.2.2.2.1 y1.2.2.2.2.2.2.2.2.1 y1.2.2.2.2.2.2.2.2.2.1 y1.2.2.2.2.2.2.2.2.2.2.1 y1.2.2.2.2.2.2.2.2.2.2.2.1 y1.2.2.2.2.2.2.2.2.2.2.2.2.1
    else
     j1 a2 a3 k (decide (a2 ≥ (y1.2.2.2.2.2.2.2.2.2.1.length : Int))) (0 : Int) (0 : Int) (0 : Int) (0 : Int) (0 : Int) (0 : Int) (0 : Int) y1.1 y1.2.1 y1.2.2.1 y1.2.2.2.1 y1.2.2.2.2.1 y1.2.2.2.2.2.1 y1.2.2.2.2.2.2.1 y1.2.2.2.2.2.2.2.1 y1.2.2.2.2.2.2.2.2.1 y1.2.2.2.2.2.2.2.2.2.1 y1.2.2.2.2.2.2.2.2.2.2.1 y1.2.2.2.2.2.2.2.2.2.2.2.1 y1.2.2.2.2.2.2.2.2.2.2.2.2.1
noncomputable def S : Spec := ⟨ps, rs, .any, none, fun x r => ∃ k, f k x.1 x.2.1 x.2.2.1 = some r⟩
theorem rl {k a1 a2 a3 r} (e : f k a1 a2 a3 = some r) : S.rel (a1, a2, a3, ()) r := ⟨k, e⟩
theorem f_ok {r k a1 a2 a3} (H : f k a1 a2 a3 = some r) : Gw P 0 (Q r) (Px c0 1 []) (⟨75, [(0, .cv (.agg (encC .any T26b3 a1))), (1, .cv (.one (.i a2))), (2, .cv (.one (.sl (.int .u8) a3 .any)))], []⟩) := by
 unfold f at H
 refine Rg V_ok 2 [(0, hb 0), (1, hb 1)] az ?_
 refine GT (tn [1, 2, 3, 6] 2) (RI ?_)
 refine EV V_ok 0 [] 1 az ?_
 obtain ⟨y1, e2, H⟩ := of_bind H
 refine CL V_ok i_control_own_776m.at_ (of_G (i_control_own_776m.f_ok e2)) ?_
 refine EV V_ok 0 [] 1 az ?_
 refine RN ?_
 refine GT (tl [1, 2, 6, 7] [1, 2, 3, 4, 5, 6, 7, 8]) (RI ?_)
 refine EV V_ok 0 [] 1 az ?_
 obtain ⟨y3, e4, H⟩ := of_bind H
 refine CL V_ok i_control_controller_is_559.at_ (of_G (i_control_controller_is_559.f_ok e4)) ?_
 refine EV V_ok 0 [] 2 az ?_
 rcases of_ite H with ⟨hb5, H⟩ | ⟨hb5, H⟩
 ·refine FXO 15 hb5 ?_
  refine EV V_ok 0 [] 4 az ?_
  refine EV V_ok 0 [] 9 az ?_
  refine RN ?_
  exact Jm (tn [1, 2, 6, 7, 28] 8) (j1_ok H)
 ·refine FXO 15 hb5 ?_
  refine EV V_ok 0 [] 4 az ?_
  rcases of_ite H with ⟨hb17, H⟩ | ⟨hb17, H⟩
  ·refine FXO 19 hb17 ?_
   refine EV V_ok 0 [] 9 az ?_
   refine RN ?_
   exact Jm (tn [1, 2, 6, 7, 28] 8) (j1_ok H)
  ·refine FXO 19 hb17 ?_
   refine EV V_ok 0 [] 9 az ?_
   refine RN ?_
   exact Jm (tn [1, 2, 6, 7, 28] 8) (j1_ok H)
theorem fits : Fits P 10 S := fitsA V_ok func10 fun x r ⟨k, H⟩ => of_G (f_ok H)
end f_control_Heard

namespace f_sess_First
noncomputable def c0 : Code := bo f56
abbrev ps : Sg := [(true, Tb104), (false, (.int .i64))]
abbrev rs : Sg := [(false, (.slice T4414))]
noncomputable def V : Env := eV [(79, f_slices_Clone_Msg.S)]
theorem V_ok : EnvOk P V := eOk (slk_cons f_slices_Clone_Msg.fits (slk_nil))
abbrev R := Tup rs
noncomputable abbrev Q (r : R) : Exit → St → Prop := Qr tt f56.results ⟨ps, rs, .any, none, fun _ _ => True⟩ r
noncomputable def f (k : Nat) (a1 : Tb104.T) (a2 : Int) : Option R :=
 if 0 ≤ (0 : Int) ∧ (0 : Int) ≤ (if (a1.2.2.length : Int) < (if 0 > a2 then 0 else a2) then (a1.2.2.length : Int) else (if 0 > a2 then 0 else a2)) ∧ (if (a1.2.2.length : Int) < (if 0 > a2 then 0 else a2) then (a1.2.2.length : Int) else (if 0 > a2 then 0 else a2)) ≤ (a1.2.2.length : Int) then
  (f_slices_Clone_Msg.f k ((a1.2.2.take (if (a1.2.2.length : Int) < (if 0 > a2 then 0 else a2) then (a1.2.2.length : Int) else (if 0 > a2 then 0 else a2)).toNat).drop (0 : Int).toNat)).bind fun y1 =>
   some (y1.1, ())
 else none
noncomputable def S : Spec := ⟨ps, rs, .any, none, fun x r => ∃ k, f k x.1 x.2.1 = some r⟩
theorem rl {k a1 a2 r} (e : f k a1 a2 = some r) : S.rel (a1, a2, ()) r := ⟨k, e⟩
theorem f_ok {r k a1 a2} (H : f k a1 a2 = some r) : Gw P 0 (Q r) (Px c0 1 []) (⟨15, [(0, .cv (.agg (encC .any Tb104 a1))), (1, .cv (.one (.i a2)))], []⟩) := by
 unfold f at H
 refine Rg V_ok 1 [(0, hb 0)] az ?_
 obtain ⟨n2, H⟩ := of_if H
 obtain ⟨y1, e3, H⟩ := of_bind H
 refine Rg V_ok 0 [(9, hr f_slices_Clone_Msg.S y1)] (ac n2 (ac (f_slices_Clone_Msg.rl e3) az)) ?_
 exact Le H
theorem fits : Fits P 56 S := fitsA V_ok func56 fun x r ⟨k, H⟩ => of_G (f_ok H)
end f_sess_First

namespace i_control_controller_two_0d3
noncomputable def c0 : Code := bo f83
noncomputable def V : Env := eV [(119, f_slices_Contains_int.S)]
theorem V_ok : EnvOk P V := eOk (slk_cons f_slices_Contains_int.fits (slk_nil))
variable (x1 x2 : T26b3.T)
abbrev R := (Bool) × Unit
noncomputable def s0 : St := ⟨10, [(0, .cv (.one (.ptr 1 0)))], [(.box 13, (encC .any T26b3 x1)), (.box 13, (encC .any T26b3 x2)), (.box 1, [.ptr 1 0])]⟩
noncomputable def out (r : R) : St := ⟨10, [(2, .cv (.one (.bool r.1)))], [(.box 13, (encC .any T26b3 x1)), (.box 13, (encC .any T26b3 x2)), (.box 1, [.ptr 1 0])]⟩
abbrev Q (r : R) := CallQ 3 (out x1 x2 r)
noncomputable def f (k : Nat) (x1 x2 : T26b3.T) : Option R :=
 (f_slices_Contains_int.f k [1, 2, 3] x2.2.2.2.2.2.1).bind fun y1 =>
  some (y1.1, ())
theorem f_ok {r k x1 x2} (H : f k x1 x2 = some r) : Gw P 3 (Q x1 x2 r) (Px c0 1 []) (s0 x1 x2) := by
 unfold f at H
 refine Ra ?_
 obtain ⟨y1, e2, H⟩ := of_bind H
 refine Rg V_ok 0 [(6, hr f_slices_Contains_int.S y1)] (ac (f_slices_Contains_int.rl e2) az) ?_
 obtain rfl := Option.some.inj H
 exact Lq (tn [2] 3)
theorem at_ : FnAt P 83 10 c0 f83.results := fnA func83
end i_control_controller_two_0d3
namespace i_control_controller_is_1_91e
noncomputable def c0 : Code := bo f82
noncomputable def V : Env := eV []
theorem V_ok : EnvOk P V := eOk (slk_nil)
variable (x1 : Int) (x2 x3 : T26b3.T)
abbrev R := (Bool) × Unit
noncomputable def s0 : St := ⟨16, [(0, .cv (.one (.i x1))), (1, .cv (.one (.ptr 2 0)))], [(.box 13, (encC .any T26b3 x2)), (.box 13, (encC .any T26b3 x3)), (.box 1, [.ptr 1 0])]⟩
noncomputable def out (r : R) : St := ⟨16, [(3, .cv (.one (.bool r.1)))], [(.box 13, (encC .any T26b3 x2)), (.box 13, (encC .any T26b3 x3)), (.box 1, [.ptr 1 0])]⟩
abbrev Q (r : R) := CallQ 3 (out x2 x3 r)
noncomputable def f (k : Nat) (x1 : Int) (x2 x3 : T26b3.T) : Option R :=
 if (decide (x1 < (0 : Int))) = true then
  some (true, ())
 else
  some ((decide (x1 ≥ (x3.1.length : Int))), ())
theorem f_ok {r k x1 x2 x3} (H : f k x1 x2 x3 = some r) : Gw P 3 (Q x2 x3 r) (Px c0 1 []) (s0 x1 x2 x3) := by
 unfold f at H
 refine Ra ?_
 rcases of_ite H with ⟨hb1, H⟩ | ⟨hb1, H⟩
 ·refine Rg V_ok 0 [(1, {bv := some true})] (ac hb1 az) ?_
  obtain rfl := Option.some.inj H
  exact Lq (tn [3] 3)
 ·refine Rg V_ok 0 [(1, {bv := some false})] (ac hb1 az) ?_
  obtain rfl := Option.some.inj H
  exact Lq (tn [3] 3)
theorem at_ : FnAt P 82 16 c0 f82.results := fnA func82
end i_control_controller_is_1_91e
namespace i_slices_IndexFunc_int_da8
noncomputable def c0 : Code := bo f120
noncomputable def V : Env := eV []
theorem V_ok : EnvOk P V := eOk (slk_nil)
variable (x1 : List Int) (x2 x3 : T26b3.T)
noncomputable def h0 (l : Hl) : Hl := (.box 13, (encC .any T26b3 x2)) :: (.box 13, (encC .any T26b3 x3)) :: (.box 1, [.ptr 1 0]) :: l
abbrev R := (Int) × Unit
noncomputable def s0 : St := ⟨19, [(0, .cv (.one (.sl (.int .i64) x1 .any))), (1, .cv (.one (.fn 82 [] [(2, 0)])))], (h0 x2 x3 [])⟩
noncomputable def out (r : R) : St := ⟨19, [(4, .cv (.one (.i r.1)))], (h0 x2 x3 [])⟩
abbrev Q (r : R) := CallQ 3 (out x2 x3 r)
noncomputable def s1 (p2 p3 : Int) : St := ⟨19, [(0, .cv (.one (.sl (.int .i64) x1 .any))), (1, .cv (.one (.fn 82 [] [(2, 0)]))), (7, .cv (.one (.i p2))), (8, .cv (.one (.i p3)))], (h0 x2 x3 [])⟩
noncomputable def b1 (L1 : Int → Int → Option R) (k : Nat) (p2 p3 : Int) : Option R :=
 if (decide (p3 < p2)) = true then
 if 0 ≤ p3 then
  if p3 < (x1.length : Int) then
   (i_control_controller_is_1_91e.f k (att (.int .i64) x1 p3) x2 x3).bind fun y4 =>
    if y4.1 = true then
     some (p3, ())
    else
     L1 p2 (IntKind.i64.wrap (p3 + 1))
  else none
 else none
else
 some ((-1), ())
theorem b1_ok {r x1 x2 x3} {L1 : Int → Int → Option R} {m1 : Nat} (hL1 : ∀ p2 p3, L1 p2 p3 = some r → Gw P 3 (Q x2 x3 r) (Pb c0 21 [] m1) (s1 x1 x2 x3 p2 p3)) {k p2 p3} (H : b1 x1 x2 x3 L1 k p2 p3 = some r) : Gw P 3 (Q x2 x3 r) (Px c0 37 [m1]) (s1 x1 x2 x3 p2 p3) := by
 unfold b1 at H
 refine Ra ?_
 rcases of_ite H with ⟨hb1, H⟩ | ⟨hb1, H⟩
 ·refine C1 hb1 ?_
  refine Ra ?_
  refine GT (tn [0, 1, 5, 7, 8] 3) (RI ?_)
  obtain ⟨n2, H⟩ := of_if H
  obtain ⟨n3, H⟩ := of_if H
  refine EV V_ok 0 [] 5 (ac n2 (ac n3 az)) ?_
  obtain ⟨y4, e5, H⟩ := of_bind H
  refine CL V_ok i_control_controller_is_1_91e.at_ (of_G (i_control_controller_is_1_91e.f_ok e5)) ?_
  refine RN ?_
  rcases of_ite H with ⟨hb6, H⟩ | ⟨hb6, H⟩
  ·refine C1 hb6 ?_
   refine Ra ?_
   obtain rfl := Option.some.inj H
   exact Lq (tn [4] 3)
  ·refine C0 hb6 ?_
   refine Ra ?_
   exact Jm (tn [0, 1, 7, 8] 3) (hL1 p2 (IntKind.i64.wrap (p3 + 1)) H)
 ·refine C0 hb1 ?_
  refine Ra ?_
  obtain rfl := Option.some.inj H
  exact Lq (tn [4] 3)
noncomputable def l1 (k : Nat) : Nat → Int → Int → Option R
 | 0, _, _ => none
 | m + 1, p2, p3 => b1 x1 x2 x3 (l1 k m) k p2 p3
theorem l1_ok {r x1 x2 x3} (k : Nat) : ∀ (m1 : Nat) (p2 : Int) (p3 : Int), l1 x1 x2 x3 k m1 p2 p3 = some r → Gw P 3 (Q x2 x3 r) (Pb c0 21 [] m1) (s1 x1 x2 x3 p2 p3)
 | 0, _, _, H => by cases H
 | m1 + 1, p2, p3, H => SU (by kernel_rfl) (b1_ok (l1_ok k m1) H)
noncomputable def f (k : Nat) (x1 : List Int) (x2 x3 : T26b3.T) : Option R :=
 l1 x1 x2 x3 k k (x1.length : Int) 0
theorem f_ok {r k x1 x2 x3} (H : f k x1 x2 x3 = some r) : Gw P 3 (Q x2 x3 r) (Px c0 1 []) (s0 x1 x2 x3) := by
 unfold f at H
 refine Ra ?_
 refine Ra ?_
 exact LP k (Jm (tn [0, 1, 7, 8] 3) (l1_ok k k (x1.length : Int) 0 H))
theorem at_ : FnAt P 120 19 c0 f120.results := fnA func120
end i_slices_IndexFunc_int_da8
namespace i_slices_ContainsFunc_int_da8
noncomputable def c0 : Code := bo f84
noncomputable def V : Env := eV []
theorem V_ok : EnvOk P V := eOk (slk_nil)
variable (x1 : List Int) (x2 x3 : T26b3.T)
abbrev R := (Bool) × Unit
noncomputable def s0 : St := ⟨9, [(0, .cv (.one (.sl (.int .i64) x1 .any))), (1, .cv (.one (.fn 82 [] [(2, 0)])))], [(.box 13, (encC .any T26b3 x2)), (.box 13, (encC .any T26b3 x3)), (.box 1, [.ptr 1 0])]⟩
noncomputable def out (r : R) : St := ⟨9, [(4, .cv (.one (.bool r.1)))], [(.box 13, (encC .any T26b3 x2)), (.box 13, (encC .any T26b3 x3)), (.box 1, [.ptr 1 0])]⟩
abbrev Q (r : R) := CallQ 3 (out x2 x3 r)
noncomputable def f (k : Nat) (x1 : List Int) (x2 x3 : T26b3.T) : Option R :=
 (i_slices_IndexFunc_int_da8.f k x1 x2 x3).bind fun y1 =>
  some ((decide (y1.1 ≥ (0 : Int))), ())
theorem f_ok {r k x1 x2 x3} (H : f k x1 x2 x3 = some r) : Gw P 3 (Q x2 x3 r) (Px c0 1 []) (s0 x1 x2 x3) := by
 unfold f at H
 refine Ra ?_
 refine GT (tn [0, 1] 3) (RI ?_)
 refine EV V_ok 0 [] 2 az ?_
 obtain ⟨y1, e2, H⟩ := of_bind H
 refine CL V_ok i_slices_IndexFunc_int_da8.at_ (of_G (i_slices_IndexFunc_int_da8.f_ok e2)) ?_
 refine EV V_ok 0 [] 2 az ?_
 refine RN ?_
 obtain rfl := Option.some.inj H
 exact Lq (tn [4] 3)
theorem at_ : FnAt P 84 9 c0 f84.results := fnA func84
end i_slices_ContainsFunc_int_da8
namespace i_control_controller_is_023
noncomputable def c0 : Code := bo f33
noncomputable def V : Env := eV []
theorem V_ok : EnvOk P V := eOk (slk_nil)
variable (x1 x2 : T26b3.T)
abbrev R := (Bool) × Unit
noncomputable def s0 : St := ⟨57, [(0, .cv (.one (.ptr 1 0)))], [(.box 13, (encC .any T26b3 x1)), (.box 13, (encC .any T26b3 x2))]⟩
noncomputable def out (r : R) : St := ⟨57, [(2, .cv (.one (.bool r.1)))], [(.box 13, (encC .any T26b3 x1)), (.box 13, (encC .any T26b3 x2))]⟩
abbrev Q (r : R) := CallQ 2 (out x1 x2 r)
noncomputable def s1 (p1 : Bool) : St := ⟨57, [(1, .cv (.one (.ptr 2 0))), (3, .cv (.one (.fn 82 [] [(2, 0)]))), (4, .cv (.one (.bool p1)))], [(.box 13, (encC .any T26b3 x1)), (.box 13, (encC .any T26b3 x2)), (.box 1, [.ptr 1 0])]⟩
noncomputable def j1 (k : Nat) (p1 : Bool) : Option R :=
 if p1 = true then
 (i_control_controller_is_1_91e.f k x2.2.1 x1 x2).bind fun y6 =>
  if (!y6.1) = true then
   (i_slices_ContainsFunc_int_da8.f k x2.2.2.2.2.2.2.2.1 x1 x2).bind fun y9 =>
    if (!y9.1) = true then
     some ((decide ((x2.2.2.2.2.2.2.2.2.1.length : Int) ≤ (100 : Int))), ())
    else
     some (false, ())
  else
   some (false, ())
else
 some (false, ())
theorem j1_ok {r x1 x2} {k p1} (H : j1 x1 x2 k p1 = some r) : Gw P 2 (Q x1 x2 r) (Px c0 15 []) (s1 x1 x2 p1) := by
 unfold j1 at H
 refine GT (tn [1, 3, 4] 3) (RI ?_)
 refine EV V_ok 0 [] 2 az ?_
 rcases of_ite H with ⟨hb5, H⟩ | ⟨hb5, H⟩
 ·refine FXO 28 hb5 ?_
  refine EV V_ok 0 [] 6 az ?_
  obtain ⟨y6, e7, H⟩ := of_bind H
  refine CL V_ok i_control_controller_is_1_91e.at_ (of_G (i_control_controller_is_1_91e.f_ok e7)) ?_
  refine EV V_ok 0 [] 3 az ?_
  rcases of_ite H with ⟨hb8, H⟩ | ⟨hb8, H⟩
  ·refine FXO 38 hb8 ?_
   refine EV V_ok 0 [] 6 az ?_
   obtain ⟨y9, e10, H⟩ := of_bind H
   refine CL V_ok i_slices_ContainsFunc_int_da8.at_ (of_G (i_slices_ContainsFunc_int_da8.f_ok e10)) ?_
   refine EV V_ok 0 [] 3 az ?_
   rcases of_ite H with ⟨hb11, H⟩ | ⟨hb11, H⟩
   ·refine FXO 48 hb11 ?_
    refine EV V_ok 0 [] 9 az ?_
    refine RN ?_
    obtain rfl := Option.some.inj H
    exact Lq (tn [2] 2)
   ·refine FXO 48 hb11 ?_
    refine EV V_ok 0 [] 9 az ?_
    refine RN ?_
    obtain rfl := Option.some.inj H
    exact Lq (tn [2] 2)
  ·refine FXO 38 hb8 ?_
   refine EV V_ok 0 [] 10 az ?_
   refine EV V_ok 0 [] 9 az ?_
   refine RN ?_
   obtain rfl := Option.some.inj H
   exact Lq (tn [2] 2)
 ·refine FXO 28 hb5 ?_
  refine EV V_ok 0 [] 10 az ?_
  refine EV V_ok 0 [] 10 az ?_
  refine EV V_ok 0 [] 9 az ?_
  refine RN ?_
  obtain rfl := Option.some.inj H
  exact Lq (tn [2] 2)
noncomputable def f (k : Nat) (x1 x2 : T26b3.T) : Option R :=
 if (x2.2.2.1 == (-1 : Int)) = true then
  (i_control_controller_two_0d3.f k x1 x2).bind fun y2 =>
   if (!y2.1) = true then
    j1 x1 x2 k true
   else
    (i_control_controller_is_1_91e.f k x2.2.2.1 x1 x2).bind fun y12 =>
     j1 x1 x2 k (!y12.1)
 else
  (i_control_controller_is_1_91e.f k x2.2.2.1 x1 x2).bind fun y14 =>
   j1 x1 x2 k (!y14.1)
theorem f_ok {r k x1 x2} (H : f k x1 x2 = some r) : Gw P 2 (Q x1 x2 r) (Px c0 1 []) (s0 x1 x2) := by
 unfold f at H
 refine Rg V_ok 1 [(0, hb 2)] az ?_
 refine Ra ?_
 refine GT (tn [1, 3] 3) (RI ?_)
 refine EV V_ok 0 [] 7 az ?_
 rcases of_ite H with ⟨hb1, H⟩ | ⟨hb1, H⟩
 ·refine FXO 12 hb1 ?_
  refine EV V_ok 0 [] 1 az ?_
  obtain ⟨y2, e3, H⟩ := of_bind H
  refine CL V_ok i_control_controller_two_0d3.at_ (of_G (i_control_controller_two_0d3.f_ok e3)) ?_
  refine EV V_ok 0 [] 3 az ?_
  rcases of_ite H with ⟨hb4, H⟩ | ⟨hb4, H⟩
  ·refine FXO 17 hb4 ?_
   refine EV V_ok 0 [] 10 az ?_
   refine RN ?_
   exact Jm (tn [1, 3, 4] 3) (j1_ok H)
  ·refine FXO 17 hb4 ?_
   refine EV V_ok 0 [] 6 az ?_
   obtain ⟨y12, e13, H⟩ := of_bind H
   refine CL V_ok i_control_controller_is_1_91e.at_ (of_G (i_control_controller_is_1_91e.f_ok e13)) ?_
   refine EV V_ok 0 [] 3 az ?_
   refine RN ?_
   exact Jm (tn [1, 3, 4] 3) (j1_ok H)
 ·refine FXO 12 hb1 ?_
  refine EV V_ok 0 [] 5 az ?_
  refine EV V_ok 0 [] 6 az ?_
  obtain ⟨y14, e15, H⟩ := of_bind H
  refine CL V_ok i_control_controller_is_1_91e.at_ (of_G (i_control_controller_is_1_91e.f_ok e15)) ?_
  refine EV V_ok 0 [] 3 az ?_
  refine RN ?_
  exact Jm (tn [1, 3, 4] 3) (j1_ok H)
theorem at_ : FnAt P 33 57 c0 f33.results := fnA func33
end i_control_controller_is_023
namespace f_control_Sends
noncomputable def c0 : Code := bo f20
abbrev ps : Sg := [(true, T26b3)]
abbrev rs : Sg := [(false, (.slice T2b36))]
noncomputable def V : Env := eV [(26, f_frame_Seal.S), (56, f_sess_First.S)]
theorem V_ok : EnvOk P V := eOk (slk_cons f_frame_Seal.fits (slk_cons f_sess_First.fits (slk_nil)))
abbrev R := Tup rs
noncomputable abbrev Q (r : R) : Exit → St → Prop := Qr tt f20.results ⟨ps, rs, .any, none, fun _ _ => True⟩ r
noncomputable def s1 (p1 : List T23b6.T) (p2 p3 : Int) (p4 : List T2b36.T) : St := ⟨52, [(4, .cv (.one (.own 0))), (18, .cv (.one (.sl T23b6 p1 .any))), (19, .cv (.one (.i p2))), (20, .cv (.one (.i p3)))], [(.buf 74 T2b36 p4, [])]⟩
noncomputable def s4 (p1 : List T23b6.T) (p2 p3 : Int) (p4 : List T2b36.T) : St := ⟨52, [(4, .cv (.one (.own 0))), (18, .cv (.one (.sl T23b6 p1 .any))), (19, .cv (.one (.i p2))), (20, .cv (.one (.i p3)))], [(.buf 74 T2b36 p4, [])]⟩
noncomputable def j4 (L1 : List T23b6.T → Int → Int → List T2b36.T → Option R) (k : Nat) (p1 : List T23b6.T) (p2 p3 : Int) (p4 : List T2b36.T) : Option R :=
 L1 p1 p2 (IntKind.i64.wrap (p3 + 1)) p4
theorem j4_ok {r} {L1 : List T23b6.T → Int → Int → List T2b36.T → Option R} {m1 : Nat} (hL1 : ∀ p1 p2 p3 p4, L1 p1 p2 p3 p4 = some r → Gw P 0 (Q r) (Pb c0 87 [] m1) (s1 p1 p2 p3 p4)) {k p1 p2 p3 p4} (H : j4 L1 k p1 p2 p3 p4 = some r) : Gw P 0 (Q r) (Px c0 1943 [m1]) (s4 p1 p2 p3 p4) := by
 unfold j4 at H
 refine Ra ?_
 exact Jm (tn [4, 18, 19, 20] 1) (hL1 p1 p2 (IntKind.i64.wrap (p3 + 1)) p4 H)
noncomputable def s2 (p1 : Int) (p2 : List T23b6.T) (p3 p4 : Int) (p5 : List T4414.T) (p6 p7 : Int) (p8 : List T2b36.T) : St := ⟨52, [(4, .cv (.one (.own 0))), (5, .cv (.one (.i p1))), (18, .cv (.one (.sl T23b6 p2 .any))), (19, .cv (.one (.i p3))), (20, .cv (.one (.i p4))), (30, .cv (.one (.sl T4414 p5 .any))), (31, .cv (.one (.i p6))), (32, .cv (.one (.i p7)))], [(.buf 74 T2b36 p8, [])]⟩
noncomputable def s3 (p1 : Int) (p2 : List T23b6.T) (p3 p4 : Int) (p5 : List T4414.T) (p6 p7 : Int) (p8 : List T2b36.T) : St := ⟨52, [(4, .cv (.one (.own 0))), (5, .cv (.one (.i p1))), (18, .cv (.one (.sl T23b6 p2 .any))), (19, .cv (.one (.i p3))), (20, .cv (.one (.i p4))), (30, .cv (.one (.sl T4414 p5 .any))), (31, .cv (.one (.i p6))), (32, .cv (.one (.i p7)))], [(.buf 74 T2b36 p8, [])]⟩
noncomputable def j3 (L1 : List T23b6.T → Int → Int → List T2b36.T → Option R) (L2 : Int → List T23b6.T → Int → Int → List T4414.T → Int → Int → List T2b36.T → Option R) (k : Nat) (p1 : Int) (p2 : List T23b6.T) (p3 p4 : Int) (p5 : List T4414.T) (p6 p7 : Int) (p8 : List T2b36.T) : Option R :=
 L2 p1 p2 p3 p4 p5 p6 (IntKind.i64.wrap (p7 + 1)) p8
theorem j3_ok {r} {L1 : List T23b6.T → Int → Int → List T2b36.T → Option R} {m1 : Nat} (hL1 : ∀ p1 p2 p3 p4, L1 p1 p2 p3 p4 = some r → Gw P 0 (Q r) (Pb c0 87 [] m1) (s1 p1 p2 p3 p4)) {L2 : Int → List T23b6.T → Int → Int → List T4414.T → Int → Int → List T2b36.T → Option R} {m2 : Nat} (hL2 : ∀ p1 p2 p3 p4 p5 p6 p7 p8, L2 p1 p2 p3 p4 p5 p6 p7 p8 = some r → Gw P 0 (Q r) (Pb c0 47511 [m1] m2) (s2 p1 p2 p3 p4 p5 p6 p7 p8)) {k p1 p2 p3 p4 p5 p6 p7 p8} (H : j3 L1 L2 k p1 p2 p3 p4 p5 p6 p7 p8 = some r) : Gw P 0 (Q r) (Px c0 997783 [m1, m2]) (s3 p1 p2 p3 p4 p5 p6 p7 p8) := by
 unfold j3 at H
 refine Ra ?_
 exact Jm (tn [4, 5, 18, 19, 20, 30, 31, 32] 1) (hL2 p1 p2 p3 p4 p5 p6 (IntKind.i64.wrap (p7 + 1)) p8 H)
noncomputable def b2 (L1 : List T23b6.T → Int → Int → List T2b36.T → Option R) (L2 : Int → List T23b6.T → Int → Int → List T4414.T → Int → Int → List T2b36.T → Option R) (k : Nat) (p1 : Int) (p2 : List T23b6.T) (p3 p4 : Int) (p5 : List T4414.T) (p6 p7 : Int) (p8 : List T2b36.T) : Option R :=
 if (decide (p7 < p6)) = true then
 if 0 ≤ p7 then
  if p7 < (p5.length : Int) then
   (f_frame_Seal.f k (att T4414 p5 p7)).bind fun y13 =>
    if (y13.2.1 == (0 : Int)) = true then
     if (p8.length + 1) * 40 ≤ 140737488355328 then
      j3 L1 L2 k p1 p2 p3 p4 p5 p6 p7 (p8 ++ [(p1, (false, y13.1))])
     else none
    else
     j3 L1 L2 k p1 p2 p3 p4 p5 p6 p7 p8
  else none
 else none
else
 j4 L1 k p2 p3 p4 p8
theorem b2_ok {r} {L1 : List T23b6.T → Int → Int → List T2b36.T → Option R} {m1 : Nat} (hL1 : ∀ p1 p2 p3 p4, L1 p1 p2 p3 p4 = some r → Gw P 0 (Q r) (Pb c0 87 [] m1) (s1 p1 p2 p3 p4)) {L2 : Int → List T23b6.T → Int → Int → List T4414.T → Int → Int → List T2b36.T → Option R} {m2 : Nat} (hL2 : ∀ p1 p2 p3 p4 p5 p6 p7 p8, L2 p1 p2 p3 p4 p5 p6 p7 p8 = some r → Gw P 0 (Q r) (Pb c0 47511 [m1] m2) (s2 p1 p2 p3 p4 p5 p6 p7 p8)) {k p1 p2 p3 p4 p5 p6 p7 p8} (H : b2 L1 L2 k p1 p2 p3 p4 p5 p6 p7 p8 = some r) : Gw P 0 (Q r) (Px c0 80279 [m1, m2]) (s2 p1 p2 p3 p4 p5 p6 p7 p8) := by
 unfold b2 at H
 refine Ra ?_
 rcases of_ite H with ⟨hb10, H⟩ | ⟨hb10, H⟩
 ·refine C1 hb10 ?_
  obtain ⟨n11, H⟩ := of_if H
  obtain ⟨n12, H⟩ := of_if H
  refine Rg V_ok 1 [(2, hb 1)] (ac n11 (ac n12 az)) ?_
  obtain ⟨y13, e14, H⟩ := of_bind H
  refine Rg V_ok 0 [(1, hr f_frame_Seal.S y13)] (ac (f_frame_Seal.rl e14) az) ?_
  refine Ra ?_
  rcases of_ite H with ⟨hb15, H⟩ | ⟨hb15, H⟩
  ·refine C1 hb15 ?_
   obtain ⟨n16, H⟩ := of_if H
   refine Rg V_ok 1 [(5, hb 2)] (ac n16 az) ?_
   exact Jm (tl [4, 5, 18, 19, 20, 30, 31, 32] [2]) (j3_ok hL1 hL2 H)
  ·refine C0 hb15 ?_
   exact Jm (tn [4, 5, 18, 19, 20, 30, 31, 32] 1) (j3_ok hL1 hL2 H)
 ·refine C0 hb10 ?_
  exact Jm (tn [4, 18, 19, 20] 1) (j4_ok hL1 H)
noncomputable def l2 (L1 : List T23b6.T → Int → Int → List T2b36.T → Option R) (k : Nat) : Nat → Int → List T23b6.T → Int → Int → List T4414.T → Int → Int → List T2b36.T → Option R
 | 0, _, _, _, _, _, _, _, _ => none
 | m + 1, p1, p2, p3, p4, p5, p6, p7, p8 => b2 L1 (l2 L1 k m) k p1 p2 p3 p4 p5 p6 p7 p8
theorem l2_ok {r} {L1 : List T23b6.T → Int → Int → List T2b36.T → Option R} {m1 : Nat} (hL1 : ∀ p1 p2 p3 p4, L1 p1 p2 p3 p4 = some r → Gw P 0 (Q r) (Pb c0 87 [] m1) (s1 p1 p2 p3 p4)) (k : Nat) : ∀ (m2 : Nat) (p1 : Int) (p2 : List T23b6.T) (p3 p4 : Int) (p5 : List T4414.T) (p6 p7 : Int) (p8 : List T2b36.T), l2 L1 k m2 p1 p2 p3 p4 p5 p6 p7 p8 = some r → Gw P 0 (Q r) (Pb c0 47511 [m1] m2) (s2 p1 p2 p3 p4 p5 p6 p7 p8)
 | 0, _, _, _, _, _, _, _, _, H => by cases H
 | m2 + 1, p1, p2, p3, p4, p5, p6, p7, p8, H => SU (by kernel_rfl) (b2_ok hL1 (l2_ok hL1 k m2) H)
noncomputable def b1 (L1 : List T23b6.T → Int → Int → List T2b36.T → Option R) (k : Nat) (p1 : List T23b6.T) (p2 p3 : Int) (p4 : List T2b36.T) : Option R :=
 if (decide (p3 < p2)) = true then
 if 0 ≤ p3 then
  if p3 < (p1.length : Int) then
   if (decide (((att T23b6 p1 p3).1) ≤ (0 : Int))) = true then
    j4 L1 k p1 p2 p3 p4
   else
    (f_sess_First.f k (((att T23b6 p1 p3).2).2) (2 : Int)).bind fun y8 =>
     l2 L1 k k p3 p1 p2 p3 y8.1 (y8.1.length : Int) 0 p4
  else none
 else none
else
 some (p4, ())
theorem b1_ok {r} {L1 : List T23b6.T → Int → Int → List T2b36.T → Option R} {m1 : Nat} (hL1 : ∀ p1 p2 p3 p4, L1 p1 p2 p3 p4 = some r → Gw P 0 (Q r) (Pb c0 87 [] m1) (s1 p1 p2 p3 p4)) {k p1 p2 p3 p4} (H : b1 L1 k p1 p2 p3 p4 = some r) : Gw P 0 (Q r) (Px c0 151 [m1]) (s1 p1 p2 p3 p4) := by
 unfold b1 at H
 refine Ra ?_
 rcases of_ite H with ⟨hb4, H⟩ | ⟨hb4, H⟩
 ·refine C1 hb4 ?_
  obtain ⟨n5, H⟩ := of_if H
  obtain ⟨n6, H⟩ := of_if H
  refine Rg V_ok 1 [(3, hb 1)] (ac n5 (ac n6 az)) ?_
  refine Ra ?_
  rcases of_ite H with ⟨hb7, H⟩ | ⟨hb7, H⟩
  ·refine C1 hb7 ?_
   exact Jm (tn [4, 18, 19, 20] 1) (j4_ok hL1 H)
  ·refine C0 hb7 ?_
   obtain ⟨y8, e9, H⟩ := of_bind H
   refine Rg V_ok 0 [(2, hr f_sess_First.S y8)] (ac (f_sess_First.rl e9) az) ?_
   exact LP k (Jm (tn [4, 5, 18, 19, 20, 30, 31, 32] 1) (l2_ok hL1 k k p3 p1 p2 p3 y8.1 (y8.1.length : Int) 0 p4 H))
 ·refine C0 hb4 ?_
  refine Ra ?_
  exact Le H
noncomputable def l1 (k : Nat) : Nat → List T23b6.T → Int → Int → List T2b36.T → Option R
 | 0, _, _, _, _ => none
 | m + 1, p1, p2, p3, p4 => b1 (l1 k m) k p1 p2 p3 p4
theorem l1_ok {r} (k : Nat) : ∀ (m1 : Nat) (p1 : List T23b6.T) (p2 p3 : Int) (p4 : List T2b36.T), l1 k m1 p1 p2 p3 p4 = some r → Gw P 0 (Q r) (Pb c0 87 [] m1) (s1 p1 p2 p3 p4)
 | 0, _, _, _, _, H => by cases H
 | m1 + 1, p1, p2, p3, p4, H => SU (by kernel_rfl) (b1_ok (l1_ok k m1) H)
noncomputable def f (k : Nat) (a1 : T26b3.T) : Option R :=
 (i_control_controller_is_023.f k a1 a1).bind fun y1 =>
  if (!y1.1) = true then
   some ([], ())
  else
   l1 k k a1.2.2.2.2.2.2.2.2.1 (a1.2.2.2.2.2.2.2.2.1.length : Int) 0 []
noncomputable def S : Spec := ⟨ps, rs, .any, none, fun x r => ∃ k, f k x.1 = some r⟩
theorem rl {k a1 r} (e : f k a1 = some r) : S.rel (a1, ()) r := ⟨k, e⟩
theorem f_ok {r k a1} (H : f k a1 = some r) : Gw P 0 (Q r) (Px c0 1 []) (⟨52, [(0, .cv (.agg (encC .any T26b3 a1)))], []⟩) := by
 unfold f at H
 refine Rg V_ok 1 [(0, hb 0)] az ?_
 refine Rg V_ok 1 [(2, hb 1)] az ?_
 refine GT (tn [1, 3] 2) (RI ?_)
 refine EV V_ok 0 [] 1 az ?_
 obtain ⟨y1, e2, H⟩ := of_bind H
 refine CL V_ok i_control_controller_is_023.at_ (of_G (i_control_controller_is_023.f_ok e2)) ?_
 refine EV V_ok 0 [] 1 az ?_
 refine RN ?_
 rcases of_ite H with ⟨hb3, H⟩ | ⟨hb3, H⟩
 ·refine C1 hb3 ?_
  refine Ra ?_
  exact Le H
 ·refine C0 hb3 ?_
  refine Ra ?_
  refine Ra ?_
  exact LP k (Jm {fz := [], gr := 1, ad := [.ownT 4 2 74 T2b36], live := [4, 18, 19, 20], src := [some 2]} (l1_ok k k a1.2.2.2.2.2.2.2.2.1 (a1.2.2.2.2.2.2.2.2.1.length : Int) 0 [] H))
theorem fits : Fits P 20 S := fitsA V_ok func20 fun x r ⟨k, H⟩ => of_G (f_ok H)
end f_control_Sends

namespace f_law21_awake
noncomputable def c0 : Code := bo f7
abbrev ps : Sg := []
abbrev rs : Sg := [(false, .bool)]
noncomputable def V : Env := eV [(10, f_control_Heard.S), (15, f_control_New.S), (20, f_control_Sends.S), (25, f_law13_Two.S), (26, f_frame_Seal.S), (27, f_frame_Open.S)]
theorem V_ok : EnvOk P V := eOk (slk_cons f_control_Heard.fits (slk_cons f_control_New.fits (slk_cons f_control_Sends.fits (slk_cons f_law13_Two.fits (slk_cons f_frame_Seal.fits (slk_cons f_frame_Open.fits (slk_nil)))))))
abbrev R := Tup rs
noncomputable abbrev Q (r : R) : Exit → St → Prop := Qr tt f7.results ⟨ps, rs, .any, none, fun _ _ => True⟩ r
noncomputable def s1 (p1 : List T2b36.T) (p2 : Bool) : St := ⟨87, [(6, .cv (.one (.sl T2b36 p1 .any))), (42, .cv (.one (.bool p2)))], []⟩
noncomputable def j1 (k : Nat) (p1 : List T2b36.T) (p2 : Bool) : Option R :=
 if p2 = true then
 some (false, ())
else
 if (0 : Int) < (p1.length : Int) then
  (f_frame_Open.f k (((att T2b36 p1 0).2).2)).bind fun y13 =>
   if (1 : Int) < (p1.length : Int) then
    (f_frame_Open.f k (((att T2b36 p1 1).2).2)).bind fun y16 =>
     if (y13.2.1 == (0 : Int)) = true then
      if (y16.2.1 == (0 : Int)) = true then
       if (y13.1.1 == (3 : Int)) = true then
        if (y13.1.2.2.2.1 == (1 : Int)) = true then
         if (y16.1.1 == (5 : Int)) = true then
          some ((((att T2b36 p1 1).1) == (0 : Int)), ())
         else
          some (false, ())
        else
         some (false, ())
       else
        some (false, ())
      else
       some (false, ())
     else
      some (false, ())
   else none
 else none
theorem j1_ok {r} {k p1 p2} (H : j1 k p1 p2 = some r) : Gw P 0 (Q r) (Px c0 223 []) (s1 p1 p2) := by
 unfold j1 at H
 rcases of_ite H with ⟨hb12, H⟩ | ⟨hb12, H⟩
 ·refine C1 hb12 ?_
  refine Ra ?_
  exact Le H
 ·refine C0 hb12 ?_
  obtain ⟨n14, H⟩ := of_if H
  obtain ⟨y13, e15, H⟩ := of_bind H
  refine Rg V_ok 1 [(4, hr f_frame_Open.S y13), (8, hb 0)] (ac (show 0 ≤ (0 : Int) by decide) (ac n14 (ac (f_frame_Open.rl e15) az))) ?_
  obtain ⟨n17, H⟩ := of_if H
  obtain ⟨y16, e18, H⟩ := of_bind H
  refine Rg V_ok 1 [(4, hr f_frame_Open.S y16), (8, hb 1)] (ac (show 0 ≤ (1 : Int) by decide) (ac n17 (ac (f_frame_Open.rl e18) az))) ?_
  rcases of_ite H with ⟨hb19, H⟩ | ⟨hb19, H⟩
  ·rcases of_ite H with ⟨hb20, H⟩ | ⟨hb20, H⟩
   ·rcases of_ite H with ⟨hb21, H⟩ | ⟨hb21, H⟩
    ·rcases of_ite H with ⟨hb22, H⟩ | ⟨hb22, H⟩
     ·rcases of_ite H with ⟨hb23, H⟩ | ⟨hb23, H⟩
      ·refine Rg V_ok 0 [(1, {bv := some true}), (5, {bv := some true}), (10, {bv := some true}), (15, {bv := some true}), (20, {bv := some true})] (ac hb19 (ac hb20 (ac hb21 (ac hb22 (ac hb23 (ac (show 0 ≤ (1 : Int) by decide) (ac n17 az))))))) ?_
       exact Le H
      ·refine Rg V_ok 0 [(1, {bv := some true}), (5, {bv := some true}), (10, {bv := some true}), (15, {bv := some true}), (20, {bv := some false})] (ac hb19 (ac hb20 (ac hb21 (ac hb22 (ac hb23 az))))) ?_
       exact Le H
     ·refine Rg V_ok 0 [(1, {bv := some true}), (5, {bv := some true}), (10, {bv := some true}), (15, {bv := some false})] (ac hb19 (ac hb20 (ac hb21 (ac hb22 az)))) ?_
      exact Le H
    ·refine Rg V_ok 0 [(1, {bv := some true}), (5, {bv := some true}), (10, {bv := some false})] (ac hb19 (ac hb20 (ac hb21 az))) ?_
     exact Le H
   ·refine Rg V_ok 0 [(1, {bv := some true}), (5, {bv := some false})] (ac hb19 (ac hb20 az)) ?_
    exact Le H
  ·refine Rg V_ok 0 [(1, {bv := some false})] (ac hb19 az) ?_
   exact Le H
noncomputable def f (k : Nat) : Option R :=
 (f_law13_Two.f k).bind fun y1 =>
  (f_frame_Seal.f k (0, (1, (0, (0, ((0, 0), (0, (0, (0, 0))))))))).bind fun y3 =>
   (f_control_New.f k y1.1).bind fun y5 =>
    (f_control_Heard.f k y5.1 (0 : Int) y3.1).bind fun y6 =>
     (f_control_Sends.f k y6.1).bind fun y9 =>
      if ((y9.1.length : Int) != (2 : Int)) = true then
       j1 k y9.1 true
      else
       if ((y6.1.2.2.2.2.2.2.2.2.1.length : Int) != (2 : Int)) = true then
        j1 k y9.1 true
       else
        if (0 : Int) < (y6.1.2.2.2.2.2.2.2.2.1.length : Int) then
         j1 k y9.1 (((att T23b6 y6.1.2.2.2.2.2.2.2.2.1 0).1) != (1 : Int))
        else none
noncomputable def S : Spec := ⟨ps, rs, .any, none, fun x r => ∃ k, f k = some r⟩
theorem rl {k r} (e : f k = some r) : S.rel (()) r := ⟨k, e⟩
theorem f_ok {r k} (H : f k = some r) : Gw P 0 (Q r) (Px c0 1 []) (⟨87, [], []⟩) := by
 unfold f at H
 refine Ra ?_
 obtain ⟨y1, e2, H⟩ := of_bind H
 refine Rg V_ok 1 [(0, hr f_law13_Two.S y1), (4, hb 0)] (ac (f_law13_Two.rl e2) az) ?_
 obtain ⟨y3, e4, H⟩ := of_bind H
 refine Rg V_ok 0 [(1, hr f_frame_Seal.S y3)] (ac (f_frame_Seal.rl e4) az) ?_
 obtain ⟨y5, e7, H⟩ := of_bind H
 obtain ⟨y6, e8, H⟩ := of_bind H
 refine Rg V_ok 1 [(1, hr f_control_New.S y5), (3, hr f_control_Heard.S y6), (4, hb 1)] (ac (f_control_New.rl e7) (ac (f_control_Heard.rl e8) az)) ?_
 obtain ⟨y9, e10, H⟩ := of_bind H
 refine Rg V_ok 0 [(1, hr f_control_Sends.S y9)] (ac (f_control_Sends.rl e10) az) ?_
 rcases of_ite H with ⟨hb11, H⟩ | ⟨hb11, H⟩
 ·refine Rg V_ok 0 [(2, {bv := some true})] (ac hb11 az) ?_
  exact Jm (tn [6, 42] 0) (j1_ok H)
 ·rcases of_ite H with ⟨hb24, H⟩ | ⟨hb24, H⟩
  ·refine Rg V_ok 0 [(2, {bv := some false}), (8, {bv := some true})] (ac hb11 (ac hb24 az)) ?_
   exact Jm (tn [6, 42] 0) (j1_ok H)
  ·obtain ⟨n25, H⟩ := of_if H
   refine Rg V_ok 0 [(2, {bv := some false}), (8, {bv := some false})] (ac hb11 (ac hb24 (ac (show 0 ≤ (0 : Int) by decide) (ac n25 az)))) ?_
   exact Jm (tn [6, 42] 0) (j1_ok H)
theorem fits : Fits P 7 S := fitsA V_ok func7 fun x r ⟨k, H⟩ => of_G (f_ok H)
end f_law21_awake

namespace f_law12_Few
noncomputable def c0 : Code := bo f12
abbrev ps : Sg := [(false, (.slice (.slice T1383)))]
abbrev rs : Sg := [(false, .bool)]
noncomputable def V : Env := eV []
theorem V_ok : EnvOk P V := eOk (slk_nil)
abbrev R := Tup rs
noncomputable abbrev Q (r : R) : Exit → St → Prop := Qr tt f12.results ⟨ps, rs, .any, none, fun _ _ => True⟩ r
noncomputable def s1 (p1 : List (List T1383.T)) (p2 : Int) : St := ⟨19, [(0, .cv (.one (.sl (.slice T1383) p1 .any))), (3, .cv (.one (.i p2)))], []⟩
noncomputable def b1 (L1 : List (List T1383.T) → Int → Option R) (k : Nat) (p1 : List (List T1383.T)) (p2 : Int) : Option R :=
 if (decide (p2 < (p1.length : Int))) = true then
 if 0 ≤ p2 then
  if p2 < (p1.length : Int) then
   if (decide (((att (.slice T1383) p1 p2).length : Int) > (60 : Int))) = true then
    some (false, ())
   else
    L1 p1 (IntKind.i64.wrap (p2 + 1))
  else none
 else none
else
 some (true, ())
theorem b1_ok {r} {L1 : List (List T1383.T) → Int → Option R} {m1 : Nat} (hL1 : ∀ p1 p2, L1 p1 p2 = some r → Gw P 0 (Q r) (Pb c0 43 [] m1) (s1 p1 p2)) {k p1 p2} (H : b1 L1 k p1 p2 = some r) : Gw P 0 (Q r) (Px c0 75 [m1]) (s1 p1 p2) := by
 unfold b1 at H
 refine Ra ?_
 rcases of_ite H with ⟨hb2, H⟩ | ⟨hb2, H⟩
 ·refine C1 hb2 ?_
  obtain ⟨n3, H⟩ := of_if H
  obtain ⟨n4, H⟩ := of_if H
  refine Rg V_ok 0 [] (ac n3 (ac n4 az)) ?_
  rcases of_ite H with ⟨hb5, H⟩ | ⟨hb5, H⟩
  ·refine C1 hb5 ?_
   refine Ra ?_
   exact Le H
  ·refine C0 hb5 ?_
   refine Ra ?_
   exact Jm (tn [0, 3] 0) (hL1 p1 (IntKind.i64.wrap (p2 + 1)) H)
 ·refine C0 hb2 ?_
  refine Ra ?_
  exact Le H
noncomputable def l1 (k : Nat) : Nat → List (List T1383.T) → Int → Option R
 | 0, _, _ => none
 | m + 1, p1, p2 => b1 (l1 k m) k p1 p2
theorem l1_ok {r} (k : Nat) : ∀ (m1 : Nat) (p1 : List (List T1383.T)) (p2 : Int), l1 k m1 p1 p2 = some r → Gw P 0 (Q r) (Pb c0 43 [] m1) (s1 p1 p2)
 | 0, _, _, H => by cases H
 | m1 + 1, p1, p2, H => SU (by kernel_rfl) (b1_ok (l1_ok k m1) H)
noncomputable def f (k : Nat) (a1 : List (List T1383.T)) : Option R :=
 if (decide ((a1.length : Int) > (10 : Int))) = true then
  some (false, ())
 else
  l1 k k a1 0
noncomputable def S : Spec := ⟨ps, rs, .any, none, fun x r => ∃ k, f k x.1 = some r⟩
theorem rl {k a1 r} (e : f k a1 = some r) : S.rel (a1, ()) r := ⟨k, e⟩
theorem f_ok {r k a1} (H : f k a1 = some r) : Gw P 0 (Q r) (Px c0 1 []) (⟨19, [(0, .cv (.one (.sl (.slice T1383) a1 .any)))], []⟩) := by
 unfold f at H
 refine Ra ?_
 refine Ra ?_
 rcases of_ite H with ⟨hb1, H⟩ | ⟨hb1, H⟩
 ·refine C1 hb1 ?_
  refine Ra ?_
  exact Le H
 ·refine C0 hb1 ?_
  refine Ra ?_
  exact LP k (Jm (tn [0, 3] 0) (l1_ok k k a1 0 H))
theorem fits : Fits P 12 S := fitsA V_ok func12 fun x r ⟨k, H⟩ => of_G (f_ok H)
end f_law12_Few

namespace f_law21_Few
noncomputable def c0 : Code := bo f8
abbrev ps : Sg := [(true, T26b3)]
abbrev rs : Sg := [(false, .bool)]
noncomputable def V : Env := eV [(12, f_law12_Few.S)]
theorem V_ok : EnvOk P V := eOk (slk_cons f_law12_Few.fits (slk_nil))
abbrev R := Tup rs
noncomputable abbrev Q (r : R) : Exit → St → Prop := Qr tt f8.results ⟨ps, rs, .any, none, fun _ _ => True⟩ r
noncomputable def s1 (a1 : T26b3.T) (p1 : Bool) : St := ⟨71, [(1, .cv (.one (.ptr 0 0))), (39, .cv (.one (.bool p1)))], [(.box 13, (encC .any T26b3 a1))]⟩
noncomputable def s2 (a1 : T26b3.T) (p1 : Int) : St := ⟨71, [(1, .cv (.one (.ptr 0 0))), (3, .cv (.one (.i p1)))], [(.box 13, (encC .any T26b3 a1))]⟩
noncomputable def s3 (a1 : T26b3.T) (p1 : Int) : St := ⟨71, [(1, .cv (.one (.ptr 0 0))), (5, .cv (.one (.i p1)))], [(.box 13, (encC .any T26b3 a1))]⟩
noncomputable def b3 (a1 : T26b3.T) (L3 : Int → Option R) (k : Nat) (p1 : Int) : Option R :=
 if (decide (p1 < (a1.2.2.2.2.2.2.2.2.1.length : Int))) = true then
 if 0 ≤ p1 then
  if p1 < (a1.2.2.2.2.2.2.2.2.1.length : Int) then
   if (decide (((((((att T23b6 a1.2.2.2.2.2.2.2.2.1 p1).2).2).2).2).length : Int) > (100 : Int))) = true then
    some (false, ())
   else
    L3 (IntKind.i64.wrap (p1 + 1))
  else none
 else none
else
 some (true, ())
theorem b3_ok {r a1} {L3 : Int → Option R} {m3 : Nat} (hL3 : ∀ p1, L3 p1 = some r → Gw P 0 (Q r) (Pb c0 87 [] m3) (s3 a1 p1)) {k p1} (H : b3 a1 L3 k p1 = some r) : Gw P 0 (Q r) (Px c0 151 [m3]) (s3 a1 p1) := by
 unfold b3 at H
 refine Ra ?_
 rcases of_ite H with ⟨hb9, H⟩ | ⟨hb9, H⟩
 ·refine C1 hb9 ?_
  obtain ⟨n10, H⟩ := of_if H
  obtain ⟨n11, H⟩ := of_if H
  refine Rg V_ok 0 [] (ac n10 (ac n11 az)) ?_
  rcases of_ite H with ⟨hb12, H⟩ | ⟨hb12, H⟩
  ·refine C1 hb12 ?_
   refine Ra ?_
   exact Le H
  ·refine C0 hb12 ?_
   refine Ra ?_
   exact Jm (tn [1, 5] 1) (hL3 (IntKind.i64.wrap (p1 + 1)) H)
 ·refine C0 hb9 ?_
  refine Ra ?_
  exact Le H
noncomputable def l3 (a1 : T26b3.T) (k : Nat) : Nat → Int → Option R
 | 0, _ => none
 | m + 1, p1 => b3 a1 (l3 a1 k m) k p1
theorem l3_ok {r a1} (k : Nat) : ∀ (m3 : Nat) (p1 : Int), l3 a1 k m3 p1 = some r → Gw P 0 (Q r) (Pb c0 87 [] m3) (s3 a1 p1)
 | 0, _, H => by cases H
 | m3 + 1, p1, H => SU (by kernel_rfl) (b3_ok (l3_ok k m3) H)
noncomputable def b2 (a1 : T26b3.T) (L2 : Int → Option R) (k : Nat) (p1 : Int) : Option R :=
 if (decide (p1 < (a1.1.length : Int))) = true then
 if 0 ≤ p1 then
  if p1 < (a1.1.length : Int) then
   (f_law12_Few.f k (att (.slice (.slice T1383)) a1.1 p1)).bind fun y4 =>
    if (!y4.1) = true then
     some (false, ())
    else
     L2 (IntKind.i64.wrap (p1 + 1))
  else none
 else none
else
 l3 a1 k k 0
theorem b2_ok {r a1} {L2 : Int → Option R} {m2 : Nat} (hL2 : ∀ p1, L2 p1 = some r → Gw P 0 (Q r) (Pb c0 43 [] m2) (s2 a1 p1)) {k p1} (H : b2 a1 L2 k p1 = some r) : Gw P 0 (Q r) (Px c0 75 [m2]) (s2 a1 p1) := by
 unfold b2 at H
 refine Ra ?_
 rcases of_ite H with ⟨hb3, H⟩ | ⟨hb3, H⟩
 ·refine C1 hb3 ?_
  obtain ⟨n5, H⟩ := of_if H
  obtain ⟨n6, H⟩ := of_if H
  obtain ⟨y4, e7, H⟩ := of_bind H
  refine Rg V_ok 0 [(5, hr f_law12_Few.S y4)] (ac n5 (ac n6 (ac (f_law12_Few.rl e7) az))) ?_
  refine Ra ?_
  rcases of_ite H with ⟨hb8, H⟩ | ⟨hb8, H⟩
  ·refine C1 hb8 ?_
   refine Ra ?_
   exact Le H
  ·refine C0 hb8 ?_
   refine Ra ?_
   exact Jm (tn [1, 3] 1) (hL2 (IntKind.i64.wrap (p1 + 1)) H)
 ·refine C0 hb3 ?_
  refine Ra ?_
  exact LP k (Jm (tn [1, 5] 1) (l3_ok k k 0 H))
noncomputable def l2 (a1 : T26b3.T) (k : Nat) : Nat → Int → Option R
 | 0, _ => none
 | m + 1, p1 => b2 a1 (l2 a1 k m) k p1
theorem l2_ok {r a1} (k : Nat) : ∀ (m2 : Nat) (p1 : Int), l2 a1 k m2 p1 = some r → Gw P 0 (Q r) (Pb c0 43 [] m2) (s2 a1 p1)
 | 0, _, H => by cases H
 | m2 + 1, p1, H => SU (by kernel_rfl) (b2_ok (l2_ok k m2) H)
noncomputable def j1 (a1 : T26b3.T) (k : Nat) (p1 : Bool) : Option R :=
 if p1 = true then
 some (false, ())
else
 l2 a1 k k 0
theorem j1_ok {r a1} {k p1} (H : j1 a1 k p1 = some r) : Gw P 0 (Q r) (Px c0 13 []) (s1 a1 p1) := by
 unfold j1 at H
 rcases of_ite H with ⟨hb2, H⟩ | ⟨hb2, H⟩
 ·refine C1 hb2 ?_
  refine Ra ?_
  exact Le H
 ·refine C0 hb2 ?_
  refine Ra ?_
  exact LP k (Jm (tn [1, 3] 1) (l2_ok k k 0 H))
noncomputable def f (k : Nat) (a1 : T26b3.T) : Option R :=
 if (decide ((a1.1.length : Int) > (12 : Int))) = true then
  j1 a1 k true
 else
  if (decide ((a1.2.2.2.2.2.2.2.2.1.length : Int) > (12 : Int))) = true then
   j1 a1 k true
  else
   if (decide ((a1.2.2.2.2.2.2.2.1.length : Int) > (100 : Int))) = true then
    j1 a1 k true
   else
    if (decide ((a1.2.2.2.2.2.2.2.2.2.1.length : Int) > (100 : Int))) = true then
     j1 a1 k true
    else
     if (decide ((a1.2.2.2.2.2.2.2.2.2.2.1.length : Int) > (100 : Int))) = true then
      j1 a1 k true
     else
      j1 a1 k (decide ((a1.2.2.2.2.2.2.2.2.2.2.2.1.length : Int) > (100 : Int)))
noncomputable def S : Spec := ⟨ps, rs, .any, none, fun x r => ∃ k, f k x.1 = some r⟩
theorem rl {k a1 r} (e : f k a1 = some r) : S.rel (a1, ()) r := ⟨k, e⟩
theorem f_ok {r k a1} (H : f k a1 = some r) : Gw P 0 (Q r) (Px c0 1 []) (⟨71, [(0, .cv (.agg (encC .any T26b3 a1)))], []⟩) := by
 unfold f at H
 refine Rg V_ok 1 [(0, hb 0)] az ?_
 rcases of_ite H with ⟨hb1, H⟩ | ⟨hb1, H⟩
 ·refine Rg V_ok 0 [(3, {bv := some true})] (ac hb1 az) ?_
  exact Jm (tn [1, 39] 1) (j1_ok H)
 ·rcases of_ite H with ⟨hb13, H⟩ | ⟨hb13, H⟩
  ·refine Rg V_ok 0 [(3, {bv := some false}), (9, {bv := some true})] (ac hb1 (ac hb13 az)) ?_
   exact Jm (tn [1, 39] 1) (j1_ok H)
  ·rcases of_ite H with ⟨hb14, H⟩ | ⟨hb14, H⟩
   ·refine Rg V_ok 0 [(3, {bv := some false}), (9, {bv := some false}), (15, {bv := some true})] (ac hb1 (ac hb13 (ac hb14 az))) ?_
    exact Jm (tn [1, 39] 1) (j1_ok H)
   ·rcases of_ite H with ⟨hb15, H⟩ | ⟨hb15, H⟩
    ·refine Rg V_ok 0 [(3, {bv := some false}), (9, {bv := some false}), (15, {bv := some false}), (21, {bv := some true})] (ac hb1 (ac hb13 (ac hb14 (ac hb15 az)))) ?_
     exact Jm (tn [1, 39] 1) (j1_ok H)
    ·rcases of_ite H with ⟨hb16, H⟩ | ⟨hb16, H⟩
     ·refine Rg V_ok 0 [(3, {bv := some false}), (9, {bv := some false}), (15, {bv := some false}), (21, {bv := some false}), (27, {bv := some true})] (ac hb1 (ac hb13 (ac hb14 (ac hb15 (ac hb16 az))))) ?_
      exact Jm (tn [1, 39] 1) (j1_ok H)
     ·refine Rg V_ok 0 [(3, {bv := some false}), (9, {bv := some false}), (15, {bv := some false}), (21, {bv := some false}), (27, {bv := some false})] (ac hb1 (ac hb13 (ac hb14 (ac hb15 (ac hb16 az))))) ?_
      exact Jm (tn [1, 39] 1) (j1_ok H)
theorem fits : Fits P 8 S := fitsA V_ok func8 fun x r ⟨k, H⟩ => of_G (f_ok H)
end f_law21_Few


namespace f_tags_Next
/-- the array of 4096 bools: which tags are in a list. -/
def takenL (l : List Int) : List Bool := (List.range 4096).map fun (j : Nat) => decide ((j : Int) ∈ l)
def takenA (l : List Int) : Array Value := ((takenL l).map Value.bool).toArray
theorem takenA_size (l : List Int) : (takenA l).size = 4096 := by simp [takenA, takenL]
theorem takenA_get (l : List Int) (j : Nat) (h : j < 4096) : (takenA l)[j]? = some (.bool (decide ((j : Int) ∈ l))) := by
  simp [takenA, takenL, h]
theorem takenA_nil : takenA [] = Array.replicate 4096 (.bool false) := by
  apply Array.ext_getElem?
  intro i
  by_cases h : i < 4096
  · rw [takenA_get _ _ h]; simp [h]
  · rw [Array.getElem?_eq_none (by rw [takenA_size]; omega), Array.getElem?_eq_none (by simp; omega)]
theorem takenA_one (l : List Int) : (takenA l).all (·.oneCell') = true := by
  simp [takenA, Value.oneCell']
theorem takenA_snoc (l : List Int) (x : Int) (h0 : 0 ≤ x) (h1 : x ≤ 4095) : (takenA l).setIfInBounds x.toNat (.bool true) = takenA (l ++ [x]) := by
  apply Array.ext_getElem?
  intro i
  by_cases h : i < 4096
  · rw [Array.getElem?_setIfInBounds, takenA_get _ _ h, takenA_get _ _ h]
    by_cases e : x.toNat = i
    · subst e; simp [takenA_size]; omega
    · rw [if_neg e]
      have : ¬ (i : Int) = x := by omega
      simp [this]
  · rw [Array.getElem?_eq_none (by simp [takenA_size]; omega), Array.getElem?_eq_none (by simp [takenA_size]; omega)]
theorem takenA_skip (l : List Int) (x : Int) (h : ¬ (0 ≤ x ∧ x ≤ 4095)) : takenA (l ++ [x]) = takenA l := by
  apply Array.ext_getElem?
  intro i
  by_cases hi : i < 4096
  · rw [takenA_get _ _ hi, takenA_get _ _ hi]
    have : ¬ (i : Int) = x := by omega
    simp [this]
  · rw [Array.getElem?_eq_none (by simp [takenA_size]; omega), Array.getElem?_eq_none (by simp [takenA_size]; omega)]
theorem zeroTags : ∀ w, (zeroValue 169).run Go.Proofs.Tryz.prog w = .ok (.agg (takenA [])) w := by
  rw [takenA_nil]
  exact (zero_of_info (n := 4096) (by kernel_rfl : (Go.Proofs.Tryz.prog.info? 169).map (fun i => (i.zero, i.size)) = some (some (.agg (Array.replicate 4096 (.bool false))), 4096))).1
theorem sizeTags : (Go.Proofs.Tryz.prog.info? 169).map (·.size) = some 4096 := by kernel_rfl
section
variable {P : Program}
theorem wpList_alloc_row {ops : Array Oper} {rest : List Oper} {o : Oper} {a : Act} {w : World} {Q : Exit → Act → World → Prop} (hgd : o.guard = none) (t : TypeId) (ho : o.op = .alloc t) (Z : Array Value)
    (hz : ∀ w, (zeroValue t).run P w = .ok (.agg Z) w)
    (h : wpList P ops Q rest (a.put o.dst (.pointer (some ⟨w.heap.size, 0, none⟩))) (w.alloc (.cells Z t))) : wpList P ops Q (o :: rest) a w :=
  wpList_plain hgd fun _ hK => by
    unfold Oper.wp execOp
    simp only [ho, Instr.alloc, newVar, newRow, Value.cells, Sem.run_bind, hz, Sem.run_pure, Result.andThen_ok]
    exact hK _ _ h
theorem gate_alloc {ops : Array Oper} {rest : List Oper} {o : Oper} {a : Act} {w : World} {Q : Exit → Act → World → Prop} {t : TypeId} (_ : o.op = .alloc t) (h : wpList P ops Q (o :: rest) a w) : wpList P ops Q (o :: rest) a w := h
theorem gate_storeX {ops : Array Oper} {rest : List Oper} {o : Oper} {a : Act} {w : World} {Q : Exit → Act → World → Prop} {t : TypeId} {x y : Operand} (_ : o.op = .store t x y) (h : wpList P ops Q (o :: rest) a w) : wpList P ops Q (o :: rest) a w := h
theorem setRow_self {w : World} {g : Nat} {cs : Array Value} {t : TypeId} {fr : Nat × Nat} (h : w.heap[g]? = some (.cells cs t fr)) : w.setRow g cs = w := by
  have : (w.setRow g cs).heap = w.heap := by
    apply Array.ext_getElem?
    intro i
    by_cases e : i = g
    · subst e; rw [setRow_heap w i cs cs t fr h, h]
    · rw [setRow_other w g i cs e]
  cases w
  simp only [World.setRow] at this ⊢
  simp [this]
end
structure Aside0 (p : Prop) : Prop where mk :: (out : p)
theorem below_alloc {w W : World} (h : Below w.heap.size w W) (o : Obj) : Below w.heap.size w (W.alloc o) := h.alloc h.size o
theorem below_then {B : Nat} {w w1 w2 : World} (h : Below B w w1) (hB : B ≤ w1.heap.size) (k : Below w1.heap.size w1 w2) : Below B w w2 :=
  h.trans ⟨k.os, k.tape, k.output, k.size, fun i hi => k.block i (Nat.lt_of_lt_of_le hi hB)⟩
theorem calls_of_args {P : Program} {f : FuncId} {args args' : Array Value} {w : World} {Q : Ending → World → Prop} (h : args = args') (hc : Calls P f args' w Q) : Calls P f args w Q := h ▸ hc
/-- The cells of a list of numbers. -/
def RdI (w : World) (A : Option Addr) (l : List Int) : Prop := l.length ≤ maxLen ∧ ∀ i, i < l.length → ∃ ad, A = some ad ∧ w.cell? (ad.add i) = some (.int .i64 (l.getD i 0))
def rd (l : List Int) (i : Int) : Int := l.getD i.toNat 0
theorem RdI.below {w w1 : World} {A : Option Addr} {l : List Int} (h : RdI w A l) (hb : Below w.heap.size w w1) : RdI w1 A l := ⟨h.1, fun i hi => by
  obtain ⟨ad, e, hc⟩ := h.2 i hi
  exact ⟨ad, e, (hb.cell (World.block_lt_of_cell? w _ hc)).trans hc⟩⟩
theorem RdI.at {w : World} {A : Option Addr} {l : List Int} (h : RdI w A l) (i : Int) (h0 : 0 ≤ i) (h1 : i < (l.length : Int)) : ∃ ad, A = some ad ∧ w.cell? (ad.add i.toNat) = some (.int .i64 (rd l i)) := h.2 i.toNat (by omega)
section
variable {P : Program} {ops : Array Oper} {rest : List Oper} {o : Oper} {a : Act} {Q : Exit → Act → World → Prop} {W : World}
theorem gate_builtin {b : Builtin} {xs : Array Operand} {ts : Array TypeId} (_ho : o.op = .call { callee := .builtin b, args := xs, argTypes := ts }) (h : wpList P ops Q (o :: rest) a W) : wpList P ops Q (o :: rest) a W := h
theorem own_alloc {w : World} {et sz : Nat} {v : Value} {n : Nat} {inner : List Value} (h : Own w et sz v n inner) (o : Obj) : Own (w.alloc o) et sz v n inner := by
  rcases h with ⟨A, h⟩ | ⟨g, cap, cur, e, h0, h1, h2⟩
  · exact .inl ⟨A, h⟩
  · exact .inr ⟨g, cap, cur, e, h0, ((below_alloc (Below.refl _ _) o).block g (Array.getElem?_eq_some_iff.1 h1).1).trans h1, h2⟩
theorem wp_append1 {w0 : World} {i j : TI} (hgd : o.guard = none) (s x : Operand) (t e : Nat) (hT : TF P t i) (he : i.elem = some e) (hE : TF P e j) (hn : j.n = 1) (hby : j.bytes = 8) (ho : o.op = .call { callee := .builtin .append, args := #[s, x], argTypes := #[t, t] })
    (v : Value) (l : List Int) (p : Int) (hs : a.eval s = v) (hx : a.eval x = .slice (some ⟨W.heap.size, 0, none⟩) 1 1) (hO : Own W e 1 v l.length (l.map (Value.int .i64))) (hlim : (l.length + 1) * 8 ≤ 140737488355328)
    (hB : Below w0.heap.size w0 W) (hf : ∀ b o n c, v = .slice (some ⟨b, o, none⟩) n c → 0 < c → w0.heap.size ≤ b)
    (h : ∀ v1 w1, Own w1 e 1 v1 (l.length + 1) ((l ++ [p]).map (Value.int .i64)) → Below w0.heap.size w0 w1 → wpList P ops Q rest (a.put o.dst v1) w1) : wpList P ops Q (o :: rest) a (W.alloc (.cells #[.int .i64 p] e)) :=
  wpList_plain hgd fun K hK => by
    have hO2 := own_alloc hO (.cells #[.int .i64 p] e)
    have hB2 := hB.alloc hB.size (.cells #[.int .i64 p] e)
    generalize hW : W.alloc (.cells #[.int .i64 p] e) = W2 at *
    rw [← hn] at hO2
    obtain ⟨v', w', hr, k1, k2, k3, k4, k5, k6, k7⟩ := app_raw (news := [.int .i64 p]) (ad := ⟨W.heap.size, 0, none⟩) hT he hE (cx := 1) hO2 (by rw [hn]; simp) (by omega) (by rw [hn]; rfl) (fun q u hq => by
      cases q with
      | zero =>
        obtain rfl : Value.int .i64 p = u := by simpa using hq
        rw [Addr.add_plain, ← hW, cell_of_row _ _ _ _ _ _ (heap_alloc_new _ _)]
        rfl
      | succ q => simp at hq) (by simp [Value.oneCell']) (by rw [hby]; exact hlim) o.type
    have run : (execOp a.eval o).run P W2 = .ok (.value v') w' := by
      simp [execOp, ho, resolve, invoke, builtin, hs, hx, hr]
    unfold Oper.wp
    rw [run]
    refine hK _ _ (h v' w' (by rw [hn] at k1; rw [List.map_append]; exact k1) (hB2.trans ⟨k5, k6, k7, k3, fun b hb => k2 b (Nat.lt_of_lt_of_le hb hB2.size) fun o m c e => ?_⟩))
    rcases Nat.eq_zero_or_pos c with h0 | h0
    · exact h0
    · have := hf b o m c e h0; omega
end
theorem tfS : ∃ i, TF P 23 i ∧ i.elem = some 3 := ⟨_, TT.fact tt_ck rfl, rfl⟩
theorem tfE : ∃ j, TF P 3 j ∧ j.n = 1 ∧ j.bytes = 8 := ⟨_, TT.fact tt_ck rfl, rfl, rfl⟩
theorem el_ints {F : Nat → Prop} {w : World} : ∀ {xs : List Int} {inner : List Value}, El (RepD F w (.int .i64)) xs inner → inner = xs.map (Value.int .i64)
  | [], _, h => h
  | x :: xs, _, ⟨c, r, e, h, k⟩ => by rw [e, show c = [Value.int .i64 x] from h, el_ints k]; rfl
theorem rdI_own {w : World} {et : Nat} {v : Value} {l : List Int} (h : Own w et 1 v l.length (l.map (Value.int .i64))) : ∃ A c, v = .slice A l.length c ∧ l.length ≤ c ∧ RdI w A l := by
  rcases h with ⟨A, rfl, h0, _⟩ | ⟨g, cap, cur, rfl, h0, h1, h2, h3, h4, h5⟩
  · refine ⟨A, 0, by rw [h0], by omega, by rw [h0]; exact Nat.zero_le _, fun i hi => by omega⟩
  · refine ⟨_, cap, rfl, h2, Nat.le_trans h2 h3, fun i hi => ⟨_, rfl, ?_⟩⟩
    have hc : cur[i]? = some (.int .i64 (l.getD i 0)) := by
      have e : (cur.toList.take (l.length * 1))[i]? = some (.int .i64 (l.getD i 0)) := by
        rw [h5, List.getElem?_map, List.getElem?_eq_getElem hi]
        simp [List.getD, List.getElem?_eq_getElem hi]
      rw [List.getElem?_take, if_pos (by omega), Array.getElem?_toList] at e
      exact e
    rw [Addr.add_plain, Nat.zero_add, cell_of_row _ _ _ _ _ _ h1]
    exact hc
set_option maxHeartbeats 8000000 in
set_option maxRecDepth 100000 in
theorem taken_calls (A0 : Option Addr) (c0 : Nat) (l0 : List Int) (w : World) (hr0 : RdI w A0 l0) (hc0 : l0.length ≤ c0) :
    Calls Go.Proofs.Tryz.prog 140 #[.slice A0 l0.length c0] w fun e w' => e = .returned (.agg (takenA l0)) ∧ Below w.heap.size w w' := by
  have HR := Aside0.mk hr0
  have HC := Aside0.mk hc0
  have hmx : l0.length ≤ 9223372036854775807 := by have := hr0.1; unfold maxLen at this; omega
  clear hr0 hc0
  go_enter func140, Go.Proofs.Tryz.ntmps140
  go_wp2_with (refine wpList_alloc_row rfl 169 rfl (takenA []) zeroTags ?_)
  go_loopw [7] (fun i wr => ∃ k : Nat, k ≤ l0.length ∧ i = .int .i64 k ∧ Aside0 (wr.heap[w.heap.size]? = some (.cells (takenA (l0.take k)) 169 (0, 0))) ∧ Aside0 (Below w.heap.size w wr)) (fun i _ => l0.length - (intOf i).toNat)
  case atStart => exact ⟨0, Nat.zero_le _, rfl, ⟨by rw [List.take_zero]; exact heap_alloc_new _ _⟩, ⟨below_alloc (Below.refl _ _) _⟩⟩
  case round =>
    obtain ⟨k, hk, rfl, HH, HB⟩ := hrel
    by_cases hlt : k < l0.length
    · obtain ⟨ad, e, hx⟩ := RdI.at (HR.out.below HB.out) (k : Int) (by omega) (by omega)
      subst e
      rw [Int.toNat_natCast] at hx
      have hsn : l0.take (k + 1) = l0.take k ++ [rd l0 k] := by
        rw [List.take_succ_eq_append_getElem hlt]
        simp [rd, hlt, List.getD]
      have HS := Aside0.mk hsn
      clear hsn
      generalize rd l0 (k : Int) = x at *
      by_cases hin : 0 ≤ x ∧ x ≤ 4095
      · obtain ⟨h0, h1⟩ := hin
        have hc : wr.cell? ⟨w.heap.size, x.toNat, none⟩ = some (.bool (decide (x ∈ l0.take k))) := by
          rw [cell_of_row _ _ _ _ _ _ HH.out, takenA_get _ _ (by omega)]
          simp [show ((x.toNat : Nat) : Int) = x by omega]
        have hf : wr.frozen? ⟨w.heap.size, x.toNat, none⟩ = false := frozen_of_row _ _ _ _ _ HH.out
        go_wp2
        go_roundw
        case rel => exact ⟨k + 1, by omega, by go_num, ⟨by rw [heap_setCell_same _ _ _ _ _ _ HH.out, takenA_snoc _ _ h0 h1, ← HS.out]⟩, ⟨HB.out.setCell (p := ⟨w.heap.size, x.toNat, none⟩) (Nat.le_refl _) _⟩⟩
        case measure => simp [intOf]; omega
      · go_wp2
        all_goals
          go_roundw
          case rel => exact ⟨k + 1, by omega, by go_num, ⟨by rw [HS.out, takenA_skip _ _ hin]; exact HH.out⟩, HB⟩
          case measure => simp [intOf]; omega
    · obtain rfl : k = l0.length := by omega
      rw [List.take_length] at HH
      go_wp2_with (first | refine wpList_load_row rfl 169 _ rfl w.heap.size rfl 169 (takenA l0) (0, 0) _ HH.out Go.Proofs.Tryz.underlying169 rfl (by rw [takenA_size]; exact sizeTags) ?_ | refine wpList_store_row rfl 169 _ _ rfl w.heap.size (takenA l0) rfl rfl 169 (takenA l0) HH.out (by rw [takenA_size]; exact sizeTags) rfl (takenA_one _) ?_)
      rw [setRow_self HH.out]
      go_wp2_with fail
      refine bodyPost_ret (results_cell_row rfl _ _ w.heap.size 169 (takenA l0) (0, 0) _ rfl HH.out Go.Proofs.Tryz.underlying169 rfl (by rw [takenA_size]; exact sizeTags)) rfl ⟨rfl, HB.out⟩

def candN (fr : Int) (i : Nat) : Int := (fr + i) % 4095 + 1
def frOf (tag : Int) : Int := if tag < 0 ∨ tag > 4095 then 0 else tag
def nextSpec (tag : Int) (used : List Int) : Int := (((List.range 4095).map (candN (frOf tag))).find? (fun n => decide (n ∉ used ++ [tag]))).getD 0
theorem nextSpec_found {tag : Int} {used : List Int} {k : Nat} (hk : k < 4095) (h : ∀ j, j < k → candN (frOf tag) j ∈ used ++ [tag]) (hn : candN (frOf tag) k ∉ used ++ [tag]) : nextSpec tag used = candN (frOf tag) k := by
  unfold nextSpec
  have : ((List.range 4095).map (candN (frOf tag))).find? (fun n => decide (n ∉ used ++ [tag])) = some (candN (frOf tag) k) := by
    rw [List.find?_map]
    rw [Option.map_eq_some_iff]
    refine ⟨k, ?_, rfl⟩
    rw [List.find?_range_eq_some]
    refine ⟨by simpa using hn, by simpa using hk, fun j hj => by simpa using h j hj⟩
  rw [this]; rfl
theorem nextSpec_none {tag : Int} {used : List Int} (h : ∀ j, j < 4095 → candN (frOf tag) j ∈ used ++ [tag]) : nextSpec tag used = 0 := by
  unfold nextSpec
  have : ((List.range 4095).map (candN (frOf tag))).find? (fun n => decide (n ∉ used ++ [tag])) = none := by
    rw [List.find?_eq_none]
    intro x hx
    obtain ⟨j, hj, rfl⟩ := List.mem_map.1 hx
    have := h j (by simpa using hj)
    rw [decide_eq_true_eq]
    exact fun hc => hc this
  rw [this]; rfl
theorem candN_range {fr : Int} (h0 : 0 ≤ fr) (i : Nat) : 1 ≤ candN fr i ∧ candN fr i ≤ 4095 := by unfold candN; omega
set_option maxHeartbeats 8000000 in
set_option maxRecDepth 100000 in
theorem next_calls (a0 : Int) (A1 : Option Addr) (c1 : Nat) (l1 : List Int) (F : Nat → Prop) (w : World) (hG : Globs F w) (hr1 : RepD F w (.slice (.int .i64)) l1 [.slice A1 l1.length c1]) (hm : l1.length < 17592186044415) :
    Calls Go.Proofs.Tryz.prog 98 #[.int .i64 a0, .slice A1 l1.length c1] w fun e w' => e = .returned (.int .i64 (nextSpec a0 l1)) ∧ Below w.heap.size w w' := by
  have HR := Aside0.mk hr1
  have HG := Aside0.mk hG
  have HM := Aside0.mk hm
  clear hr1 hm hG
  go_enter func98, Go.Proofs.Tryz.ntmps98
  go_wp2_with fail
  refine (f_slices_Clone_intO.fits.calls (l1, ()) (l1, ()) ⟨0, by unfold f_slices_Clone_intO.f; rw [if_pos (show (0 + l1.length) * 8 ≤ 140737488355328 by have := HM.out; omega), if_pos (.inl rfl)]; rfl⟩ F w #[.slice A1 l1.length c1] HG.out (show All2 (RepC (E0 F) w) [Value.slice A1 l1.length c1] [cvOf false [AV.sl (.int .i64) l1 .any]] from ⟨⟨HR.out, trivial⟩, trivial⟩)).mono ?_
  rintro e w1 ⟨v, rfl, hb1, F', _, _, _, τ, xs, inner, v1, l, hown, hv, ho1, hel, hfr⟩
  obtain ⟨rfl, rfl⟩ : τ = .int .i64 ∧ l = [] := by cases hown; exact ⟨rfl, rfl⟩
  obtain rfl : l1 = xs := by cases hown; rfl
  obtain rfl : v = v1 := hv
  have hin := el_ints hel
  subst hin
  have HO1 := Aside0.mk ho1
  have HB1 := Aside0.mk hb1
  have HF1 := Aside0.mk (show ∀ b o n c, v = .slice (some ⟨b, o, none⟩) n c → 0 < c → w.heap.size ≤ b from fun b o n c e h => (hfr b o n c e h).1)
  clear ho1 hb1 hel hfr hown HG HR
  obtain ⟨iS, hTS, heS⟩ := tfS
  obtain ⟨jE, hTE, hnE, hbE⟩ := tfE
  have HS := Aside0.mk hTS
  have HE1 := Aside0.mk heS
  have HE2 := Aside0.mk hTE
  have HE3 := Aside0.mk hnE
  have HE4 := Aside0.mk hbE
  clear hTS heS hTE hnE hbE
  go_wp2_with ((with_reducible refine gate_builtin (b := .append) (xs := #[.tmp 10, .tmp 12]) rfl ?_); at_builtin; refine wp_append1 (w0 := w) rfl (.tmp 10) (.tmp 12) 23 3 HS.out HE1.out HE2.out HE3.out HE4.out rfl v l1 a0 rfl rfl HO1.out (by have := HM.out; omega) HB1.out HF1.out ?_; intro v2 w2 ho2 hb2; obtain ⟨A2, c2, rfl, hl2, hr2⟩ := rdI_own (l := l1 ++ [a0]) (by rw [List.length_append]; exact ho2); have HR2 := Aside0.mk hr2; have HL2 := Aside0.mk hl2; have HB2 := Aside0.mk hb2; clear ho2 hb2 hl2 hr2)
  refine calls_of_args (args' := #[.slice A2 (l1 ++ [a0]).length c2]) (by simp) ?_
  refine (taken_calls A2 c2 (l1 ++ [a0]) _ HR2.out HL2.out).mono ?_
  rintro e w3 ⟨rfl, hb3⟩
  have HB3 := Aside0.mk (below_then HB2.out HB2.out.size hb3)
  clear hb3
  go_wp2_with (first
    | ((with_reducible refine gate_alloc (t := 169) rfl ?_); refine wpList_alloc_row rfl 169 rfl (takenA []) zeroTags ?_)
    | ((with_reducible refine gate_storeX (t := 169) (x := .tmp 5) (y := .tmp 14) rfl ?_); refine wpList_store_row rfl 169 (.tmp 5) (.tmp 14) rfl w3.heap.size (takenA (l1 ++ [a0])) rfl rfl 169 (takenA []) (heap_alloc_new _ _) (by rw [takenA_size]; exact sizeTags) (by rw [takenA_size, takenA_size]) (takenA_one _) ?_; rw [World.setRow_alloc_new]; obtain ⟨w4, H4⟩ : ∃ w4, w3.alloc (.cells (takenA (l1 ++ [a0])) 169) = w4 := ⟨_, rfl⟩; rw [H4]; have HH := Aside0.mk (show w4.heap[w3.heap.size]? = some (.cells (takenA (l1 ++ [a0])) 169 (0, 0)) from H4 ▸ heap_alloc_new _ _); have HB := Aside0.mk (show Below w.heap.size w w4 from H4 ▸ below_alloc HB3.out _); clear H4))
  · have HF := Aside0.mk (show frOf a0 = 0 from by unfold frOf; first | rw [if_pos (by omega)] | rw [if_neg (by omega)])
    clear HM HR2 HL2 HB2 HB3 HO1 HB1 HF1 HS HE1 HE2 HE3 HE4
    go_loop [22] (fun i => ∃ k : Nat, k ≤ 4095 ∧ i = .int .i64 k ∧ Aside0 (∀ j, j < k → candN (frOf a0) j ∈ l1 ++ [a0])) (fun i => 4095 - (intOf i).toNat)
    case atStart => exact ⟨0, by omega, rfl, ⟨fun j hj => by omega⟩⟩
    case round =>
      obtain ⟨k, hk, rfl, HJ⟩ := hrel
      by_cases hlt : k < 4095
      · have HE := Aside0.mk (show candN (frOf a0) k = (k : Int) % 4095 + 1 from by rw [HF.out]; unfold candN; simp)
        have hr0 : 0 ≤ (k : Int) % 4095 + 1 := by omega
        have hr1 : (k : Int) % 4095 + 1 ≤ 4095 := by omega
        by_cases hin : candN (frOf a0) k ∈ l1 ++ [a0]
        · have hcell : w4.cell? ⟨w3.heap.size, k % 4095 + 1, none⟩ = some (.bool true) := by
            rw [cell_of_row _ _ _ _ _ _ HH.out, takenA_get _ _ (by omega), show ((((k % 4095 + 1) : Nat)) : Int) = candN (frOf a0) k by rw [HE.out]; omega, decide_eq_true hin]
          have HJ2 := Aside0.mk (show ∀ j, j < k + 1 → candN (frOf a0) j ∈ l1 ++ [a0] from fun j hj => by
            by_cases e : j = k
            · rw [e]; exact hin
            · exact HJ.out j (by omega))
          clear hin
          go_wp2
          go_round
          case rel => exact ⟨k + 1, by omega, by go_num, HJ2⟩
          case measure => simp [intOf]; omega
        · have hcell : w4.cell? ⟨w3.heap.size, k % 4095 + 1, none⟩ = some (.bool false) := by
            rw [cell_of_row _ _ _ _ _ _ HH.out, takenA_get _ _ (by omega), show ((((k % 4095 + 1) : Nat)) : Int) = candN (frOf a0) k by rw [HE.out]; omega, decide_eq_false hin]
          have HN := Aside0.mk (nextSpec_found hlt HJ.out hin)
          clear hin
          go_wp2
          go_ret
          exact ⟨by rw [HN.out, HE.out]; rfl, HB.out⟩
      · obtain rfl : k = 4095 := by omega
        have HN := Aside0.mk (nextSpec_none HJ.out)
        go_wp2
        go_ret
        exact ⟨by rw [HN.out]; rfl, HB.out⟩
  · have HF := Aside0.mk (show frOf a0 = a0 from by unfold frOf; first | rw [if_pos (by omega)] | rw [if_neg (by omega)])
    clear HM HR2 HL2 HB2 HB3 HO1 HB1 HF1 HS HE1 HE2 HE3 HE4
    go_loop [22] (fun i => ∃ k : Nat, k ≤ 4095 ∧ i = .int .i64 k ∧ Aside0 (∀ j, j < k → candN (frOf a0) j ∈ l1 ++ [a0])) (fun i => 4095 - (intOf i).toNat)
    case atStart => exact ⟨0, by omega, rfl, ⟨fun j hj => by omega⟩⟩
    case round =>
      obtain ⟨k, hk, rfl, HJ⟩ := hrel
      by_cases hlt : k < 4095
      · have HE := Aside0.mk (show candN (frOf a0) k = (a0 + (k : Int)) % 4095 + 1 from by rw [HF.out]; unfold candN; simp)
        have hr0 : 0 ≤ (a0 + (k : Int)) % 4095 + 1 := by omega
        have hr1 : (a0 + (k : Int)) % 4095 + 1 ≤ 4095 := by omega
        by_cases hin : candN (frOf a0) k ∈ l1 ++ [a0]
        · have hcell : w4.cell? ⟨w3.heap.size, ((a0 + (k : Int)) % 4095 + 1).toNat, none⟩ = some (.bool true) := by
            rw [cell_of_row _ _ _ _ _ _ HH.out, takenA_get _ _ (by omega), show ((((((a0 + (k : Int)) % 4095 + 1).toNat) : Nat)) : Int) = candN (frOf a0) k by rw [HE.out]; omega, decide_eq_true hin]
          have HJ2 := Aside0.mk (show ∀ j, j < k + 1 → candN (frOf a0) j ∈ l1 ++ [a0] from fun j hj => by
            by_cases e : j = k
            · rw [e]; exact hin
            · exact HJ.out j (by omega))
          clear hin
          go_wp2
          go_round
          case rel => exact ⟨k + 1, by omega, by go_num, HJ2⟩
          case measure => simp [intOf]; omega
        · have hcell : w4.cell? ⟨w3.heap.size, ((a0 + (k : Int)) % 4095 + 1).toNat, none⟩ = some (.bool false) := by
            rw [cell_of_row _ _ _ _ _ _ HH.out, takenA_get _ _ (by omega), show ((((((a0 + (k : Int)) % 4095 + 1).toNat) : Nat)) : Int) = candN (frOf a0) k by rw [HE.out]; omega, decide_eq_false hin]
          have HN := Aside0.mk (nextSpec_found hlt HJ.out hin)
          clear hin
          go_wp2
          go_ret
          exact ⟨by rw [HN.out, HE.out]; rfl, HB.out⟩
      · obtain rfl : k = 4095 := by omega
        have HN := Aside0.mk (nextSpec_none HJ.out)
        go_wp2
        go_ret
        exact ⟨by rw [HN.out]; rfl, HB.out⟩
  · have HF := Aside0.mk (show frOf a0 = 0 from by unfold frOf; first | rw [if_pos (by omega)] | rw [if_neg (by omega)])
    clear HM HR2 HL2 HB2 HB3 HO1 HB1 HF1 HS HE1 HE2 HE3 HE4
    go_loop [22] (fun i => ∃ k : Nat, k ≤ 4095 ∧ i = .int .i64 k ∧ Aside0 (∀ j, j < k → candN (frOf a0) j ∈ l1 ++ [a0])) (fun i => 4095 - (intOf i).toNat)
    case atStart => exact ⟨0, by omega, rfl, ⟨fun j hj => by omega⟩⟩
    case round =>
      obtain ⟨k, hk, rfl, HJ⟩ := hrel
      by_cases hlt : k < 4095
      · have HE := Aside0.mk (show candN (frOf a0) k = (k : Int) % 4095 + 1 from by rw [HF.out]; unfold candN; simp)
        have hr0 : 0 ≤ (k : Int) % 4095 + 1 := by omega
        have hr1 : (k : Int) % 4095 + 1 ≤ 4095 := by omega
        by_cases hin : candN (frOf a0) k ∈ l1 ++ [a0]
        · have hcell : w4.cell? ⟨w3.heap.size, k % 4095 + 1, none⟩ = some (.bool true) := by
            rw [cell_of_row _ _ _ _ _ _ HH.out, takenA_get _ _ (by omega), show ((((k % 4095 + 1) : Nat)) : Int) = candN (frOf a0) k by rw [HE.out]; omega, decide_eq_true hin]
          have HJ2 := Aside0.mk (show ∀ j, j < k + 1 → candN (frOf a0) j ∈ l1 ++ [a0] from fun j hj => by
            by_cases e : j = k
            · rw [e]; exact hin
            · exact HJ.out j (by omega))
          clear hin
          go_wp2
          go_round
          case rel => exact ⟨k + 1, by omega, by go_num, HJ2⟩
          case measure => simp [intOf]; omega
        · have hcell : w4.cell? ⟨w3.heap.size, k % 4095 + 1, none⟩ = some (.bool false) := by
            rw [cell_of_row _ _ _ _ _ _ HH.out, takenA_get _ _ (by omega), show ((((k % 4095 + 1) : Nat)) : Int) = candN (frOf a0) k by rw [HE.out]; omega, decide_eq_false hin]
          have HN := Aside0.mk (nextSpec_found hlt HJ.out hin)
          clear hin
          go_wp2
          go_ret
          exact ⟨by rw [HN.out, HE.out]; rfl, HB.out⟩
      · obtain rfl : k = 4095 := by omega
        have HN := Aside0.mk (nextSpec_none HJ.out)
        go_wp2
        go_ret
        exact ⟨by rw [HN.out]; rfl, HB.out⟩

theorem enter_of {P : Program} {f : Nat} {fn : Func} {c : Code} (hf : P.funcs[f]? = some fn) (hb : fn.body = some c) (hn : fn.name ≠ "runtime.NumGoroutine") (args : Array Value) (w : World) : (callFunc f args).run P w = .ok (.enter f args) w := by
  simp [callFunc, hf, hb, hn]

abbrev ps : Sg := [(false, .int .i64), (false, .slice (.int .i64))]
abbrev rs : Sg := [(false, .int .i64)]
abbrev R := Tup rs
noncomputable def f (k : Nat) (a1 : Int) (a2 : List Int) : Option R := if a2.length < 17592186044415 then some (nextSpec a1 a2, ()) else none
noncomputable def S : Spec := ⟨ps, rs, .any, none, fun x r => ∃ k, f k x.1 x.2.1 = some r⟩
theorem rl {k a1 a2 r} (e : f k a1 a2 = some r) : S.rel (a1, a2, ()) r := ⟨k, e⟩
theorem fits : Fits P 98 S := by
  refine ⟨fun args w => ?_, fun x r hrel F w args hF hargs => ?_⟩
  · exact enter_of (c := (f98.body).getD .skip) func98 (by kernel_rfl) (by decide) args w
  · obtain ⟨k, hk⟩ := hrel
    obtain ⟨a1, a2, u⟩ := x
    dsimp only at hk
    unfold f at hk
    split at hk
    · rename_i hm
      obtain rfl := Option.some.inj hk
      have ha : ∃ v1 v2, args = #[v1, v2] ∧ v1 = .int .i64 a1 ∧ RepD F w (.slice (.int .i64)) a2 [v2] := by
        have hl := hargs.len
        match hz : args.toList, hargs with
        | [v1, v2], h => exact ⟨v1, v2, by rw [← Array.toArray_toList (xs := args), hz], h.1, h.2.1.1⟩
      obtain ⟨v1, v2, rfl, rfl, hr⟩ := ha
      obtain ⟨A, c, inner, e, h2, h3, h4⟩ := hr
      simp only [List.cons.injEq, and_true] at e
      subst e
      refine (next_calls a1 A c a2 F w hF ⟨A, c, inner, rfl, h2, h3, h4⟩ hm).mono ?_
      rintro e w' ⟨rfl, hb⟩
      exact ⟨_, rfl, hb, F, fun _ h => h, fun _ h => .inl h, fun b h => Nat.lt_of_lt_of_le (hF.1 b h) hb.size, rfl⟩
    · cases hk
end f_tags_Next

end Go.Proofs.YtkhjemahenkdiaaGreatDoor.V
