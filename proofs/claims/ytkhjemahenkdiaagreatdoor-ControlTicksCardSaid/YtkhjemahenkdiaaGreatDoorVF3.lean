/- Functions of the program, as Lean functions, and that the code answers so. Printed by vgen.py. -/
import Derived.Test.YtkhjemahenkdiaaGreatDoorVF2
namespace Go.Proofs.YtkhjemahenkdiaaGreatDoor.V
open Go Go.RowKit Go.Proofs.Tryz
set_option linter.unusedVariables false
set_option linter.unusedSimpArgs false
set_option maxRecDepth 100000
set_option maxHeartbeats 4000000
namespace f_ref16_in
noncomputable def c0 : Code := bo f145
abbrev ps : Sg := [(false, (.slice (.int .i64))), (false, (.int .i64))]
abbrev rs : Sg := [(false, .bool)]
noncomputable def V : Env := eV []
theorem V_ok : EnvOk P V := eOk (slk_nil)
abbrev R := Tup rs
noncomputable abbrev Q (r : R) : Exit → St → Prop := Qr tt f145.results ⟨ps, rs, .any, none, fun _ _ => True⟩ r
noncomputable def s1 (p1 : List Int) (p2 p3 : Int) : St := ⟨18, [(0, .cv (.one (.sl (.int .i64) p1 .any))), (1, .cv (.one (.i p2))), (5, .cv (.one (.i p3)))], []⟩
noncomputable def b1 (L1 : List Int → Int → Int → Option R) (k : Nat) (p1 : List Int) (p2 p3 : Int) : Option R :=
 if (decide (p3 < (p1.length : Int))) = true then
 if 0 ≤ p3 then
  if p3 < (p1.length : Int) then
   if ((att (.int .i64) p1 p3) == p2) = true then
    some (true, ())
   else
    L1 p1 p2 (IntKind.i64.wrap (p3 + 1))
  else none
 else none
else
 some (false, ())
theorem b1_ok {r} {L1 : List Int → Int → Int → Option R} {m1 : Nat} (hL1 : ∀ p1 p2 p3, L1 p1 p2 p3 = some r → Gw P 0 (Q r) (Pb c0 21 [] m1) (s1 p1 p2 p3)) {k p1 p2 p3} (H : b1 L1 k p1 p2 p3 = some r) : Gw P 0 (Q r) (Px c0 37 [m1]) (s1 p1 p2 p3) := by
 unfold b1 at H
 refine Ra ?_
 rcases of_ite H with ⟨hb1, H⟩ | ⟨hb1, H⟩
 ·refine C1 hb1 ?_
  obtain ⟨n2, H⟩ := of_if H
  obtain ⟨n3, H⟩ := of_if H
  refine Rg V_ok 0 [] (ac n2 (ac n3 az)) ?_
  rcases of_ite H with ⟨hb4, H⟩ | ⟨hb4, H⟩
  ·refine C1 hb4 ?_
   refine Ra ?_
   exact Le H
  ·refine C0 hb4 ?_
   refine Ra ?_
   exact Jm (tn [0, 1, 5] 0) (hL1 p1 p2 (IntKind.i64.wrap (p3 + 1)) H)
 ·refine C0 hb1 ?_
  refine Ra ?_
  exact Le H
noncomputable def l1 (k : Nat) : Nat → List Int → Int → Int → Option R
 | 0, _, _, _ => none
 | m + 1, p1, p2, p3 => b1 (l1 k m) k p1 p2 p3
theorem l1_ok {r} (k : Nat) : ∀ (m1 : Nat) (p1 : List Int) (p2 : Int) (p3 : Int), l1 k m1 p1 p2 p3 = some r → Gw P 0 (Q r) (Pb c0 21 [] m1) (s1 p1 p2 p3)
 | 0, _, _, _, H => by cases H
 | m1 + 1, p1, p2, p3, H => SU (by kernel_rfl) (b1_ok (l1_ok k m1) H)
noncomputable def f (k : Nat) (a1 : List Int) (a2 : Int) : Option R :=
 l1 k k a1 a2 0
noncomputable def S : Spec := ⟨ps, rs, .any, none, fun x r => ∃ k, f k x.1 x.2.1 = some r⟩
theorem rl {k a1 a2 r} (e : f k a1 a2 = some r) : S.rel (a1, a2, ()) r := ⟨k, e⟩
theorem f_ok {r k a1 a2} (H : f k a1 a2 = some r) : Gw P 0 (Q r) (Px c0 1 []) (⟨18, [(0, .cv (.one (.sl (.int .i64) a1 .any))), (1, .cv (.one (.i a2)))], []⟩) := by
 unfold f at H
 refine Ra ?_
 refine Ra ?_
 exact LP k (Jm (tn [0, 1, 5] 0) (l1_ok k k a1 a2 0 H))
theorem fits : Fits P 145 S := fitsA V_ok func145 fun x r ⟨k, H⟩ => of_G (f_ok H)
end f_ref16_in

namespace f_ref16_Next
noncomputable def c0 : Code := bo f106
abbrev ps : Sg := [(false, (.int .i64)), (false, (.slice (.int .i64)))]
abbrev rs : Sg := [(false, (.int .i64))]
noncomputable def V : Env := eV [(145, f_ref16_in.S)]
theorem V_ok : EnvOk P V := eOk (slk_cons f_ref16_in.fits (slk_nil))
abbrev R := Tup rs
noncomputable abbrev Q (r : R) : Exit → St → Prop := Qr tt f106.results ⟨ps, rs, .any, none, fun _ _ => True⟩ r
noncomputable def s1 (p1 : Int) (p2 : List Int) (p3 p4 : Int) : St := ⟨32, [(0, .cv (.one (.i p1))), (1, .cv (.one (.sl (.int .i64) p2 .any))), (5, .cv (.one (.i p3))), (6, .cv (.one (.i p4)))], []⟩
noncomputable def s3 (p1 : Int) (p2 : List Int) (p3 p4 : Int) (p5 : Bool) : St := ⟨32, [(0, .cv (.one (.i p1))), (1, .cv (.one (.sl (.int .i64) p2 .any))), (5, .cv (.one (.i p3))), (6, .cv (.one (.i p4))), (18, .cv (.one (.bool p5)))], []⟩
noncomputable def s4 (p1 : Int) (p2 : List Int) (p3 p4 : Int) : St := ⟨32, [(0, .cv (.one (.i p1))), (1, .cv (.one (.sl (.int .i64) p2 .any))), (5, .cv (.one (.i p3))), (6, .cv (.one (.i p4)))], []⟩
noncomputable def s2 (p1 : Int) (p2 : List Int) (p3 p4 : Int) (p5 : Bool) : St := ⟨32, [(0, .cv (.one (.i p1))), (1, .cv (.one (.sl (.int .i64) p2 .any))), (5, .cv (.one (.i p3))), (6, .cv (.one (.i p4))), (30, .cv (.one (.bool p5)))], []⟩
noncomputable def j2 (L1 : Int → List Int → Int → Int → Option R) (k : Nat) (p1 : Int) (p2 : List Int) (p3 p4 : Int) (p5 : Bool) : Option R :=
 if p5 = true then
 some (p3, ())
else
 L1 p1 p2 p3 (IntKind.i64.wrap (p4 + 1))
theorem j2_ok {r} {L1 : Int → List Int → Int → Int → Option R} {m1 : Nat} (hL1 : ∀ p1 p2 p3 p4, L1 p1 p2 p3 p4 = some r → Gw P 0 (Q r) (Pb c0 43 [] m1) (s1 p1 p2 p3 p4)) {k p1 p2 p3 p4 p5} (H : j2 L1 k p1 p2 p3 p4 p5 = some r) : Gw P 0 (Q r) (Px c0 7755 [m1]) (s2 p1 p2 p3 p4 p5) := by
 unfold j2 at H
 rcases of_ite H with ⟨hb7, H⟩ | ⟨hb7, H⟩
 ·refine C1 hb7 ?_
  refine Ra ?_
  exact Le H
 ·refine C0 hb7 ?_
  refine Ra ?_
  exact Jm (tn [0, 1, 5, 6] 0) (hL1 p1 p2 p3 (IntKind.i64.wrap (p4 + 1)) H)
noncomputable def j4 (L1 : Int → List Int → Int → Int → Option R) (k : Nat) (p1 : Int) (p2 : List Int) (p3 p4 : Int) : Option R :=
 (f_ref16_in.f k p2 p3).bind fun y4 =>
 if (p3 != p1) = true then
  j2 L1 k p1 p2 p3 p4 (!y4.1)
 else
  j2 L1 k p1 p2 p3 p4 false
theorem j4_ok {r} {L1 : Int → List Int → Int → Int → Option R} {m1 : Nat} (hL1 : ∀ p1 p2 p3 p4, L1 p1 p2 p3 p4 = some r → Gw P 0 (Q r) (Pb c0 43 [] m1) (s1 p1 p2 p3 p4)) {k p1 p2 p3 p4} (H : j4 L1 k p1 p2 p3 p4 = some r) : Gw P 0 (Q r) (Px c0 1611 [m1]) (s4 p1 p2 p3 p4) := by
 unfold j4 at H
 obtain ⟨y4, e5, H⟩ := of_bind H
 refine Rg V_ok 0 [(2, hr f_ref16_in.S y4)] (ac (f_ref16_in.rl e5) az) ?_
 rcases of_ite H with ⟨hb6, H⟩ | ⟨hb6, H⟩
 ·refine Rg V_ok 0 [(2, {bv := some true})] (ac hb6 az) ?_
  exact Jm (tn [0, 1, 5, 6, 30] 0) (j2_ok hL1 H)
 ·refine Rg V_ok 0 [(2, {bv := some false})] (ac hb6 az) ?_
  exact Jm (tn [0, 1, 5, 6, 30] 0) (j2_ok hL1 H)
noncomputable def j3 (L1 : Int → List Int → Int → Int → Option R) (k : Nat) (p1 : Int) (p2 : List Int) (p3 p4 : Int) (p5 : Bool) : Option R :=
 if p5 = true then
 j4 L1 k p1 p2 1 p4
else
 j4 L1 k p1 p2 (IntKind.i64.wrap (p3 + 1)) p4
theorem j3_ok {r} {L1 : Int → List Int → Int → Int → Option R} {m1 : Nat} (hL1 : ∀ p1 p2 p3 p4, L1 p1 p2 p3 p4 = some r → Gw P 0 (Q r) (Pb c0 43 [] m1) (s1 p1 p2 p3 p4)) {k p1 p2 p3 p4 p5} (H : j3 L1 k p1 p2 p3 p4 p5 = some r) : Gw P 0 (Q r) (Px c0 3147 [m1]) (s3 p1 p2 p3 p4 p5) := by
 unfold j3 at H
 rcases of_ite H with ⟨hb3, H⟩ | ⟨hb3, H⟩
 ·refine C1 hb3 ?_
  refine Ra ?_
  exact Jm (tn [0, 1, 5, 6] 0) (j4_ok hL1 H)
 ·refine C0 hb3 ?_
  refine Ra ?_
  exact Jm (tn [0, 1, 5, 6] 0) (j4_ok hL1 H)
noncomputable def b1 (L1 : Int → List Int → Int → Int → Option R) (k : Nat) (p1 : Int) (p2 : List Int) (p3 p4 : Int) : Option R :=
 if (decide (p4 < (4095 : Int))) = true then
 if (decide (p3 < (1 : Int))) = true then
  j3 L1 k p1 p2 p3 p4 true
 else
  j3 L1 k p1 p2 p3 p4 (decide (p3 ≥ (4095 : Int)))
else
 some ((0 : Int), ())
theorem b1_ok {r} {L1 : Int → List Int → Int → Int → Option R} {m1 : Nat} (hL1 : ∀ p1 p2 p3 p4, L1 p1 p2 p3 p4 = some r → Gw P 0 (Q r) (Pb c0 43 [] m1) (s1 p1 p2 p3 p4)) {k p1 p2 p3 p4} (H : b1 L1 k p1 p2 p3 p4 = some r) : Gw P 0 (Q r) (Px c0 75 [m1]) (s1 p1 p2 p3 p4) := by
 unfold b1 at H
 refine Ra ?_
 rcases of_ite H with ⟨hb1, H⟩ | ⟨hb1, H⟩
 ·refine C1 hb1 ?_
  rcases of_ite H with ⟨hb2, H⟩ | ⟨hb2, H⟩
  ·refine Rg V_ok 0 [(1, {bv := some true})] (ac hb2 az) ?_
   exact Jm (tn [0, 1, 5, 6, 18] 0) (j3_ok hL1 H)
  ·refine Rg V_ok 0 [(1, {bv := some false})] (ac hb2 az) ?_
   exact Jm (tn [0, 1, 5, 6, 18] 0) (j3_ok hL1 H)
 ·refine C0 hb1 ?_
  refine Ra ?_
  exact Le H
noncomputable def l1 (k : Nat) : Nat → Int → List Int → Int → Int → Option R
 | 0, _, _, _, _ => none
 | m + 1, p1, p2, p3, p4 => b1 (l1 k m) k p1 p2 p3 p4
theorem l1_ok {r} (k : Nat) : ∀ (m1 : Nat) (p1 : Int) (p2 : List Int) (p3 : Int) (p4 : Int), l1 k m1 p1 p2 p3 p4 = some r → Gw P 0 (Q r) (Pb c0 43 [] m1) (s1 p1 p2 p3 p4)
 | 0, _, _, _, _, H => by cases H
 | m1 + 1, p1, p2, p3, p4, H => SU (by kernel_rfl) (b1_ok (l1_ok k m1) H)
noncomputable def f (k : Nat) (a1 : Int) (a2 : List Int) : Option R :=
 l1 k k a1 a2 a1 0
noncomputable def S : Spec := ⟨ps, rs, .any, none, fun x r => ∃ k, f k x.1 x.2.1 = some r⟩
theorem rl {k a1 a2 r} (e : f k a1 a2 = some r) : S.rel (a1, a2, ()) r := ⟨k, e⟩
theorem f_ok {r k a1 a2} (H : f k a1 a2 = some r) : Gw P 0 (Q r) (Px c0 1 []) (⟨32, [(0, .cv (.one (.i a1))), (1, .cv (.one (.sl (.int .i64) a2 .any)))], []⟩) := by
 unfold f at H
 refine Ra ?_
 refine Ra ?_
 refine Ra ?_
 exact LP k (Jm (tn [0, 1, 5, 6] 0) (l1_ok k k a1 a2 a1 0 H))
theorem fits : Fits P 106 S := fitsA V_ok func106 fun x r ⟨k, H⟩ => of_G (f_ok H)
end f_ref16_Next

namespace f_ref12_At
noncomputable def c0 : Code := bo f60
abbrev ps : Sg := [(false, (.slice (.slice T1383))), (false, (.int .i64))]
abbrev rs : Sg := [(false, (.slice T1383))]
noncomputable def V : Env := eV []
theorem V_ok : EnvOk P V := eOk (slk_nil)
abbrev R := Tup rs
noncomputable abbrev Q (r : R) : Exit → St → Prop := Qr tt f60.results ⟨ps, rs, .any, none, fun _ _ => True⟩ r
noncomputable def s1 (a1 : List (List T1383.T)) (a2 : Int) (p3 : Bool) : St := ⟨18, [(0, .cv (.one (.sl (.slice T1383) a1 .any))), (1, .cv (.one (.i a2))), (12, .cv (.one (.bool p3)))], []⟩
noncomputable def j1 (a1 : List (List T1383.T)) (a2 : Int) (k : Nat) (p3 : Bool) : Option R :=
 if p3 = true then
 some ([], ())
else
 if 0 ≤ a2 then
  if a2 < (a1.length : Int) then
   if (att (.slice T1383) a1 a2).length * 48 ≤ 140737488355328 then
    some ((att (.slice T1383) a1 a2), ())
   else none
  else none
 else none
theorem j1_ok {r a1 a2} {k p3} (H : j1 a1 a2 k p3 = some r) : Gw P 0 (Q r) (Px c0 13 []) (s1 a1 a2 p3) := by
 unfold j1 at H
 rcases of_ite H with ⟨hb2, H⟩ | ⟨hb2, H⟩
 ·refine C1 hb2 ?_
  refine Ra ?_
  exact Le H
 ·refine C0 hb2 ?_
  obtain ⟨n3, H⟩ := of_if H
  obtain ⟨n4, H⟩ := of_if H
  obtain ⟨n5, H⟩ := of_if H
  refine Rg V_ok 1 [(4, hb 0)] (ac n3 (ac n4 (ac n5 az))) ?_
  exact Le H
noncomputable def f (k : Nat) (a1 : List (List T1383.T)) (a2 : Int) : Option R :=
 if (decide (a2 < (0 : Int))) = true then
  j1 a1 a2 k true
 else
  j1 a1 a2 k (decide (a2 ≥ (a1.length : Int)))
noncomputable def S : Spec := ⟨ps, rs, .any, none, fun x r => ∃ k, f k x.1 x.2.1 = some r⟩
theorem rl {k a1 a2 r} (e : f k a1 a2 = some r) : S.rel (a1, a2, ()) r := ⟨k, e⟩
theorem f_ok {r k a1 a2} (H : f k a1 a2 = some r) : Gw P 0 (Q r) (Px c0 1 []) (⟨18, [(0, .cv (.one (.sl (.slice T1383) a1 .any))), (1, .cv (.one (.i a2)))], []⟩) := by
 unfold f at H
 refine Ra ?_
 rcases of_ite H with ⟨hb1, H⟩ | ⟨hb1, H⟩
 ·refine Rg V_ok 0 [(1, {bv := some true})] (ac hb1 az) ?_
  exact Jm (tn [0, 1, 12] 0) (j1_ok H)
 ·refine Rg V_ok 0 [(1, {bv := some false})] (ac hb1 az) ?_
  exact Jm (tn [0, 1, 12] 0) (j1_ok H)
theorem fits : Fits P 60 S := fitsA V_ok func60 fun x r ⟨k, H⟩ => of_G (f_ok H)
end f_ref12_At

namespace f_ref20_Adds
noncomputable def c0 : Code := bo f92
abbrev ps : Sg := [(false, (.int .i64)), (false, (.slice T1383))]
abbrev rs : Sg := [(false, (.slice T4414))]
noncomputable def V : Env := eV []
theorem V_ok : EnvOk P V := eOk (slk_nil)
abbrev R := Tup rs
noncomputable abbrev Q (r : R) : Exit → St → Prop := Qr tt f92.results ⟨ps, rs, .any, none, fun _ _ => True⟩ r
noncomputable def s1 (p1 : Int) (p2 : List T1383.T) (p3 : Int) (p4 : List T4414.T) : St := ⟨23, [(0, .cv (.one (.i p1))), (1, .cv (.one (.sl T1383 p2 .any))), (5, .cv (.one (.own 0))), (6, .cv (.one (.i p3)))], [(.buf 66 T4414 p4, [])]⟩
noncomputable def b1 (L1 : Int → List T1383.T → Int → List T4414.T → Option R) (k : Nat) (p1 : Int) (p2 : List T1383.T) (p3 : Int) (p4 : List T4414.T) : Option R :=
 if (decide (p3 < (p2.length : Int))) = true then
 if 0 ≤ p3 then
  if p3 < (p2.length : Int) then
   if (p4.length + 1) * 80 ≤ 140737488355328 then
    L1 p1 p2 (IntKind.i64.wrap (p3 + 1)) (p4 ++ [(2, (0, (0, (p1, (att T1383 p2 p3)))))])
   else none
  else none
 else none
else
 some (p4, ())
theorem b1_ok {r} {L1 : Int → List T1383.T → Int → List T4414.T → Option R} {m1 : Nat} (hL1 : ∀ p1 p2 p3 p4, L1 p1 p2 p3 p4 = some r → Gw P 0 (Q r) (Pb c0 43 [] m1) (s1 p1 p2 p3 p4)) {k p1 p2 p3 p4} (H : b1 L1 k p1 p2 p3 p4 = some r) : Gw P 0 (Q r) (Px c0 75 [m1]) (s1 p1 p2 p3 p4) := by
 unfold b1 at H
 refine Ra ?_
 rcases of_ite H with ⟨hb1, H⟩ | ⟨hb1, H⟩
 ·refine C1 hb1 ?_
  obtain ⟨n2, H⟩ := of_if H
  obtain ⟨n3, H⟩ := of_if H
  obtain ⟨n4, H⟩ := of_if H
  refine Rg V_ok 1 [(8, hb 1)] (ac n2 (ac n3 (ac n4 az))) ?_
  refine Ra ?_
  exact Jm (tl [0, 1, 5, 6] [1]) (hL1 p1 p2 (IntKind.i64.wrap (p3 + 1)) (p4 ++ [(2, (0, (0, (p1, (att T1383 p2 p3)))))]) H)
 ·refine C0 hb1 ?_
  refine Ra ?_
  exact Le H
noncomputable def l1 (k : Nat) : Nat → Int → List T1383.T → Int → List T4414.T → Option R
 | 0, _, _, _, _ => none
 | m + 1, p1, p2, p3, p4 => b1 (l1 k m) k p1 p2 p3 p4
theorem l1_ok {r} (k : Nat) : ∀ (m1 : Nat) (p1 : Int) (p2 : List T1383.T) (p3 : Int) (p4 : List T4414.T), l1 k m1 p1 p2 p3 p4 = some r → Gw P 0 (Q r) (Pb c0 43 [] m1) (s1 p1 p2 p3 p4)
 | 0, _, _, _, _, H => by cases H
 | m1 + 1, p1, p2, p3, p4, H => SU (by kernel_rfl) (b1_ok (l1_ok k m1) H)
noncomputable def f (k : Nat) (a1 : Int) (a2 : List T1383.T) : Option R :=
 l1 k k a1 a2 0 []
noncomputable def S : Spec := ⟨ps, rs, .any, none, fun x r => ∃ k, f k x.1 x.2.1 = some r⟩
theorem rl {k a1 a2 r} (e : f k a1 a2 = some r) : S.rel (a1, a2, ()) r := ⟨k, e⟩
theorem f_ok {r k a1 a2} (H : f k a1 a2 = some r) : Gw P 0 (Q r) (Px c0 1 []) (⟨23, [(0, .cv (.one (.i a1))), (1, .cv (.one (.sl T1383 a2 .any)))], []⟩) := by
 unfold f at H
 refine Ra ?_
 refine Ra ?_
 refine Ra ?_
 exact LP k (Jm {fz := [], gr := 1, ad := [.ownT 5 0 66 T4414], live := [0, 1, 5, 6], src := [some 0]} (l1_ok k k a1 a2 0 [] H))
theorem fits : Fits P 92 S := fitsA V_ok func92 fun x r ⟨k, H⟩ => of_G (f_ok H)
end f_ref20_Adds

namespace f_ref15_Push
noncomputable def c0 : Code := bo f91
abbrev ps : Sg := [(true, Tb104), (true, T4414)]
abbrev rs : Sg := [(true, Tb104), (false, (.int .i64))]
noncomputable def V : Env := eV []
theorem V_ok : EnvOk P V := eOk (slk_nil)
abbrev R := Tup rs
noncomputable abbrev Q (r : R) : Exit → St → Prop := Qr tt f91.results ⟨ps, rs, .any, none, fun _ _ => True⟩ r
noncomputable def f (k : Nat) (a1 : Tb104.T) (a2 : T4414.T) : Option R :=
 if (decide (a1.2.1 > (1048576 : Int))) = true then
  some (a1, ((7 : Int), ()))
 else
  if a1.2.2.length * 80 ≤ 140737488355328 then
   if (a1.2.2.length + 1) * 80 ≤ 140737488355328 then
    some ((a1.1, ((IntKind.i64.wrap (a1.2.1 + 1)), (a1.2.2 ++ [(a2.1, (a1.1, (a1.2.1, a2.2.2.2)))]))), ((0 : Int), ()))
   else none
  else none
noncomputable def S : Spec := ⟨ps, rs, .any, none, fun x r => ∃ k, f k x.1 x.2.1 = some r⟩
theorem rl {k a1 a2 r} (e : f k a1 a2 = some r) : S.rel (a1, a2, ()) r := ⟨k, e⟩
theorem f_ok {r k a1 a2} (H : f k a1 a2 = some r) : Gw P 0 (Q r) (Px c0 1 []) (⟨28, [(0, .cv (.agg (encC .any Tb104 a1))), (1, .cv (.agg (encC .any T4414 a2)))], []⟩) := by
 unfold f at H
 refine Rg V_ok 3 [(0, hb 0), (1, hb 1), (2, hb 2)] az ?_
 refine Ra ?_
 rcases of_ite H with ⟨hb1, H⟩ | ⟨hb1, H⟩
 ·refine C1 hb1 ?_
  refine Ra ?_
  exact Le H
 ·refine C0 hb1 ?_
  refine Ra ?_
  refine Ra ?_
  obtain ⟨n2, H⟩ := of_if H
  obtain ⟨n3, H⟩ := of_if H
  refine Rg V_ok 2 [(2, hb 3), (5, hb 4)] (ac n2 (ac n3 az)) ?_
  refine Ra ?_
  refine Ra ?_
  exact Le H
theorem fits : Fits P 91 S := fitsA V_ok func91 fun x r ⟨k, H⟩ => of_G (f_ok H)
end f_ref15_Push

namespace f_ref20_Push
noncomputable def c0 : Code := bo f38
abbrev ps : Sg := [(true, Tb104), (false, (.slice T4414))]
abbrev rs : Sg := [(true, Tb104)]
noncomputable def V : Env := eV [(91, f_ref15_Push.S)]
theorem V_ok : EnvOk P V := eOk (slk_cons f_ref15_Push.fits (slk_nil))
abbrev R := Tup rs
noncomputable abbrev Q (r : R) : Exit → St → Prop := Qr tt f38.results ⟨ps, rs, .any, none, fun _ _ => True⟩ r
noncomputable def s1 (p1 : List T4414.T) (p2 : Int) (p3 : Tb104.T) (p4 p5 : Int) : St := ⟨28, [(1, .cv (.one (.sl T4414 p1 .any))), (2, .cv (.one (.ptr 0 0))), (4, .cv (.one (.ptr 1 0))), (5, .cv (.one (.i p2)))], [(.box 3, (encC .any Tb104 p3)), (.box 3, [.i p4, .i p5, .nils])]⟩
noncomputable def b1 (L1 : List T4414.T → Int → Tb104.T → Int → Int → Option R) (k : Nat) (p1 : List T4414.T) (p2 : Int) (p3 : Tb104.T) (p4 p5 : Int) : Option R :=
 if (decide (p2 < (p1.length : Int))) = true then
 if 0 ≤ p2 then
  if p2 < (p1.length : Int) then
   (f_ref15_Push.f k p3 (att T4414 p1 p2)).bind fun y2 =>
    if (y2.2.1 != (0 : Int)) = true then
     some (p3, ())
    else
     L1 p1 (IntKind.i64.wrap (p2 + 1)) y2.1 p4 p5
  else none
 else none
else
 some (p3, ())
theorem b1_ok {r} {L1 : List T4414.T → Int → Tb104.T → Int → Int → Option R} {m1 : Nat} (hL1 : ∀ p1 p2 p3 p4 p5, L1 p1 p2 p3 p4 p5 = some r → Gw P 0 (Q r) (Pb c0 21 [] m1) (s1 p1 p2 p3 p4 p5)) {k p1 p2 p3 p4 p5} (H : b1 L1 k p1 p2 p3 p4 p5 = some r) : Gw P 0 (Q r) (Px c0 37 [m1]) (s1 p1 p2 p3 p4 p5) := by
 unfold b1 at H
 refine Ra ?_
 rcases of_ite H with ⟨hb1, H⟩ | ⟨hb1, H⟩
 ·refine C1 hb1 ?_
  obtain ⟨n3, H⟩ := of_if H
  obtain ⟨n4, H⟩ := of_if H
  obtain ⟨y2, e5, H⟩ := of_bind H
  refine Rg V_ok 1 [(5, hr f_ref15_Push.S y2), (9, hb 2)] (ac n3 (ac n4 (ac (f_ref15_Push.rl e5) az))) ?_
  refine Ra ?_
  rcases of_ite H with ⟨hb6, H⟩ | ⟨hb6, H⟩
  ·refine C1 hb6 ?_
   refine Ra ?_
   exact Le H
  ·refine C0 hb6 ?_
   refine Ra ?_
   refine Ra ?_
   exact Jm (tn [1, 2, 4, 5] 2) (hL1 p1 (IntKind.i64.wrap (p2 + 1)) y2.1 p4 p5 H)
 ·refine C0 hb1 ?_
  refine Ra ?_
  exact Le H
noncomputable def l1 (k : Nat) : Nat → List T4414.T → Int → Tb104.T → Int → Int → Option R
 | 0, _, _, _, _, _ => none
 | m + 1, p1, p2, p3, p4, p5 => b1 (l1 k m) k p1 p2 p3 p4 p5
theorem l1_ok {r} (k : Nat) : ∀ (m1 : Nat) (p1 : List T4414.T) (p2 : Int) (p3 : Tb104.T) (p4 : Int) (p5 : Int), l1 k m1 p1 p2 p3 p4 p5 = some r → Gw P 0 (Q r) (Pb c0 21 [] m1) (s1 p1 p2 p3 p4 p5)
 | 0, _, _, _, _, _, H => by cases H
 | m1 + 1, p1, p2, p3, p4, p5, H => SU (by kernel_rfl) (b1_ok (l1_ok k m1) H)
noncomputable def f (k : Nat) (a1 : Tb104.T) (a2 : List T4414.T) : Option R :=
 l1 k k a2 0 a1 0 0
noncomputable def S : Spec := ⟨ps, rs, .any, none, fun x r => ∃ k, f k x.1 x.2.1 = some r⟩
theorem rl {k a1 a2 r} (e : f k a1 a2 = some r) : S.rel (a1, a2, ()) r := ⟨k, e⟩
theorem f_ok {r k a1 a2} (H : f k a1 a2 = some r) : Gw P 0 (Q r) (Px c0 1 []) (⟨28, [(0, .cv (.agg (encC .any Tb104 a1))), (1, .cv (.one (.sl T4414 a2 .any)))], []⟩) := by
 unfold f at H
 refine Rg V_ok 2 [(0, hb 0), (1, hb 1)] az ?_
 refine Ra ?_
 exact LP k (Jm (tn [1, 2, 4, 5] 2) (l1_ok k k a2 0 a1 0 0 H))
theorem fits : Fits P 38 S := fitsA V_ok func38 fun x r ⟨k, H⟩ => of_G (f_ok H)
end f_ref20_Push

namespace f_ref21_idle
noncomputable def c0 : Code := bo f52
abbrev ps : Sg := [(true, T26b3)]
abbrev rs : Sg := [(true, T26b3)]
noncomputable def V : Env := eV [(38, f_ref20_Push.S), (51, f_ref21_allDone.S), (60, f_ref12_At.S), (92, f_ref20_Adds.S), (106, f_ref16_Next.S)]
theorem V_ok : EnvOk P V := eOk (slk_cons f_ref20_Push.fits (slk_cons f_ref21_allDone.fits (slk_cons f_ref12_At.fits (slk_cons f_ref20_Adds.fits (slk_cons f_ref16_Next.fits (slk_nil))))))
abbrev R := Tup rs
noncomputable abbrev Q (r : R) : Exit → St → Prop := Qr tt f52.results ⟨ps, rs, .any, none, fun _ _ => True⟩ r
noncomputable def s1 (a1 : T26b3.T) (p1 : Bool) (p3 p4 p5 p6 p7 p8 p9 : Int) : St := ⟨76, [(1, .cv (.one (.ptr 0 0))), (2, .cv (.one (.ptr 1 0))), (15, .cv (.one (.bool p1)))], [(.box 13, (encC .any T26b3 a1)), (.box 13, [.nils, .i p3, .i p4, .i p5, .i p6, .i p7, .i p8, .nils, .nils, .nils, .nils, .nils, .i p9])]⟩
noncomputable def s2 (p1 : Int) (p2 : List (List (List T1383.T))) (p3 p4 p5 p6 p7 p8 : Int) (p9 : List T23b6.T) (p10 p11 : List Int) (p12 p13 p14 p15 p16 p17 p18 p19 : Int) (p20 : List T23b6.T) (p21 : List Int) (p22 : List T713d.T) : St := ⟨76, [(1, .cv (.one (.ptr 0 0))), (2, .cv (.one (.ptr 1 0))), (4, .cv (.one (.own 2))), (5, .cv (.one (.i p1)))], [(.box 13, [.sl (.slice (.slice T1383)) p2 .any, .i p3, .i p4, .i p5, .i p6, .i p7, .i p8, .own 3, .sl T23b6 p9 .any, .own 4, .sl (.int .i64) p10 .any, .sl (.int .i64) p11 .any, .i p12]), (.box 13, [.nils, .i p13, .i p14, .i p15, .i p16, .i p17, .i p18, .nils, .nils, .nils, .nils, .nils, .i p19]), (.buf 58 T23b6 p20, []), (.buf 3 (.int .i64) p21, []), (.buf 93 T713d p22, [])]⟩
noncomputable def b2 (L2 : Int → List (List (List T1383.T)) → Int → Int → Int → Int → Int → Int → List T23b6.T → List Int → List Int → Int → Int → Int → Int → Int → Int → Int → Int → List T23b6.T → List Int → List T713d.T → Option R) (k : Nat) (p1 : Int) (p2 : List (List (List T1383.T))) (p3 p4 p5 p6 p7 p8 : Int) (p9 : List T23b6.T) (p10 p11 : List Int) (p12 p13 p14 p15 p16 p17 p18 p19 : Int) (p20 : List T23b6.T) (p21 : List Int) (p22 : List T713d.T) : Option R :=
 if (decide (p1 < (p20.length : Int))) = true then
 if 0 ≤ p1 then
  if p1 < (p20.length : Int) then
   if 0 ≤ p4 then
    if p4 < (p2.length : Int) then
     (f_ref12_At.f k (att (.slice (.slice T1383)) p2 p4) p1).bind fun y14 =>
      (f_ref20_Adds.f k p6 y14.1).bind fun y15 =>
       (f_ref20_Push.f k (((att T23b6 p20 p1).2).2) y15.1).bind fun y16 =>
        L2 (IntKind.i64.wrap (p1 + 1)) p2 p3 p4 p5 p6 p7 p8 p9 p10 p11 p12 p13 p14 p15 p16 p17 p18 p19 (p20.set p1.toNat ((att T23b6 p20 p1).1, (((att T23b6 p20 p1).2).1, y16.1))) p21 p22
    else none
   else none
  else none
 else none
else
 some ((p2, (p3, (p4, (p5, (p6, (p7, (p8, (p21, (p20, (p22, (p10, (p11, p12)))))))))))), ())
theorem b2_ok {r} {L2 : Int → List (List (List T1383.T)) → Int → Int → Int → Int → Int → Int → List T23b6.T → List Int → List Int → Int → Int → Int → Int → Int → Int → Int → Int → List T23b6.T → List Int → List T713d.T → Option R} {m2 : Nat} (hL2 : ∀ p1 p2 p3 p4 p5 p6 p7 p8 p9 p10 p11 p12 p13 p14 p15 p16 p17 p18 p19 p20 p21 p22, L2 p1 p2 p3 p4 p5 p6 p7 p8 p9 p10 p11 p12 p13 p14 p15 p16 p17 p18 p19 p20 p21 p22 = some r → Gw P 0 (Q r) (Pb c0 5631 [] m2) (s2 p1 p2 p3 p4 p5 p6 p7 p8 p9 p10 p11 p12 p13 p14 p15 p16 p17 p18 p19 p20 p21 p22)) {k p1 p2 p3 p4 p5 p6 p7 p8 p9 p10 p11 p12 p13 p14 p15 p16 p17 p18 p19 p20 p21 p22} (H : b2 L2 k p1 p2 p3 p4 p5 p6 p7 p8 p9 p10 p11 p12 p13 p14 p15 p16 p17 p18 p19 p20 p21 p22 = some r) : Gw P 0 (Q r) (Px c0 9727 [m2]) (s2 p1 p2 p3 p4 p5 p6 p7 p8 p9 p10 p11 p12 p13 p14 p15 p16 p17 p18 p19 p20 p21 p22) := by
 unfold b2 at H
 refine Ra ?_
 rcases of_ite H with ⟨hb13, H⟩ | ⟨hb13, H⟩
 ·refine C1 hb13 ?_
  obtain ⟨n17, H⟩ := of_if H
  obtain ⟨n18, H⟩ := of_if H
  obtain ⟨n19, H⟩ := of_if H
  obtain ⟨n20, H⟩ := of_if H
  obtain ⟨y14, e21, H⟩ := of_bind H
  obtain ⟨y15, e22, H⟩ := of_bind H
  obtain ⟨y16, e23, H⟩ := of_bind H
  refine Rg V_ok 0 [(16, hr f_ref12_At.S y14), (17, hr f_ref20_Adds.S y15), (18, hr f_ref20_Push.S y16)] (ac n17 (ac n18 (ac n19 (ac n20 (ac (f_ref12_At.rl e21) (ac (f_ref20_Adds.rl e22) (ac (f_ref20_Push.rl e23) (ac n17 (ac n18 az))))))))) ?_
  refine Ra ?_
  exact Jm (tn [1, 2, 4, 5] 5) (hL2 (IntKind.i64.wrap (p1 + 1)) p2 p3 p4 p5 p6 p7 p8 p9 p10 p11 p12 p13 p14 p15 p16 p17 p18 p19 (p20.set p1.toNat ((att T23b6 p20 p1).1, (((att T23b6 p20 p1).2).1, y16.1))) p21 p22 H)
 ·refine C0 hb13 ?_
  refine Ra ?_
  refine Ra ?_
  exact Le H
noncomputable def l2 (k : Nat) : Nat → Int → List (List (List T1383.T)) → Int → Int → Int → Int → Int → Int → List T23b6.T → List Int → List Int → Int → Int → Int → Int → Int → Int → Int → Int → List T23b6.T → List Int → List T713d.T → Option R
 | 0, _, _, _, _, _, _, _, _, _, _, _, _, _, _, _, _, _, _, _, _, _, _ => none
 | m + 1, p1, p2, p3, p4, p5, p6, p7, p8, p9, p10, p11, p12, p13, p14, p15, p16, p17, p18, p19, p20, p21, p22 => b2 (l2 k m) k p1 p2 p3 p4 p5 p6 p7 p8 p9 p10 p11 p12 p13 p14 p15 p16 p17 p18 p19 p20 p21 p22
theorem l2_ok {r} (k : Nat) : ∀ (m2 : Nat) (p1 : Int) (p2 : List (List (List T1383.T))) (p3 p4 p5 p6 p7 p8 : Int) (p9 : List T23b6.T) (p10 p11 : List Int) (p12 p13 p14 p15 p16 p17 p18 p19 : Int) (p20 : List T23b6.T) (p21 : List Int) (p22 : List T713d.T), l2 k m2 p1 p2 p3 p4 p5 p6 p7 p8 p9 p10 p11 p12 p13 p14 p15 p16 p17 p18 p19 p20 p21 p22 = some r → Gw P 0 (Q r) (Pb c0 5631 [] m2) (s2 p1 p2 p3 p4 p5 p6 p7 p8 p9 p10 p11 p12 p13 p14 p15 p16 p17 p18 p19 p20 p21 p22)
 | 0, _, _, _, _, _, _, _, _, _, _, _, _, _, _, _, _, _, _, _, _, _, _, H => by cases H
 | m2 + 1, p1, p2, p3, p4, p5, p6, p7, p8, p9, p10, p11, p12, p13, p14, p15, p16, p17, p18, p19, p20, p21, p22, H => SU (by kernel_rfl) (b2_ok (l2_ok k m2) H)
noncomputable def j1 (a1 : T26b3.T) (k : Nat) (p1 : Bool) (p3 p4 p5 p6 p7 p8 p9 : Int) : Option R :=
 if p1 = true then
 some (a1, ())
else
 if (0 : Int) < (a1.2.2.2.2.2.2.2.1.length : Int) then
  if 0 ≤ (1 : Int) ∧ (1 : Int) ≤ (a1.2.2.2.2.2.2.2.1.length : Int) ∧ (a1.2.2.2.2.2.2.2.1.length : Int) ≤ (a1.2.2.2.2.2.2.2.1.length : Int) then
   if ((a1.2.2.2.2.2.2.2.1.take (a1.2.2.2.2.2.2.2.1.length : Int).toNat).drop (1 : Int).toNat).length * 8 ≤ 140737488355328 then
    (f_ref16_Next.f k a1.2.2.2.1 []).bind fun y8 =>
     if a1.2.2.2.2.2.2.2.2.2.1.length * 16 ≤ 140737488355328 then
      if (a1.2.2.2.2.2.2.2.2.2.1.length + 1) * 16 ≤ 140737488355328 then
       if a1.2.2.2.2.2.2.2.2.1.length * 56 ≤ 140737488355328 then
        l2 k k 0 a1.1 a1.2.1 (att (.int .i64) a1.2.2.2.2.2.2.2.1 0) a1.2.2.2.1 y8.1 1 a1.2.2.2.2.2.2.1 a1.2.2.2.2.2.2.2.2.1 a1.2.2.2.2.2.2.2.2.2.2.1 a1.2.2.2.2.2.2.2.2.2.2.2.1 a1.2.2.2.2.2.2.2.2.2.2.2.2 p3 p4 p5 p6 p7 p8 p9 a1.2.2.2.2.2.2.2.2.1 ((a1.2.2.2.2.2.2.2.1.take (a1.2.2.2.2.2.2.2.1.length : Int).toNat).drop (1 : Int).toNat) (a1.2.2.2.2.2.2.2.2.2.1 ++ [(y8.1, (att (.int .i64) a1.2.2.2.2.2.2.2.1 0))])
       else none
      else none
     else none
   else none
  else none
 else none
theorem j1_ok {r a1} {k p1 p3 p4 p5 p6 p7 p8 p9} (H : j1 a1 k p1 p3 p4 p5 p6 p7 p8 p9 = some r) : Gw P 0 (Q r) (Px c0 27 []) (s1 a1 p1 p3 p4 p5 p6 p7 p8 p9) := by
 unfold j1 at H
 rcases of_ite H with ⟨hb4, H⟩ | ⟨hb4, H⟩
 ·refine C1 hb4 ?_
  refine Ra ?_
  exact Le H
 ·refine C0 hb4 ?_
  obtain ⟨n5, H⟩ := of_if H
  refine Rg V_ok 0 [] (ac (show 0 ≤ (0 : Int) by decide) (ac n5 az)) ?_
  obtain ⟨n6, H⟩ := of_if H
  obtain ⟨n7, H⟩ := of_if H
  refine Rg V_ok 1 [(3, hb 2)] (ac n6 (ac n7 az)) ?_
  obtain ⟨y8, e9, H⟩ := of_bind H
  refine Rg V_ok 0 [(2, hr f_ref16_Next.S y8)] (ac (f_ref16_Next.rl e9) az) ?_
  obtain ⟨n10, H⟩ := of_if H
  obtain ⟨n11, H⟩ := of_if H
  refine Rg V_ok 2 [(2, hb 3), (9, hb 4)] (ac n10 (ac n11 az)) ?_
  refine Ra ?_
  obtain ⟨n12, H⟩ := of_if H
  refine Rg V_ok 1 [(2, hb 5)] (ac n12 az) ?_
  refine Ra ?_
  exact LP k (Jm (tl [1, 2, 4, 5] [0, 1, 5, 2, 4]) (l2_ok k k 0 a1.1 a1.2.1 (att (.int .i64) a1.2.2.2.2.2.2.2.1 0) a1.2.2.2.1 y8.1 1 a1.2.2.2.2.2.2.1 a1.2.2.2.2.2.2.2.2.1 a1.2.2.2.2.2.2.2.2.2.2.1 a1.2.2.2.2.2.2.2.2.2.2.2.1 a1.2.2.2.2.2.2.2.2.2.2.2.2 p3 p4 p5 p6 p7 p8 p9 a1.2.2.2.2.2.2.2.2.1 ((a1.2.2.2.2.2.2.2.1.take (a1.2.2.2.2.2.2.2.1.length : Int).toNat).drop (1 : Int).toNat) (a1.2.2.2.2.2.2.2.2.2.1 ++ [(y8.1, (att (.int .i64) a1.2.2.2.2.2.2.2.1 0))]) H))
noncomputable def f (k : Nat) (a1 : T26b3.T) : Option R :=
 (f_ref21_allDone.f k a1).bind fun y1 =>
  if ((a1.2.2.2.2.2.2.2.1.length : Int) == (0 : Int)) = true then
   j1 a1 k true 0 0 0 0 0 0 0
  else
   j1 a1 k (!y1.1) 0 0 0 0 0 0 0
noncomputable def S : Spec := ⟨ps, rs, .any, none, fun x r => ∃ k, f k x.1 = some r⟩
theorem rl {k a1 r} (e : f k a1 = some r) : S.rel (a1, ()) r := ⟨k, e⟩
theorem f_ok {r k a1} (H : f k a1 = some r) : Gw P 0 (Q r) (Px c0 1 []) (⟨76, [(0, .cv (.agg (encC .any T26b3 a1)))], []⟩) := by
 unfold f at H
 refine Rg V_ok 2 [(0, hb 0), (1, hb 1)] az ?_
 obtain ⟨y1, e2, H⟩ := of_bind H
 refine Rg V_ok 0 [(1, hr f_ref21_allDone.S y1)] (ac (f_ref21_allDone.rl e2) az) ?_
 rcases of_ite H with ⟨hb3, H⟩ | ⟨hb3, H⟩
 ·refine Rg V_ok 0 [(3, {bv := some true})] (ac hb3 az) ?_
  exact Jm (tn [1, 2, 15] 2) (j1_ok H)
 ·refine Rg V_ok 0 [(3, {bv := some false})] (ac hb3 az) ?_
  exact Jm (tn [1, 2, 15] 2) (j1_ok H)
theorem fits : Fits P 52 S := fitsA V_ok func52 fun x r ⟨k, H⟩ => of_G (f_ok H)
end f_ref21_idle

namespace f_ref21_tell
noncomputable def c0 : Code := bo f107
abbrev ps : Sg := [(true, T26b3), (true, T4414)]
abbrev rs : Sg := [(true, T26b3)]
noncomputable def V : Env := eV [(38, f_ref20_Push.S)]
theorem V_ok : EnvOk P V := eOk (slk_cons f_ref20_Push.fits (slk_nil))
abbrev R := Tup rs
noncomputable abbrev Q (r : R) : Exit → St → Prop := Qr tt f107.results ⟨ps, rs, .any, none, fun _ _ => True⟩ r
noncomputable def s1 (a1 : T26b3.T) (a2 : T4414.T) (p1 p4 p5 p6 p7 p8 p9 p10 : Int) (p11 : List T23b6.T) : St := ⟨31, [(2, .cv (.one (.ptr 0 0))), (3, .cv (.one (.ptr 1 0))), (4, .cv (.one (.ptr 2 0))), (5, .cv (.one (.own 3))), (6, .cv (.one (.i p1)))], [(.box 13, (encC .any T26b3 a1)), (.box 10, (encC .any T4414 a2)), (.box 13, [.nils, .i p4, .i p5, .i p6, .i p7, .i p8, .i p9, .nils, .nils, .nils, .nils, .nils, .i p10]), (.buf 58 T23b6 p11, [])]⟩
noncomputable def b1 (a1 : T26b3.T) (a2 : T4414.T) (L1 : Int → Int → Int → Int → Int → Int → Int → Int → List T23b6.T → Option R) (k : Nat) (p1 p4 p5 p6 p7 p8 p9 p10 : Int) (p11 : List T23b6.T) : Option R :=
 if (decide (p1 < (p11.length : Int))) = true then
 if 0 ≤ p1 then
  if p1 < (p11.length : Int) then
   (f_ref20_Push.f k (((att T23b6 p11 p1).2).2) [a2]).bind fun y3 =>
    L1 (IntKind.i64.wrap (p1 + 1)) p4 p5 p6 p7 p8 p9 p10 (p11.set p1.toNat ((att T23b6 p11 p1).1, (((att T23b6 p11 p1).2).1, y3.1)))
  else none
 else none
else
 some ((a1.1, (a1.2.1, (a1.2.2.1, (a1.2.2.2.1, (a1.2.2.2.2.1, (a1.2.2.2.2.2.1, (a1.2.2.2.2.2.2.1, (a1.2.2.2.2.2.2.2.1, (p11, a1.2.2.2.2.2.2.2.2.2))))))))), ())
theorem b1_ok {r a1 a2} {L1 : Int → Int → Int → Int → Int → Int → Int → Int → List T23b6.T → Option R} {m1 : Nat} (hL1 : ∀ p1 p4 p5 p6 p7 p8 p9 p10 p11, L1 p1 p4 p5 p6 p7 p8 p9 p10 p11 = some r → Gw P 0 (Q r) (Pb c0 43 [] m1) (s1 a1 a2 p1 p4 p5 p6 p7 p8 p9 p10 p11)) {k p1 p4 p5 p6 p7 p8 p9 p10 p11} (H : b1 a1 a2 L1 k p1 p4 p5 p6 p7 p8 p9 p10 p11 = some r) : Gw P 0 (Q r) (Px c0 75 [m1]) (s1 a1 a2 p1 p4 p5 p6 p7 p8 p9 p10 p11) := by
 unfold b1 at H
 refine Ra ?_
 rcases of_ite H with ⟨hb2, H⟩ | ⟨hb2, H⟩
 ·refine C1 hb2 ?_
  obtain ⟨n4, H⟩ := of_if H
  obtain ⟨n5, H⟩ := of_if H
  obtain ⟨y3, e6, H⟩ := of_bind H
  refine Rg V_ok 0 [(9, hr f_ref20_Push.S y3)] (ac n4 (ac n5 (ac (f_ref20_Push.rl e6) (ac n4 (ac n5 az))))) ?_
  refine Ra ?_
  exact Jm (tn [2, 3, 4, 5, 6] 4) (hL1 (IntKind.i64.wrap (p1 + 1)) p4 p5 p6 p7 p8 p9 p10 (p11.set p1.toNat ((att T23b6 p11 p1).1, (((att T23b6 p11 p1).2).1, y3.1))) H)
 ·refine C0 hb2 ?_
  refine Ra ?_
  refine Ra ?_
  exact Le H
noncomputable def l1 (a1 : T26b3.T) (a2 : T4414.T) (k : Nat) : Nat → Int → Int → Int → Int → Int → Int → Int → Int → List T23b6.T → Option R
 | 0, _, _, _, _, _, _, _, _, _ => none
 | m + 1, p1, p4, p5, p6, p7, p8, p9, p10, p11 => b1 a1 a2 (l1 a1 a2 k m) k p1 p4 p5 p6 p7 p8 p9 p10 p11
theorem l1_ok {r a1 a2} (k : Nat) : ∀ (m1 : Nat) (p1 p4 p5 p6 p7 p8 p9 p10 : Int) (p11 : List T23b6.T), l1 a1 a2 k m1 p1 p4 p5 p6 p7 p8 p9 p10 p11 = some r → Gw P 0 (Q r) (Pb c0 43 [] m1) (s1 a1 a2 p1 p4 p5 p6 p7 p8 p9 p10 p11)
 | 0, _, _, _, _, _, _, _, _, _, H => by cases H
 | m1 + 1, p1, p4, p5, p6, p7, p8, p9, p10, p11, H => SU (by kernel_rfl) (b1_ok (l1_ok k m1) H)
noncomputable def f (k : Nat) (a1 : T26b3.T) (a2 : T4414.T) : Option R :=
 if a1.2.2.2.2.2.2.2.2.1.length * 56 ≤ 140737488355328 then
  l1 a1 a2 k k 0 0 0 0 0 0 0 0 a1.2.2.2.2.2.2.2.2.1
 else none
noncomputable def S : Spec := ⟨ps, rs, .any, none, fun x r => ∃ k, f k x.1 x.2.1 = some r⟩
theorem rl {k a1 a2 r} (e : f k a1 a2 = some r) : S.rel (a1, a2, ()) r := ⟨k, e⟩
theorem f_ok {r k a1 a2} (H : f k a1 a2 = some r) : Gw P 0 (Q r) (Px c0 1 []) (⟨31, [(0, .cv (.agg (encC .any T26b3 a1))), (1, .cv (.agg (encC .any T4414 a2)))], []⟩) := by
 unfold f at H
 refine Rg V_ok 3 [(0, hb 0), (1, hb 1), (2, hb 2)] az ?_
 obtain ⟨n1, H⟩ := of_if H
 refine Rg V_ok 1 [(2, hb 3)] (ac n1 az) ?_
 refine Ra ?_
 exact LP k (Jm (tn [2, 3, 4, 5, 6] 4) (l1_ok k k 0 0 0 0 0 0 0 0 a1.2.2.2.2.2.2.2.2.1 H))
theorem fits : Fits P 107 S := fitsA V_ok func107 fun x r ⟨k, H⟩ => of_G (f_ok H)
end f_ref21_tell

namespace f_ref21_install
noncomputable def c0 : Code := bo f53
abbrev ps : Sg := [(true, T26b3)]
abbrev rs : Sg := [(true, T26b3)]
noncomputable def V : Env := eV [(51, f_ref21_allDone.S), (107, f_ref21_tell.S)]
theorem V_ok : EnvOk P V := eOk (slk_cons f_ref21_allDone.fits (slk_cons f_ref21_tell.fits (slk_nil)))
abbrev R := Tup rs
noncomputable abbrev Q (r : R) : Exit → St → Prop := Qr tt f53.results ⟨ps, rs, .any, none, fun _ _ => True⟩ r
noncomputable def s1 (a1 : T26b3.T) (p1 p3 p4 p5 p6 p7 p8 p9 : Int) : St := ⟨48, [(1, .cv (.one (.ptr 0 0))), (2, .cv (.one (.ptr 1 0))), (3, .cv (.one (.i p1)))], [(.box 13, (encC .any T26b3 a1)), (.box 13, [.nils, .i p3, .i p4, .i p5, .i p6, .i p7, .i p8, .nils, .nils, .nils, .nils, .nils, .i p9])]⟩
noncomputable def s2 (p1 : T26b3.T) (p2 p3 p4 p5 p6 p7 p8 : Int) : St := ⟨48, [(1, .cv (.one (.ptr 0 0))), (2, .cv (.one (.ptr 1 0)))], [(.box 13, (encC .any T26b3 p1)), (.box 13, [.nils, .i p2, .i p3, .i p4, .i p5, .i p6, .i p7, .nils, .nils, .nils, .nils, .nils, .i p8])]⟩
noncomputable def j2 (k : Nat) (p1 : T26b3.T) (p2 p3 p4 p5 p6 p7 p8 : Int) : Option R :=
 some (p1, ())
theorem j2_ok {r} {k p1 p2 p3 p4 p5 p6 p7 p8} (H : j2 k p1 p2 p3 p4 p5 p6 p7 p8 = some r) : Gw P 0 (Q r) (Px c0 31 []) (s2 p1 p2 p3 p4 p5 p6 p7 p8) := by
 unfold j2 at H
 refine Ra ?_
 exact Le H
noncomputable def b1 (a1 : T26b3.T) (L1 : Int → Int → Int → Int → Int → Int → Int → Int → Option R) (k : Nat) (p1 p3 p4 p5 p6 p7 p8 p9 : Int) : Option R :=
 if (decide (p1 < (a1.2.2.2.2.2.2.2.2.1.length : Int))) = true then
 if 0 ≤ p1 then
  if p1 < (a1.2.2.2.2.2.2.2.2.1.length : Int) then
   if ((((att T23b6 a1.2.2.2.2.2.2.2.2.1 p1).2).1) == a1.2.2.2.2.1) = true then
    (f_ref21_tell.f k a1 (4, (0, (0, (a1.2.2.2.2.1, ((0, 0), (0, (0, (0, 0))))))))).bind fun y5 =>
     if y5.1.2.2.2.2.2.2.2.2.2.2.2.1.length * 8 ≤ 140737488355328 then
      if (y5.1.2.2.2.2.2.2.2.2.2.2.2.1.length + 1) * 8 ≤ 140737488355328 then
       some ((y5.1.1, (y5.1.2.1, (-1, (y5.1.2.2.2.1, (0, (5, (y5.1.2.2.2.2.2.2.1, (y5.1.2.2.2.2.2.2.2.1, (y5.1.2.2.2.2.2.2.2.2.1, (y5.1.2.2.2.2.2.2.2.2.2.1, (y5.1.2.2.2.2.2.2.2.2.2.2.1, ((y5.1.2.2.2.2.2.2.2.2.2.2.2.1 ++ [y5.1.2.2.1]), y5.1.2.2.2.2.2.2.2.2.2.2.2.2)))))))))))), ())
      else none
     else none
   else
    L1 (IntKind.i64.wrap (p1 + 1)) p3 p4 p5 p6 p7 p8 p9
  else none
 else none
else
 (f_ref21_allDone.f k a1).bind fun y9 =>
  if y9.1 = true then
   (f_ref21_tell.f k a1 (3, (0, (0, (a1.2.2.2.2.1, ((0, 0), (0, (0, (0, 0))))))))).bind fun y12 =>
    j2 k (y12.1.1, (y12.1.2.1, (y12.1.2.2.1, (y12.1.2.2.2.1, (y12.1.2.2.2.2.1, (2, y12.1.2.2.2.2.2.2)))))) p3 p4 p5 p6 p7 p8 p9
  else
   j2 k a1 p3 p4 p5 p6 p7 p8 p9
theorem b1_ok {r a1} {L1 : Int → Int → Int → Int → Int → Int → Int → Int → Option R} {m1 : Nat} (hL1 : ∀ p1 p3 p4 p5 p6 p7 p8 p9, L1 p1 p3 p4 p5 p6 p7 p8 p9 = some r → Gw P 0 (Q r) (Pb c0 21 [] m1) (s1 a1 p1 p3 p4 p5 p6 p7 p8 p9)) {k p1 p3 p4 p5 p6 p7 p8 p9} (H : b1 a1 L1 k p1 p3 p4 p5 p6 p7 p8 p9 = some r) : Gw P 0 (Q r) (Px c0 37 [m1]) (s1 a1 p1 p3 p4 p5 p6 p7 p8 p9) := by
 unfold b1 at H
 refine Ra ?_
 rcases of_ite H with ⟨hb1, H⟩ | ⟨hb1, H⟩
 ·refine C1 hb1 ?_
  obtain ⟨n2, H⟩ := of_if H
  obtain ⟨n3, H⟩ := of_if H
  refine Rg V_ok 0 [] (ac n2 (ac n3 az)) ?_
  rcases of_ite H with ⟨hb4, H⟩ | ⟨hb4, H⟩
  ·refine C1 hb4 ?_
   obtain ⟨y5, e6, H⟩ := of_bind H
   refine Rg V_ok 0 [(4, hr f_ref21_tell.S y5)] (ac (f_ref21_tell.rl e6) az) ?_
   refine Ra ?_
   obtain ⟨n7, H⟩ := of_if H
   obtain ⟨n8, H⟩ := of_if H
   refine Rg V_ok 2 [(2, hb 2), (6, hb 3)] (ac n7 (ac n8 az)) ?_
   refine Ra ?_
   refine Ra ?_
   refine Ra ?_
   exact Le H
  ·refine C0 hb4 ?_
   refine Ra ?_
   exact Jm (tn [1, 2, 3] 2) (hL1 (IntKind.i64.wrap (p1 + 1)) p3 p4 p5 p6 p7 p8 p9 H)
 ·refine C0 hb1 ?_
  obtain ⟨y9, e10, H⟩ := of_bind H
  refine Rg V_ok 0 [(1, hr f_ref21_allDone.S y9)] (ac (f_ref21_allDone.rl e10) az) ?_
  refine Ra ?_
  rcases of_ite H with ⟨hb11, H⟩ | ⟨hb11, H⟩
  ·refine C1 hb11 ?_
   obtain ⟨y12, e13, H⟩ := of_bind H
   refine Rg V_ok 0 [(4, hr f_ref21_tell.S y12)] (ac (f_ref21_tell.rl e13) az) ?_
   refine Ra ?_
   exact Jm (tn [1, 2] 2) (j2_ok H)
  ·refine C0 hb11 ?_
   exact Jm (tn [1, 2] 2) (j2_ok H)
noncomputable def l1 (a1 : T26b3.T) (k : Nat) : Nat → Int → Int → Int → Int → Int → Int → Int → Int → Option R
 | 0, _, _, _, _, _, _, _, _ => none
 | m + 1, p1, p3, p4, p5, p6, p7, p8, p9 => b1 a1 (l1 a1 k m) k p1 p3 p4 p5 p6 p7 p8 p9
theorem l1_ok {r a1} (k : Nat) : ∀ (m1 : Nat) (p1 p3 p4 p5 p6 p7 p8 : Int) (p9 : Int), l1 a1 k m1 p1 p3 p4 p5 p6 p7 p8 p9 = some r → Gw P 0 (Q r) (Pb c0 21 [] m1) (s1 a1 p1 p3 p4 p5 p6 p7 p8 p9)
 | 0, _, _, _, _, _, _, _, _, H => by cases H
 | m1 + 1, p1, p3, p4, p5, p6, p7, p8, p9, H => SU (by kernel_rfl) (b1_ok (l1_ok k m1) H)
noncomputable def f (k : Nat) (a1 : T26b3.T) : Option R :=
 l1 a1 k k 0 0 0 0 0 0 0 0
noncomputable def S : Spec := ⟨ps, rs, .any, none, fun x r => ∃ k, f k x.1 = some r⟩
theorem rl {k a1 r} (e : f k a1 = some r) : S.rel (a1, ()) r := ⟨k, e⟩
theorem f_ok {r k a1} (H : f k a1 = some r) : Gw P 0 (Q r) (Px c0 1 []) (⟨48, [(0, .cv (.agg (encC .any T26b3 a1)))], []⟩) := by
 unfold f at H
 refine Rg V_ok 2 [(0, hb 0), (1, hb 1)] az ?_
 refine Ra ?_
 exact LP k (Jm (tn [1, 2, 3] 2) (l1_ok k k 0 0 0 0 0 0 0 0 H))
theorem fits : Fits P 53 S := fitsA V_ok func53 fun x r ⟨k, H⟩ => of_G (f_ok H)
end f_ref21_install

namespace f_ref21_drain
noncomputable def c0 : Code := bo f54
abbrev ps : Sg := [(true, T26b3)]
abbrev rs : Sg := [(true, T26b3)]
noncomputable def V : Env := eV [(107, f_ref21_tell.S)]
theorem V_ok : EnvOk P V := eOk (slk_cons f_ref21_tell.fits (slk_nil))
abbrev R := Tup rs
noncomputable abbrev Q (r : R) : Exit → St → Prop := Qr tt f54.results ⟨ps, rs, .any, none, fun _ _ => True⟩ r
noncomputable def f (k : Nat) (a1 : T26b3.T) : Option R :=
 if (decide ((IntKind.i64.wrap (a1.2.2.2.2.2.2.1 - 1)) ≥ (1 : Int))) = true then
  some ((a1.1, (a1.2.1, (a1.2.2.1, (a1.2.2.2.1, (a1.2.2.2.2.1, (a1.2.2.2.2.2.1, ((IntKind.i64.wrap (a1.2.2.2.2.2.2.1 - 1)), a1.2.2.2.2.2.2.2))))))), ())
 else
  (f_ref21_tell.f k (a1.1, (a1.2.1, (a1.2.2.1, (a1.2.2.2.1, (a1.2.2.2.2.1, (a1.2.2.2.2.2.1, ((IntKind.i64.wrap (a1.2.2.2.2.2.2.1 - 1)), a1.2.2.2.2.2.2.2))))))) (4, (0, (0, (a1.2.2.2.1, ((0, 0), (0, (0, (0, 0))))))))).bind fun y2 =>
   if y2.1.2.2.2.2.2.2.2.2.2.2.1.length * 8 ≤ 140737488355328 then
    if (y2.1.2.2.2.2.2.2.2.2.2.2.1.length + 1) * 8 ≤ 140737488355328 then
     some ((y2.1.1, (y2.1.2.2.1, (-1, (y2.1.2.2.2.2.1, (0, (4, (y2.1.2.2.2.2.2.2.1, (y2.1.2.2.2.2.2.2.2.1, (y2.1.2.2.2.2.2.2.2.2.1, (y2.1.2.2.2.2.2.2.2.2.2.1, ((y2.1.2.2.2.2.2.2.2.2.2.2.1 ++ [y2.1.2.2.1]), y2.1.2.2.2.2.2.2.2.2.2.2.2))))))))))), ())
    else none
   else none
noncomputable def S : Spec := ⟨ps, rs, .any, none, fun x r => ∃ k, f k x.1 = some r⟩
theorem rl {k a1 r} (e : f k a1 = some r) : S.rel (a1, ()) r := ⟨k, e⟩
theorem f_ok {r k a1} (H : f k a1 = some r) : Gw P 0 (Q r) (Px c0 1 []) (⟨34, [(0, .cv (.agg (encC .any T26b3 a1)))], []⟩) := by
 unfold f at H
 refine Rg V_ok 2 [(0, hb 0), (1, hb 1)] az ?_
 refine Ra ?_
 refine Ra ?_
 rcases of_ite H with ⟨hb1, H⟩ | ⟨hb1, H⟩
 ·refine C1 hb1 ?_
  refine Ra ?_
  exact Le H
 ·refine C0 hb1 ?_
  obtain ⟨y2, e3, H⟩ := of_bind H
  refine Rg V_ok 0 [(4, hr f_ref21_tell.S y2)] (ac (f_ref21_tell.rl e3) az) ?_
  refine Ra ?_
  obtain ⟨n4, H⟩ := of_if H
  obtain ⟨n5, H⟩ := of_if H
  refine Rg V_ok 2 [(2, hb 2), (6, hb 3)] (ac n4 (ac n5 az)) ?_
  refine Ra ?_
  refine Ra ?_
  refine Ra ?_
  refine Ra ?_
  refine Ra ?_
  exact Le H
theorem fits : Fits P 54 S := fitsA V_ok func54 fun x r ⟨k, H⟩ => of_G (f_ok H)
end f_ref21_drain

namespace f_ref21_Tick
noncomputable def c0 : Code := bo f18
abbrev ps : Sg := [(true, T26b3)]
abbrev rs : Sg := [(true, T26b3)]
noncomputable def V : Env := eV [(36, f_ref21_May.S), (51, f_ref21_allDone.S), (52, f_ref21_idle.S), (53, f_ref21_install.S), (54, f_ref21_drain.S)]
theorem V_ok : EnvOk P V := eOk (slk_cons f_ref21_May.fits (slk_cons f_ref21_allDone.fits (slk_cons f_ref21_idle.fits (slk_cons f_ref21_install.fits (slk_cons f_ref21_drain.fits (slk_nil))))))
abbrev R := Tup rs
noncomputable abbrev Q (r : R) : Exit → St → Prop := Qr tt f18.results ⟨ps, rs, .any, none, fun _ _ => True⟩ r
noncomputable def s1 (p1 : T26b3.T) (p2 p3 p4 p5 p6 p7 p8 : Int) : St := ⟨37, [(1, .cv (.one (.ptr 0 0))), (2, .cv (.one (.ptr 1 0)))], [(.box 13, (encC .any T26b3 p1)), (.box 13, [.nils, .i p2, .i p3, .i p4, .i p5, .i p6, .i p7, .nils, .nils, .nils, .nils, .nils, .i p8])]⟩
noncomputable def j1 (k : Nat) (p1 : T26b3.T) (p2 p3 p4 p5 p6 p7 p8 : Int) : Option R :=
 some (p1, ())
theorem j1_ok {r} {k p1 p2 p3 p4 p5 p6 p7 p8} (H : j1 k p1 p2 p3 p4 p5 p6 p7 p8 = some r) : Gw P 0 (Q r) (Px c0 63 []) (s1 p1 p2 p3 p4 p5 p6 p7 p8) := by
 unfold j1 at H
 refine Ra ?_
 exact Le H
noncomputable def s2 (a1 : T26b3.T) (p1 p2 : Bool) (p4 p5 p6 p7 p8 p9 p10 : Int) : St := ⟨37, [(1, .cv (.one (.ptr 0 0))), (2, .cv (.one (.ptr 1 0))), (4, .cv (.one (.bool p1))), (31, .cv (.one (.bool p2)))], [(.box 13, (encC .any T26b3 a1)), (.box 13, [.nils, .i p4, .i p5, .i p6, .i p7, .i p8, .i p9, .nils, .nils, .nils, .nils, .nils, .i p10])]⟩
noncomputable def j2 (a1 : T26b3.T) (k : Nat) (p1 p2 : Bool) (p4 p5 p6 p7 p8 p9 p10 : Int) : Option R :=
 if p2 = true then
 if p1 = true then
  j1 k (a1.1, (a1.2.1, (a1.2.2.1, (a1.2.2.2.1, (a1.2.2.2.2.1, (0, a1.2.2.2.2.2.2)))))) p4 p5 p6 p7 p8 p9 p10
 else
  j1 k a1 p4 p5 p6 p7 p8 p9 p10
else
 j1 k a1 p4 p5 p6 p7 p8 p9 p10
theorem j2_ok {r a1} {k p1 p2 p4 p5 p6 p7 p8 p9 p10} (H : j2 a1 k p1 p2 p4 p5 p6 p7 p8 p9 p10 = some r) : Gw P 0 (Q r) (Px c0 130991 []) (s2 a1 p1 p2 p4 p5 p6 p7 p8 p9 p10) := by
 unfold j2 at H
 rcases of_ite H with ⟨hb18, H⟩ | ⟨hb18, H⟩
 ·refine C1 hb18 ?_
  refine Ra ?_
  rcases of_ite H with ⟨hb19, H⟩ | ⟨hb19, H⟩
  ·refine C1 hb19 ?_
   refine Ra ?_
   exact Jm (tn [1, 2] 2) (j1_ok H)
  ·refine C0 hb19 ?_
   exact Jm (tn [1, 2] 2) (j1_ok H)
 ·refine C0 hb18 ?_
  exact Jm (tn [1, 2] 2) (j1_ok H)
noncomputable def f (k : Nat) (a1 : T26b3.T) : Option R :=
 (f_ref21_May.f k a1).bind fun y1 =>
  if (!y1.1) = true then
   some (a1, ())
  else
   (f_ref21_allDone.f k a1).bind fun y4 =>
    if (a1.2.2.2.2.2.1 == (0 : Int)) = true then
     (f_ref21_idle.f k a1).bind fun y7 =>
      some (y7.1, ())
    else
     if (a1.2.2.2.2.2.1 == (1 : Int)) = true then
      (f_ref21_install.f k a1).bind fun y10 =>
       some (y10.1, ())
     else
      if (a1.2.2.2.2.2.1 == (2 : Int)) = true then
       if y4.1 = true then
        j1 k (a1.1, (a1.2.1, (a1.2.2.1, (a1.2.2.2.1, (a1.2.2.2.2.1, (3, (18, a1.2.2.2.2.2.2.2))))))) 0 0 0 0 0 0 0
       else
        j1 k a1 0 0 0 0 0 0 0
      else
       if (a1.2.2.2.2.2.1 == (3 : Int)) = true then
        (f_ref21_drain.f k a1).bind fun y15 =>
         some (y15.1, ())
       else
        if (a1.2.2.2.2.2.1 == (4 : Int)) = true then
         j2 a1 k y4.1 (a1.2.2.2.2.2.1 == (4 : Int)) 0 0 0 0 0 0 0
        else
         j2 a1 k y4.1 (a1.2.2.2.2.2.1 == (5 : Int)) 0 0 0 0 0 0 0
noncomputable def S : Spec := ⟨ps, rs, .any, none, fun x r => ∃ k, f k x.1 = some r⟩
theorem rl {k a1 r} (e : f k a1 = some r) : S.rel (a1, ()) r := ⟨k, e⟩
theorem f_ok {r k a1} (H : f k a1 = some r) : Gw P 0 (Q r) (Px c0 1 []) (⟨37, [(0, .cv (.agg (encC .any T26b3 a1)))], []⟩) := by
 unfold f at H
 refine Rg V_ok 2 [(0, hb 0), (1, hb 1)] az ?_
 obtain ⟨y1, e2, H⟩ := of_bind H
 refine Rg V_ok 0 [(1, hr f_ref21_May.S y1)] (ac (f_ref21_May.rl e2) az) ?_
 refine Ra ?_
 rcases of_ite H with ⟨hb3, H⟩ | ⟨hb3, H⟩
 ·refine C1 hb3 ?_
  refine Ra ?_
  exact Le H
 ·refine C0 hb3 ?_
  obtain ⟨y4, e5, H⟩ := of_bind H
  refine Rg V_ok 0 [(1, hr f_ref21_allDone.S y4)] (ac (f_ref21_allDone.rl e5) az) ?_
  refine Ra ?_
  refine Ra ?_
  rcases of_ite H with ⟨hb6, H⟩ | ⟨hb6, H⟩
  ·refine C1 hb6 ?_
   obtain ⟨y7, e8, H⟩ := of_bind H
   refine Rg V_ok 0 [(1, hr f_ref21_idle.S y7)] (ac (f_ref21_idle.rl e8) az) ?_
   exact Le H
  ·refine C0 hb6 ?_
   refine Ra ?_
   rcases of_ite H with ⟨hb9, H⟩ | ⟨hb9, H⟩
   ·refine C1 hb9 ?_
    obtain ⟨y10, e11, H⟩ := of_bind H
    refine Rg V_ok 0 [(1, hr f_ref21_install.S y10)] (ac (f_ref21_install.rl e11) az) ?_
    exact Le H
   ·refine C0 hb9 ?_
    refine Ra ?_
    rcases of_ite H with ⟨hb12, H⟩ | ⟨hb12, H⟩
    ·refine C1 hb12 ?_
     refine Ra ?_
     rcases of_ite H with ⟨hb13, H⟩ | ⟨hb13, H⟩
     ·refine C1 hb13 ?_
      refine Ra ?_
      refine Ra ?_
      exact Jm (tn [1, 2] 2) (j1_ok H)
     ·refine C0 hb13 ?_
      exact Jm (tn [1, 2] 2) (j1_ok H)
    ·refine C0 hb12 ?_
     refine Ra ?_
     rcases of_ite H with ⟨hb14, H⟩ | ⟨hb14, H⟩
     ·refine C1 hb14 ?_
      obtain ⟨y15, e16, H⟩ := of_bind H
      refine Rg V_ok 0 [(1, hr f_ref21_drain.S y15)] (ac (f_ref21_drain.rl e16) az) ?_
      exact Le H
     ·refine C0 hb14 ?_
      refine Ra ?_
      rcases of_ite H with ⟨hb17, H⟩ | ⟨hb17, H⟩
      ·refine C1 hb17 ?_
       exact Jm (tn [1, 2, 4, 31] 2) (j2_ok H)
      ·refine C0 hb17 ?_
       refine Ra ?_
       exact Jm (tn [1, 2, 4, 31] 2) (j2_ok H)
theorem fits : Fits P 18 S := fitsA V_ok func18 fun x r ⟨k, H⟩ => of_G (f_ok H)
end f_ref21_Tick

namespace f_ref08_Same
noncomputable def c0 : Code := bo f62
abbrev ps : Sg := [(false, (.slice T1383)), (false, (.slice T1383))]
abbrev rs : Sg := [(false, .bool)]
noncomputable def V : Env := eV []
theorem V_ok : EnvOk P V := eOk (slk_nil)
abbrev R := Tup rs
noncomputable abbrev Q (r : R) : Exit → St → Prop := Qr tt f62.results ⟨ps, rs, .any, none, fun _ _ => True⟩ r
noncomputable def s1 (p1 p2 : List T1383.T) (p3 : Int) : St := ⟨26, [(0, .cv (.one (.sl T1383 p1 .any))), (1, .cv (.one (.sl T1383 p2 .any))), (5, .cv (.one (.i p3)))], []⟩
noncomputable def b1 (L1 : List T1383.T → List T1383.T → Int → Option R) (k : Nat) (p1 p2 : List T1383.T) (p3 : Int) : Option R :=
 if (decide (p3 < (p1.length : Int))) = true then
 if 0 ≤ p3 then
  if p3 < (p1.length : Int) then
   if p3 < (p2.length : Int) then
    if (!(((((att T1383 p1 p3).1).1) == (((att T1383 p2 p3).1).1)) && (((((att T1383 p1 p3).1).2) == (((att T1383 p2 p3).1).2)) && (((((att T1383 p1 p3).2).1) == (((att T1383 p2 p3).2).1)) && ((((((att T1383 p1 p3).2).2).1) == ((((att T1383 p2 p3).2).2).1)) && (((((((att T1383 p1 p3).2).2).2).1) == (((((att T1383 p2 p3).2).2).2).1)) && (((((((att T1383 p1 p3).2).2).2).2) == (((((att T1383 p2 p3).2).2).2).2)) && true))))))) = true then
     some (false, ())
    else
     L1 p1 p2 (IntKind.i64.wrap (p3 + 1))
   else none
  else none
 else none
else
 some (true, ())
theorem b1_ok {r} {L1 : List T1383.T → List T1383.T → Int → Option R} {m1 : Nat} (hL1 : ∀ p1 p2 p3, L1 p1 p2 p3 = some r → Gw P 0 (Q r) (Pb c0 43 [] m1) (s1 p1 p2 p3)) {k p1 p2 p3} (H : b1 L1 k p1 p2 p3 = some r) : Gw P 0 (Q r) (Px c0 75 [m1]) (s1 p1 p2 p3) := by
 unfold b1 at H
 refine Ra ?_
 rcases of_ite H with ⟨hb2, H⟩ | ⟨hb2, H⟩
 ·refine C1 hb2 ?_
  obtain ⟨n3, H⟩ := of_if H
  obtain ⟨n4, H⟩ := of_if H
  obtain ⟨n5, H⟩ := of_if H
  refine Rg V_ok 0 [] (ac n3 (ac n4 (ac n3 (ac n5 az)))) ?_
  rcases of_ite H with ⟨hb6, H⟩ | ⟨hb6, H⟩
  ·refine C1 hb6 ?_
   refine Ra ?_
   exact Le H
  ·refine C0 hb6 ?_
   refine Ra ?_
   exact Jm (tn [0, 1, 5] 0) (hL1 p1 p2 (IntKind.i64.wrap (p3 + 1)) H)
 ·refine C0 hb2 ?_
  refine Ra ?_
  exact Le H
noncomputable def l1 (k : Nat) : Nat → List T1383.T → List T1383.T → Int → Option R
 | 0, _, _, _ => none
 | m + 1, p1, p2, p3 => b1 (l1 k m) k p1 p2 p3
theorem l1_ok {r} (k : Nat) : ∀ (m1 : Nat) (p1 p2 : List T1383.T) (p3 : Int), l1 k m1 p1 p2 p3 = some r → Gw P 0 (Q r) (Pb c0 43 [] m1) (s1 p1 p2 p3)
 | 0, _, _, _, H => by cases H
 | m1 + 1, p1, p2, p3, H => SU (by kernel_rfl) (b1_ok (l1_ok k m1) H)
noncomputable def f (k : Nat) (a1 a2 : List T1383.T) : Option R :=
 if ((a1.length : Int) != (a2.length : Int)) = true then
  some (false, ())
 else
  l1 k k a1 a2 0
noncomputable def S : Spec := ⟨ps, rs, .any, none, fun x r => ∃ k, f k x.1 x.2.1 = some r⟩
theorem rl {k a1 a2 r} (e : f k a1 a2 = some r) : S.rel (a1, a2, ()) r := ⟨k, e⟩
theorem f_ok {r k a1 a2} (H : f k a1 a2 = some r) : Gw P 0 (Q r) (Px c0 1 []) (⟨26, [(0, .cv (.one (.sl T1383 a1 .any))), (1, .cv (.one (.sl T1383 a2 .any)))], []⟩) := by
 unfold f at H
 refine Ra ?_
 refine Ra ?_
 rcases of_ite H with ⟨hb1, H⟩ | ⟨hb1, H⟩
 ·refine C1 hb1 ?_
  refine Ra ?_
  exact Le H
 ·refine C0 hb1 ?_
  refine Ra ?_
  exact LP k (Jm (tn [0, 1, 5] 0) (l1_ok k k a1 a2 0 H))
theorem fits : Fits P 62 S := fitsA V_ok func62 fun x r ⟨k, H⟩ => of_G (f_ok H)
end f_ref08_Same

namespace f_ref21_Confs
noncomputable def c0 : Code := bo f28
abbrev ps : Sg := [(false, (.slice (.slice (.slice T1383)))), (false, (.slice (.slice (.slice T1383))))]
abbrev rs : Sg := [(false, .bool)]
noncomputable def V : Env := eV [(62, f_ref08_Same.S)]
theorem V_ok : EnvOk P V := eOk (slk_cons f_ref08_Same.fits (slk_nil))
abbrev R := Tup rs
noncomputable abbrev Q (r : R) : Exit → St → Prop := Qr tt f28.results ⟨ps, rs, .any, none, fun _ _ => True⟩ r
noncomputable def s1 (a1 a2 : List (List (List T1383.T))) (p3 : Int) : St := ⟨56, [(0, .cv (.one (.sl (.slice (.slice T1383)) a1 .any))), (1, .cv (.one (.sl (.slice (.slice T1383)) a2 .any))), (5, .cv (.one (.i p3)))], []⟩
noncomputable def s2 (a1 a2 : List (List (List T1383.T))) (p3 p4 : Int) : St := ⟨56, [(0, .cv (.one (.sl (.slice (.slice T1383)) a1 .any))), (1, .cv (.one (.sl (.slice (.slice T1383)) a2 .any))), (5, .cv (.one (.i p3))), (6, .cv (.one (.i p4)))], []⟩
noncomputable def b2 (a1 a2 : List (List (List T1383.T))) (L1 : Int → Option R) (L2 : Int → Int → Option R) (k : Nat) (p3 p4 : Int) : Option R :=
 if 0 ≤ p3 then
 if p3 < (a1.length : Int) then
  if (decide (p4 < ((att (.slice (.slice T1383)) a1 p3).length : Int))) = true then
   if 0 ≤ p4 then
    if p4 < ((att (.slice (.slice T1383)) a1 p3).length : Int) then
     if p3 < (a2.length : Int) then
      if p4 < ((att (.slice (.slice T1383)) a2 p3).length : Int) then
       (f_ref08_Same.f k (att (.slice T1383) (att (.slice (.slice T1383)) a1 p3) p4) (att (.slice T1383) (att (.slice (.slice T1383)) a2 p3) p4)).bind fun y10 =>
        if (!y10.1) = true then
         some (false, ())
        else
         L2 p3 (IntKind.i64.wrap (p4 + 1))
      else none
     else none
    else none
   else none
  else
   L1 (IntKind.i64.wrap (p3 + 1))
 else none
else none
theorem b2_ok {r a1 a2} {L1 : Int → Option R} {m1 : Nat} (hL1 : ∀ p3, L1 p3 = some r → Gw P 0 (Q r) (Pb c0 43 [] m1) (s1 a1 a2 p3)) {L2 : Int → Int → Option R} {m2 : Nat} (hL2 : ∀ p3 p4, L2 p3 p4 = some r → Gw P 0 (Q r) (Pb c0 5707 [m1] m2) (s2 a1 a2 p3 p4)) {k p3 p4} (H : b2 a1 a2 L1 L2 k p3 p4 = some r) : Gw P 0 (Q r) (Px c0 9803 [m1, m2]) (s2 a1 a2 p3 p4) := by
 unfold b2 at H
 obtain ⟨n7, H⟩ := of_if H
 obtain ⟨n8, H⟩ := of_if H
 refine Rg V_ok 0 [] (ac n7 (ac n8 az)) ?_
 rcases of_ite H with ⟨hb9, H⟩ | ⟨hb9, H⟩
 ·refine C1 hb9 ?_
  obtain ⟨n11, H⟩ := of_if H
  obtain ⟨n12, H⟩ := of_if H
  obtain ⟨n13, H⟩ := of_if H
  obtain ⟨n14, H⟩ := of_if H
  obtain ⟨y10, e15, H⟩ := of_bind H
  refine Rg V_ok 0 [(14, hr f_ref08_Same.S y10)] (ac n7 (ac n8 (ac n11 (ac n12 (ac n7 (ac n13 (ac n11 (ac n14 (ac (f_ref08_Same.rl e15) az))))))))) ?_
  refine Ra ?_
  rcases of_ite H with ⟨hb16, H⟩ | ⟨hb16, H⟩
  ·refine C1 hb16 ?_
   refine Ra ?_
   exact Le H
  ·refine C0 hb16 ?_
   refine Ra ?_
   exact Jm (tn [0, 1, 5, 6] 0) (hL2 p3 (IntKind.i64.wrap (p4 + 1)) H)
 ·refine C0 hb9 ?_
  refine Ra ?_
  exact Jm (tn [0, 1, 5] 0) (hL1 (IntKind.i64.wrap (p3 + 1)) H)
noncomputable def l2 (a1 a2 : List (List (List T1383.T))) (L1 : Int → Option R) (k : Nat) : Nat → Int → Int → Option R
 | 0, _, _ => none
 | m + 1, p3, p4 => b2 a1 a2 L1 (l2 a1 a2 L1 k m) k p3 p4
theorem l2_ok {r a1 a2} {L1 : Int → Option R} {m1 : Nat} (hL1 : ∀ p3, L1 p3 = some r → Gw P 0 (Q r) (Pb c0 43 [] m1) (s1 a1 a2 p3)) (k : Nat) : ∀ (m2 : Nat) (p3 : Int) (p4 : Int), l2 a1 a2 L1 k m2 p3 p4 = some r → Gw P 0 (Q r) (Pb c0 5707 [m1] m2) (s2 a1 a2 p3 p4)
 | 0, _, _, H => by cases H
 | m2 + 1, p3, p4, H => SU (by kernel_rfl) (b2_ok hL1 (l2_ok hL1 k m2) H)
noncomputable def b1 (a1 a2 : List (List (List T1383.T))) (L1 : Int → Option R) (k : Nat) (p3 : Int) : Option R :=
 if (decide (p3 < (a1.length : Int))) = true then
 if 0 ≤ p3 then
  if p3 < (a1.length : Int) then
   if p3 < (a2.length : Int) then
    if (((att (.slice (.slice T1383)) a1 p3).length : Int) != ((att (.slice (.slice T1383)) a2 p3).length : Int)) = true then
     some (false, ())
    else
     l2 a1 a2 L1 k k p3 0
   else none
  else none
 else none
else
 some (true, ())
theorem b1_ok {r a1 a2} {L1 : Int → Option R} {m1 : Nat} (hL1 : ∀ p3, L1 p3 = some r → Gw P 0 (Q r) (Pb c0 43 [] m1) (s1 a1 a2 p3)) {k p3} (H : b1 a1 a2 L1 k p3 = some r) : Gw P 0 (Q r) (Px c0 75 [m1]) (s1 a1 a2 p3) := by
 unfold b1 at H
 refine Ra ?_
 rcases of_ite H with ⟨hb2, H⟩ | ⟨hb2, H⟩
 ·refine C1 hb2 ?_
  obtain ⟨n3, H⟩ := of_if H
  obtain ⟨n4, H⟩ := of_if H
  obtain ⟨n5, H⟩ := of_if H
  refine Rg V_ok 0 [] (ac n3 (ac n4 (ac n3 (ac n5 az)))) ?_
  rcases of_ite H with ⟨hb6, H⟩ | ⟨hb6, H⟩
  ·refine C1 hb6 ?_
   refine Ra ?_
   exact Le H
  ·refine C0 hb6 ?_
   refine Ra ?_
   exact LP k (Jm (tn [0, 1, 5, 6] 0) (l2_ok hL1 k k p3 0 H))
 ·refine C0 hb2 ?_
  refine Ra ?_
  exact Le H
noncomputable def l1 (a1 a2 : List (List (List T1383.T))) (k : Nat) : Nat → Int → Option R
 | 0, _ => none
 | m + 1, p3 => b1 a1 a2 (l1 a1 a2 k m) k p3
theorem l1_ok {r a1 a2} (k : Nat) : ∀ (m1 : Nat) (p3 : Int), l1 a1 a2 k m1 p3 = some r → Gw P 0 (Q r) (Pb c0 43 [] m1) (s1 a1 a2 p3)
 | 0, _, H => by cases H
 | m1 + 1, p3, H => SU (by kernel_rfl) (b1_ok (l1_ok k m1) H)
noncomputable def f (k : Nat) (a1 a2 : List (List (List T1383.T))) : Option R :=
 if ((a1.length : Int) != (a2.length : Int)) = true then
  some (false, ())
 else
  l1 a1 a2 k k 0
noncomputable def S : Spec := ⟨ps, rs, .any, none, fun x r => ∃ k, f k x.1 x.2.1 = some r⟩
theorem rl {k a1 a2 r} (e : f k a1 a2 = some r) : S.rel (a1, a2, ()) r := ⟨k, e⟩
theorem f_ok {r k a1 a2} (H : f k a1 a2 = some r) : Gw P 0 (Q r) (Px c0 1 []) (⟨56, [(0, .cv (.one (.sl (.slice (.slice T1383)) a1 .any))), (1, .cv (.one (.sl (.slice (.slice T1383)) a2 .any)))], []⟩) := by
 unfold f at H
 refine Ra ?_
 refine Ra ?_
 rcases of_ite H with ⟨hb1, H⟩ | ⟨hb1, H⟩
 ·refine C1 hb1 ?_
  refine Ra ?_
  exact Le H
 ·refine C0 hb1 ?_
  refine Ra ?_
  exact LP k (Jm (tn [0, 1, 5] 0) (l1_ok k k 0 H))
theorem fits : Fits P 28 S := fitsA V_ok func28 fun x r ⟨k, H⟩ => of_G (f_ok H)
end f_ref21_Confs

namespace f_ref15_Msgs
noncomputable def c0 : Code := bo f118
abbrev ps : Sg := [(false, (.slice T4414)), (false, (.slice T4414))]
abbrev rs : Sg := [(false, .bool)]
noncomputable def V : Env := eV []
theorem V_ok : EnvOk P V := eOk (slk_nil)
abbrev R := Tup rs
noncomputable abbrev Q (r : R) : Exit → St → Prop := Qr tt f118.results ⟨ps, rs, .any, none, fun _ _ => True⟩ r
noncomputable def s1 (p1 p2 : List T4414.T) (p3 : Int) : St := ⟨26, [(0, .cv (.one (.sl T4414 p1 .any))), (1, .cv (.one (.sl T4414 p2 .any))), (5, .cv (.one (.i p3)))], []⟩
noncomputable def b1 (L1 : List T4414.T → List T4414.T → Int → Option R) (k : Nat) (p1 p2 : List T4414.T) (p3 : Int) : Option R :=
 if (decide (p3 < (p1.length : Int))) = true then
 if 0 ≤ p3 then
  if p3 < (p1.length : Int) then
   if p3 < (p2.length : Int) then
    if (!((((att T4414 p1 p3).1) == ((att T4414 p2 p3).1)) && (((((att T4414 p1 p3).2).1) == (((att T4414 p2 p3).2).1)) && ((((((att T4414 p1 p3).2).2).1) == ((((att T4414 p2 p3).2).2).1)) && (((((((att T4414 p1 p3).2).2).2).1) == (((((att T4414 p2 p3).2).2).2).1)) && (((((((((att T4414 p1 p3).2).2).2).2).1).1) == (((((((att T4414 p2 p3).2).2).2).2).1).1)) && (((((((((att T4414 p1 p3).2).2).2).2).1).2) == (((((((att T4414 p2 p3).2).2).2).2).1).2)) && (((((((((att T4414 p1 p3).2).2).2).2).2).1) == (((((((att T4414 p2 p3).2).2).2).2).2).1)) && ((((((((((att T4414 p1 p3).2).2).2).2).2).2).1) == ((((((((att T4414 p2 p3).2).2).2).2).2).2).1)) && (((((((((((att T4414 p1 p3).2).2).2).2).2).2).2).1) == (((((((((att T4414 p2 p3).2).2).2).2).2).2).2).1)) && (((((((((((att T4414 p1 p3).2).2).2).2).2).2).2).2) == (((((((((att T4414 p2 p3).2).2).2).2).2).2).2).2)) && true))))))))))) = true then
     some (false, ())
    else
     L1 p1 p2 (IntKind.i64.wrap (p3 + 1))
   else none
  else none
 else none
else
 some (true, ())
theorem b1_ok {r} {L1 : List T4414.T → List T4414.T → Int → Option R} {m1 : Nat} (hL1 : ∀ p1 p2 p3, L1 p1 p2 p3 = some r → Gw P 0 (Q r) (Pb c0 43 [] m1) (s1 p1 p2 p3)) {k p1 p2 p3} (H : b1 L1 k p1 p2 p3 = some r) : Gw P 0 (Q r) (Px c0 75 [m1]) (s1 p1 p2 p3) := by
 unfold b1 at H
 refine Ra ?_
 rcases of_ite H with ⟨hb2, H⟩ | ⟨hb2, H⟩
 ·refine C1 hb2 ?_
  obtain ⟨n3, H⟩ := of_if H
  obtain ⟨n4, H⟩ := of_if H
  obtain ⟨n5, H⟩ := of_if H
  refine Rg V_ok 0 [] (ac n3 (ac n4 (ac n3 (ac n5 az)))) ?_
  rcases of_ite H with ⟨hb6, H⟩ | ⟨hb6, H⟩
  ·refine C1 hb6 ?_
   refine Ra ?_
   exact Le H
  ·refine C0 hb6 ?_
   refine Ra ?_
   exact Jm (tn [0, 1, 5] 0) (hL1 p1 p2 (IntKind.i64.wrap (p3 + 1)) H)
 ·refine C0 hb2 ?_
  refine Ra ?_
  exact Le H
noncomputable def l1 (k : Nat) : Nat → List T4414.T → List T4414.T → Int → Option R
 | 0, _, _, _ => none
 | m + 1, p1, p2, p3 => b1 (l1 k m) k p1 p2 p3
theorem l1_ok {r} (k : Nat) : ∀ (m1 : Nat) (p1 p2 : List T4414.T) (p3 : Int), l1 k m1 p1 p2 p3 = some r → Gw P 0 (Q r) (Pb c0 43 [] m1) (s1 p1 p2 p3)
 | 0, _, _, _, H => by cases H
 | m1 + 1, p1, p2, p3, H => SU (by kernel_rfl) (b1_ok (l1_ok k m1) H)
noncomputable def f (k : Nat) (a1 a2 : List T4414.T) : Option R :=
 if ((a1.length : Int) != (a2.length : Int)) = true then
  some (false, ())
 else
  l1 k k a1 a2 0
noncomputable def S : Spec := ⟨ps, rs, .any, none, fun x r => ∃ k, f k x.1 x.2.1 = some r⟩
theorem rl {k a1 a2 r} (e : f k a1 a2 = some r) : S.rel (a1, a2, ()) r := ⟨k, e⟩
theorem f_ok {r k a1 a2} (H : f k a1 a2 = some r) : Gw P 0 (Q r) (Px c0 1 []) (⟨26, [(0, .cv (.one (.sl T4414 a1 .any))), (1, .cv (.one (.sl T4414 a2 .any)))], []⟩) := by
 unfold f at H
 refine Ra ?_
 refine Ra ?_
 rcases of_ite H with ⟨hb1, H⟩ | ⟨hb1, H⟩
 ·refine C1 hb1 ?_
  refine Ra ?_
  exact Le H
 ·refine C0 hb1 ?_
  refine Ra ?_
  exact LP k (Jm (tn [0, 1, 5] 0) (l1_ok k k a1 a2 0 H))
theorem fits : Fits P 118 S := fitsA V_ok func118 fun x r ⟨k, H⟩ => of_G (f_ok H)
end f_ref15_Msgs

namespace f_ref15_Same
noncomputable def c0 : Code := bo f74
abbrev ps : Sg := [(true, Tb104), (true, Tb104)]
abbrev rs : Sg := [(false, .bool)]
noncomputable def V : Env := eV [(118, f_ref15_Msgs.S)]
theorem V_ok : EnvOk P V := eOk (slk_cons f_ref15_Msgs.fits (slk_nil))
abbrev R := Tup rs
noncomputable abbrev Q (r : R) : Exit → St → Prop := Qr tt f74.results ⟨ps, rs, .any, none, fun _ _ => True⟩ r
noncomputable def f (k : Nat) (a1 a2 : Tb104.T) : Option R :=
 (f_ref15_Msgs.f k a1.2.2 a2.2.2).bind fun y1 =>
  if y1.1 = true then
   if (a1.1 == a2.1) = true then
    some ((a1.2.1 == a2.2.1), ())
   else
    some (false, ())
  else
   some (false, ())
noncomputable def S : Spec := ⟨ps, rs, .any, none, fun x r => ∃ k, f k x.1 x.2.1 = some r⟩
theorem rl {k a1 a2 r} (e : f k a1 a2 = some r) : S.rel (a1, a2, ()) r := ⟨k, e⟩
theorem f_ok {r k a1 a2} (H : f k a1 a2 = some r) : Gw P 0 (Q r) (Px c0 1 []) (⟨26, [(0, .cv (.agg (encC .any Tb104 a1))), (1, .cv (.agg (encC .any Tb104 a2)))], []⟩) := by
 unfold f at H
 refine Rg V_ok 2 [(0, hb 0), (1, hb 1)] az ?_
 obtain ⟨y1, e2, H⟩ := of_bind H
 refine Rg V_ok 0 [(4, hr f_ref15_Msgs.S y1)] (ac (f_ref15_Msgs.rl e2) az) ?_
 rcases of_ite H with ⟨hb3, H⟩ | ⟨hb3, H⟩
 ·rcases of_ite H with ⟨hb4, H⟩ | ⟨hb4, H⟩
  ·refine Rg V_ok 0 [(0, {bv := some true}), (7, {bv := some true})] (ac hb3 (ac hb4 az)) ?_
   exact Le H
  ·refine Rg V_ok 0 [(0, {bv := some true}), (7, {bv := some false})] (ac hb3 (ac hb4 az)) ?_
   exact Le H
 ·refine Rg V_ok 0 [(0, {bv := some false})] (ac hb3 az) ?_
  exact Le H
theorem fits : Fits P 74 S := fitsA V_ok func74 fun x r ⟨k, H⟩ => of_G (f_ok H)
end f_ref15_Same

namespace f_ref21_peers
noncomputable def c0 : Code := bo f29
abbrev ps : Sg := [(false, (.slice T23b6)), (false, (.slice T23b6))]
abbrev rs : Sg := [(false, .bool)]
noncomputable def V : Env := eV [(74, f_ref15_Same.S)]
theorem V_ok : EnvOk P V := eOk (slk_cons f_ref15_Same.fits (slk_nil))
abbrev R := Tup rs
noncomputable abbrev Q (r : R) : Exit → St → Prop := Qr tt f29.results ⟨ps, rs, .any, none, fun _ _ => True⟩ r
noncomputable def s1 (a1 a2 : List T23b6.T) (p3 : Int) : St := ⟨57, [(0, .cv (.one (.sl T23b6 a1 .any))), (1, .cv (.one (.sl T23b6 a2 .any))), (5, .cv (.one (.i p3)))], []⟩
noncomputable def s2 (a1 a2 : List T23b6.T) (p3 : Int) (p4 : Bool) : St := ⟨57, [(0, .cv (.one (.sl T23b6 a1 .any))), (1, .cv (.one (.sl T23b6 a2 .any))), (5, .cv (.one (.i p3))), (56, .cv (.one (.bool p4)))], []⟩
noncomputable def j2 (a1 a2 : List T23b6.T) (L1 : Int → Option R) (k : Nat) (p3 : Int) (p4 : Bool) : Option R :=
 if p4 = true then
 some (false, ())
else
 L1 (IntKind.i64.wrap (p3 + 1))
theorem j2_ok {r a1 a2} {L1 : Int → Option R} {m1 : Nat} (hL1 : ∀ p3, L1 p3 = some r → Gw P 0 (Q r) (Pb c0 43 [] m1) (s1 a1 a2 p3)) {k p3 p4} (H : j2 a1 a2 L1 k p3 p4 = some r) : Gw P 0 (Q r) (Px c0 3659 [m1]) (s2 a1 a2 p3 p4) := by
 unfold j2 at H
 rcases of_ite H with ⟨hb9, H⟩ | ⟨hb9, H⟩
 ·refine C1 hb9 ?_
  refine Ra ?_
  exact Le H
 ·refine C0 hb9 ?_
  refine Ra ?_
  exact Jm (tn [0, 1, 5] 0) (hL1 (IntKind.i64.wrap (p3 + 1)) H)
noncomputable def b1 (a1 a2 : List T23b6.T) (L1 : Int → Option R) (k : Nat) (p3 : Int) : Option R :=
 if (decide (p3 < (a1.length : Int))) = true then
 if 0 ≤ p3 then
  if p3 < (a1.length : Int) then
   if p3 < (a2.length : Int) then
    (f_ref15_Same.f k (((att T23b6 a1 p3).2).2) (((att T23b6 a2 p3).2).2)).bind fun y3 =>
     if (!y3.1) = true then
      j2 a1 a2 L1 k p3 true
     else
      if (((att T23b6 a1 p3).1) != ((att T23b6 a2 p3).1)) = true then
       j2 a1 a2 L1 k p3 true
      else
       j2 a1 a2 L1 k p3 ((((att T23b6 a1 p3).2).1) != (((att T23b6 a2 p3).2).1))
   else none
  else none
 else none
else
 some (true, ())
theorem b1_ok {r a1 a2} {L1 : Int → Option R} {m1 : Nat} (hL1 : ∀ p3, L1 p3 = some r → Gw P 0 (Q r) (Pb c0 43 [] m1) (s1 a1 a2 p3)) {k p3} (H : b1 a1 a2 L1 k p3 = some r) : Gw P 0 (Q r) (Px c0 75 [m1]) (s1 a1 a2 p3) := by
 unfold b1 at H
 refine Ra ?_
 rcases of_ite H with ⟨hb2, H⟩ | ⟨hb2, H⟩
 ·refine C1 hb2 ?_
  obtain ⟨n4, H⟩ := of_if H
  obtain ⟨n5, H⟩ := of_if H
  obtain ⟨n6, H⟩ := of_if H
  obtain ⟨y3, e7, H⟩ := of_bind H
  refine Rg V_ok 0 [(10, hr f_ref15_Same.S y3)] (ac n4 (ac n5 (ac n4 (ac n6 (ac (f_ref15_Same.rl e7) az))))) ?_
  rcases of_ite H with ⟨hb8, H⟩ | ⟨hb8, H⟩
  ·refine Rg V_ok 0 [(1, {bv := some true})] (ac hb8 az) ?_
   exact Jm (tn [0, 1, 5, 56] 0) (j2_ok hL1 H)
  ·rcases of_ite H with ⟨hb10, H⟩ | ⟨hb10, H⟩
   ·refine Rg V_ok 0 [(1, {bv := some false}), (14, {bv := some true})] (ac hb8 (ac n4 (ac n5 (ac n4 (ac n6 (ac hb10 az)))))) ?_
    exact Jm (tn [0, 1, 5, 56] 0) (j2_ok hL1 H)
   ·refine Rg V_ok 0 [(1, {bv := some false}), (14, {bv := some false})] (ac hb8 (ac n4 (ac n5 (ac n4 (ac n6 (ac hb10 (ac n4 (ac n5 (ac n4 (ac n6 az)))))))))) ?_
    exact Jm (tn [0, 1, 5, 56] 0) (j2_ok hL1 H)
 ·refine C0 hb2 ?_
  refine Ra ?_
  exact Le H
noncomputable def l1 (a1 a2 : List T23b6.T) (k : Nat) : Nat → Int → Option R
 | 0, _ => none
 | m + 1, p3 => b1 a1 a2 (l1 a1 a2 k m) k p3
theorem l1_ok {r a1 a2} (k : Nat) : ∀ (m1 : Nat) (p3 : Int), l1 a1 a2 k m1 p3 = some r → Gw P 0 (Q r) (Pb c0 43 [] m1) (s1 a1 a2 p3)
 | 0, _, H => by cases H
 | m1 + 1, p3, H => SU (by kernel_rfl) (b1_ok (l1_ok k m1) H)
noncomputable def f (k : Nat) (a1 a2 : List T23b6.T) : Option R :=
 if ((a1.length : Int) != (a2.length : Int)) = true then
  some (false, ())
 else
  l1 a1 a2 k k 0
noncomputable def S : Spec := ⟨ps, rs, .any, none, fun x r => ∃ k, f k x.1 x.2.1 = some r⟩
theorem rl {k a1 a2 r} (e : f k a1 a2 = some r) : S.rel (a1, a2, ()) r := ⟨k, e⟩
theorem f_ok {r k a1 a2} (H : f k a1 a2 = some r) : Gw P 0 (Q r) (Px c0 1 []) (⟨57, [(0, .cv (.one (.sl T23b6 a1 .any))), (1, .cv (.one (.sl T23b6 a2 .any)))], []⟩) := by
 unfold f at H
 refine Ra ?_
 refine Ra ?_
 rcases of_ite H with ⟨hb1, H⟩ | ⟨hb1, H⟩
 ·refine C1 hb1 ?_
  refine Ra ?_
  exact Le H
 ·refine C0 hb1 ?_
  refine Ra ?_
  exact LP k (Jm (tn [0, 1, 5] 0) (l1_ok k k 0 H))
theorem fits : Fits P 29 S := fitsA V_ok func29 fun x r ⟨k, H⟩ => of_G (f_ok H)
end f_ref21_peers

namespace f_ref21_given
noncomputable def c0 : Code := bo f30
abbrev ps : Sg := [(false, (.slice T713d)), (false, (.slice T713d))]
abbrev rs : Sg := [(false, .bool)]
noncomputable def V : Env := eV []
theorem V_ok : EnvOk P V := eOk (slk_nil)
abbrev R := Tup rs
noncomputable abbrev Q (r : R) : Exit → St → Prop := Qr tt f30.results ⟨ps, rs, .any, none, fun _ _ => True⟩ r
noncomputable def s1 (a1 a2 : List T713d.T) (p3 : Int) : St := ⟨26, [(0, .cv (.one (.sl T713d a1 .any))), (1, .cv (.one (.sl T713d a2 .any))), (5, .cv (.one (.i p3)))], []⟩
noncomputable def b1 (a1 a2 : List T713d.T) (L1 : Int → Option R) (k : Nat) (p3 : Int) : Option R :=
 if (decide (p3 < (a1.length : Int))) = true then
 if 0 ≤ p3 then
  if p3 < (a1.length : Int) then
   if p3 < (a2.length : Int) then
    if (!((((att T713d a1 p3).1) == ((att T713d a2 p3).1)) && ((((att T713d a1 p3).2) == ((att T713d a2 p3).2)) && true))) = true then
     some (false, ())
    else
     L1 (IntKind.i64.wrap (p3 + 1))
   else none
  else none
 else none
else
 some (true, ())
theorem b1_ok {r a1 a2} {L1 : Int → Option R} {m1 : Nat} (hL1 : ∀ p3, L1 p3 = some r → Gw P 0 (Q r) (Pb c0 43 [] m1) (s1 a1 a2 p3)) {k p3} (H : b1 a1 a2 L1 k p3 = some r) : Gw P 0 (Q r) (Px c0 75 [m1]) (s1 a1 a2 p3) := by
 unfold b1 at H
 refine Ra ?_
 rcases of_ite H with ⟨hb2, H⟩ | ⟨hb2, H⟩
 ·refine C1 hb2 ?_
  obtain ⟨n3, H⟩ := of_if H
  obtain ⟨n4, H⟩ := of_if H
  obtain ⟨n5, H⟩ := of_if H
  refine Rg V_ok 0 [] (ac n3 (ac n4 (ac n3 (ac n5 az)))) ?_
  rcases of_ite H with ⟨hb6, H⟩ | ⟨hb6, H⟩
  ·refine C1 hb6 ?_
   refine Ra ?_
   exact Le H
  ·refine C0 hb6 ?_
   refine Ra ?_
   exact Jm (tn [0, 1, 5] 0) (hL1 (IntKind.i64.wrap (p3 + 1)) H)
 ·refine C0 hb2 ?_
  refine Ra ?_
  exact Le H
noncomputable def l1 (a1 a2 : List T713d.T) (k : Nat) : Nat → Int → Option R
 | 0, _ => none
 | m + 1, p3 => b1 a1 a2 (l1 a1 a2 k m) k p3
theorem l1_ok {r a1 a2} (k : Nat) : ∀ (m1 : Nat) (p3 : Int), l1 a1 a2 k m1 p3 = some r → Gw P 0 (Q r) (Pb c0 43 [] m1) (s1 a1 a2 p3)
 | 0, _, H => by cases H
 | m1 + 1, p3, H => SU (by kernel_rfl) (b1_ok (l1_ok k m1) H)
noncomputable def f (k : Nat) (a1 a2 : List T713d.T) : Option R :=
 if ((a1.length : Int) != (a2.length : Int)) = true then
  some (false, ())
 else
  l1 a1 a2 k k 0
noncomputable def S : Spec := ⟨ps, rs, .any, none, fun x r => ∃ k, f k x.1 x.2.1 = some r⟩
theorem rl {k a1 a2 r} (e : f k a1 a2 = some r) : S.rel (a1, a2, ()) r := ⟨k, e⟩
theorem f_ok {r k a1 a2} (H : f k a1 a2 = some r) : Gw P 0 (Q r) (Px c0 1 []) (⟨26, [(0, .cv (.one (.sl T713d a1 .any))), (1, .cv (.one (.sl T713d a2 .any)))], []⟩) := by
 unfold f at H
 refine Ra ?_
 refine Ra ?_
 rcases of_ite H with ⟨hb1, H⟩ | ⟨hb1, H⟩
 ·refine C1 hb1 ?_
  refine Ra ?_
  exact Le H
 ·refine C0 hb1 ?_
  refine Ra ?_
  exact LP k (Jm (tn [0, 1, 5] 0) (l1_ok k k 0 H))
theorem fits : Fits P 30 S := fitsA V_ok func30 fun x r ⟨k, H⟩ => of_G (f_ok H)
end f_ref21_given

namespace f_ref02_Ints
noncomputable def c0 : Code := bo f31
abbrev ps : Sg := [(false, (.slice (.int .i64))), (false, (.slice (.int .i64)))]
abbrev rs : Sg := [(false, .bool)]
noncomputable def V : Env := eV []
theorem V_ok : EnvOk P V := eOk (slk_nil)
abbrev R := Tup rs
noncomputable abbrev Q (r : R) : Exit → St → Prop := Qr tt f31.results ⟨ps, rs, .any, none, fun _ _ => True⟩ r
noncomputable def s1 (p1 p2 : List Int) (p3 : Int) : St := ⟨26, [(0, .cv (.one (.sl (.int .i64) p1 .any))), (1, .cv (.one (.sl (.int .i64) p2 .any))), (5, .cv (.one (.i p3)))], []⟩
noncomputable def b1 (L1 : List Int → List Int → Int → Option R) (k : Nat) (p1 p2 : List Int) (p3 : Int) : Option R :=
 if (decide (p3 < (p1.length : Int))) = true then
 if 0 ≤ p3 then
  if p3 < (p1.length : Int) then
   if p3 < (p2.length : Int) then
    if ((att (.int .i64) p1 p3) != (att (.int .i64) p2 p3)) = true then
     some (false, ())
    else
     L1 p1 p2 (IntKind.i64.wrap (p3 + 1))
   else none
  else none
 else none
else
 some (true, ())
theorem b1_ok {r} {L1 : List Int → List Int → Int → Option R} {m1 : Nat} (hL1 : ∀ p1 p2 p3, L1 p1 p2 p3 = some r → Gw P 0 (Q r) (Pb c0 43 [] m1) (s1 p1 p2 p3)) {k p1 p2 p3} (H : b1 L1 k p1 p2 p3 = some r) : Gw P 0 (Q r) (Px c0 75 [m1]) (s1 p1 p2 p3) := by
 unfold b1 at H
 refine Ra ?_
 rcases of_ite H with ⟨hb2, H⟩ | ⟨hb2, H⟩
 ·refine C1 hb2 ?_
  obtain ⟨n3, H⟩ := of_if H
  obtain ⟨n4, H⟩ := of_if H
  obtain ⟨n5, H⟩ := of_if H
  refine Rg V_ok 0 [] (ac n3 (ac n4 (ac n3 (ac n5 az)))) ?_
  rcases of_ite H with ⟨hb6, H⟩ | ⟨hb6, H⟩
  ·refine C1 hb6 ?_
   refine Ra ?_
   exact Le H
  ·refine C0 hb6 ?_
   refine Ra ?_
   exact Jm (tn [0, 1, 5] 0) (hL1 p1 p2 (IntKind.i64.wrap (p3 + 1)) H)
 ·refine C0 hb2 ?_
  refine Ra ?_
  exact Le H
noncomputable def l1 (k : Nat) : Nat → List Int → List Int → Int → Option R
 | 0, _, _, _ => none
 | m + 1, p1, p2, p3 => b1 (l1 k m) k p1 p2 p3
theorem l1_ok {r} (k : Nat) : ∀ (m1 : Nat) (p1 p2 : List Int) (p3 : Int), l1 k m1 p1 p2 p3 = some r → Gw P 0 (Q r) (Pb c0 43 [] m1) (s1 p1 p2 p3)
 | 0, _, _, _, H => by cases H
 | m1 + 1, p1, p2, p3, H => SU (by kernel_rfl) (b1_ok (l1_ok k m1) H)
noncomputable def f (k : Nat) (a1 a2 : List Int) : Option R :=
 if ((a1.length : Int) != (a2.length : Int)) = true then
  some (false, ())
 else
  l1 k k a1 a2 0
noncomputable def S : Spec := ⟨ps, rs, .any, none, fun x r => ∃ k, f k x.1 x.2.1 = some r⟩
theorem rl {k a1 a2 r} (e : f k a1 a2 = some r) : S.rel (a1, a2, ()) r := ⟨k, e⟩
theorem f_ok {r k a1 a2} (H : f k a1 a2 = some r) : Gw P 0 (Q r) (Px c0 1 []) (⟨26, [(0, .cv (.one (.sl (.int .i64) a1 .any))), (1, .cv (.one (.sl (.int .i64) a2 .any)))], []⟩) := by
 unfold f at H
 refine Ra ?_
 refine Ra ?_
 rcases of_ite H with ⟨hb1, H⟩ | ⟨hb1, H⟩
 ·refine C1 hb1 ?_
  refine Ra ?_
  exact Le H
 ·refine C0 hb1 ?_
  refine Ra ?_
  exact LP k (Jm (tn [0, 1, 5] 0) (l1_ok k k a1 a2 0 H))
theorem fits : Fits P 31 S := fitsA V_ok func31 fun x r ⟨k, H⟩ => of_G (f_ok H)
end f_ref02_Ints

namespace f_ref21_Same
noncomputable def c0 : Code := bo f9
abbrev ps : Sg := [(true, T26b3), (true, T26b3)]
abbrev rs : Sg := [(false, .bool)]
noncomputable def V : Env := eV [(28, f_ref21_Confs.S), (29, f_ref21_peers.S), (30, f_ref21_given.S), (31, f_ref02_Ints.S)]
theorem V_ok : EnvOk P V := eOk (slk_cons f_ref21_Confs.fits (slk_cons f_ref21_peers.fits (slk_cons f_ref21_given.fits (slk_cons f_ref02_Ints.fits (slk_nil)))))
abbrev R := Tup rs
noncomputable abbrev Q (r : R) : Exit → St → Prop := Qr tt f9.results ⟨ps, rs, .any, none, fun _ _ => True⟩ r
noncomputable def s2 (a1 a2 : T26b3.T) (p1 p2 p3 p4 p5 p6 p7 : Bool) : St := ⟨110, [(2, .cv (.one (.ptr 0 0))), (3, .cv (.one (.ptr 1 0))), (5, .cv (.one (.bool p1))), (6, .cv (.one (.bool p2))), (7, .cv (.one (.bool p3))), (8, .cv (.one (.bool p4))), (9, .cv (.one (.bool p5))), (10, .cv (.one (.bool p6))), (11, .cv (.one (.bool p7)))], [(.box 13, (encC .any T26b3 a1)), (.box 13, (encC .any T26b3 a2))]⟩
noncomputable def s1 (p1 p2 p3 p4 p5 p6 p7 p8 : Bool) : St := ⟨110, [(5, .cv (.one (.bool p1))), (6, .cv (.one (.bool p2))), (7, .cv (.one (.bool p3))), (8, .cv (.one (.bool p4))), (9, .cv (.one (.bool p5))), (10, .cv (.one (.bool p6))), (11, .cv (.one (.bool p7))), (12, .cv (.one (.bool p8)))], []⟩
noncomputable def j1 (k : Nat) (p1 p2 p3 p4 p5 p6 p7 p8 : Bool) : Option R :=
 if p1 = true then
 if p2 = true then
  if p3 = true then
   if p4 = true then
    if p5 = true then
     if p6 = true then
      if p7 = true then
       some (p8, ())
      else
       some (false, ())
     else
      some (false, ())
    else
     some (false, ())
   else
    some (false, ())
  else
   some (false, ())
 else
  some (false, ())
else
 some (false, ())
theorem j1_ok {r} {k p1 p2 p3 p4 p5 p6 p7 p8} (H : j1 k p1 p2 p3 p4 p5 p6 p7 p8 = some r) : Gw P 0 (Q r) (Px c0 1023 []) (s1 p1 p2 p3 p4 p5 p6 p7 p8) := by
 unfold j1 at H
 rcases of_ite H with ⟨hb18, H⟩ | ⟨hb18, H⟩
 ·rcases of_ite H with ⟨hb19, H⟩ | ⟨hb19, H⟩
  ·rcases of_ite H with ⟨hb20, H⟩ | ⟨hb20, H⟩
   ·rcases of_ite H with ⟨hb21, H⟩ | ⟨hb21, H⟩
    ·rcases of_ite H with ⟨hb22, H⟩ | ⟨hb22, H⟩
     ·rcases of_ite H with ⟨hb23, H⟩ | ⟨hb23, H⟩
      ·rcases of_ite H with ⟨hb24, H⟩ | ⟨hb24, H⟩
       ·refine Rg V_ok 0 [(0, {bv := some true}), (3, {bv := some true}), (6, {bv := some true}), (9, {bv := some true}), (12, {bv := some true}), (15, {bv := some true}), (18, {bv := some true})] (ac hb18 (ac hb19 (ac hb20 (ac hb21 (ac hb22 (ac hb23 (ac hb24 az))))))) ?_
        exact Le H
       ·refine Rg V_ok 0 [(0, {bv := some true}), (3, {bv := some true}), (6, {bv := some true}), (9, {bv := some true}), (12, {bv := some true}), (15, {bv := some true}), (18, {bv := some false})] (ac hb18 (ac hb19 (ac hb20 (ac hb21 (ac hb22 (ac hb23 (ac hb24 az))))))) ?_
        exact Le H
      ·refine Rg V_ok 0 [(0, {bv := some true}), (3, {bv := some true}), (6, {bv := some true}), (9, {bv := some true}), (12, {bv := some true}), (15, {bv := some false})] (ac hb18 (ac hb19 (ac hb20 (ac hb21 (ac hb22 (ac hb23 az)))))) ?_
       exact Le H
     ·refine Rg V_ok 0 [(0, {bv := some true}), (3, {bv := some true}), (6, {bv := some true}), (9, {bv := some true}), (12, {bv := some false})] (ac hb18 (ac hb19 (ac hb20 (ac hb21 (ac hb22 az))))) ?_
      exact Le H
    ·refine Rg V_ok 0 [(0, {bv := some true}), (3, {bv := some true}), (6, {bv := some true}), (9, {bv := some false})] (ac hb18 (ac hb19 (ac hb20 (ac hb21 az)))) ?_
     exact Le H
   ·refine Rg V_ok 0 [(0, {bv := some true}), (3, {bv := some true}), (6, {bv := some false})] (ac hb18 (ac hb19 (ac hb20 az))) ?_
    exact Le H
  ·refine Rg V_ok 0 [(0, {bv := some true}), (3, {bv := some false})] (ac hb18 (ac hb19 az)) ?_
   exact Le H
 ·refine Rg V_ok 0 [(0, {bv := some false})] (ac hb18 az) ?_
  exact Le H
noncomputable def j2 (a1 a2 : T26b3.T) (k : Nat) (p1 p2 p3 p4 p5 p6 p7 : Bool) : Option R :=
 if (a1.2.2.2.2.2.1 == a2.2.2.2.2.2.1) = true then
 if (a1.2.2.2.2.2.2.1 == a2.2.2.2.2.2.2.1) = true then
  j1 k p1 p2 p3 p4 p5 p6 p7 (a1.2.2.2.2.2.2.2.2.2.2.2.2 == a2.2.2.2.2.2.2.2.2.2.2.2.2)
 else
  j1 k p1 p2 p3 p4 p5 p6 p7 false
else
 j1 k p1 p2 p3 p4 p5 p6 p7 false
theorem j2_ok {r a1 a2} {k p1 p2 p3 p4 p5 p6 p7} (H : j2 a1 a2 k p1 p2 p3 p4 p5 p6 p7 = some r) : Gw P 0 (Q r) (Px c0 511 []) (s2 a1 a2 p1 p2 p3 p4 p5 p6 p7) := by
 unfold j2 at H
 rcases of_ite H with ⟨hb16, H⟩ | ⟨hb16, H⟩
 ·rcases of_ite H with ⟨hb17, H⟩ | ⟨hb17, H⟩
  ·refine Rg V_ok 0 [(4, {bv := some true}), (11, {bv := some true})] (ac hb16 (ac hb17 az)) ?_
   exact Jm (tn [5, 6, 7, 8, 9, 10, 11, 12] 0) (j1_ok H)
  ·refine Rg V_ok 0 [(4, {bv := some true}), (11, {bv := some false})] (ac hb16 (ac hb17 az)) ?_
   exact Jm (tn [5, 6, 7, 8, 9, 10, 11, 12] 0) (j1_ok H)
 ·refine Rg V_ok 0 [(4, {bv := some false})] (ac hb16 az) ?_
  exact Jm (tn [5, 6, 7, 8, 9, 10, 11, 12] 0) (j1_ok H)
noncomputable def f (k : Nat) (a1 a2 : T26b3.T) : Option R :=
 (f_ref21_Confs.f k a1.1 a2.1).bind fun y1 =>
  (f_ref21_peers.f k a1.2.2.2.2.2.2.2.2.1 a2.2.2.2.2.2.2.2.2.1).bind fun y3 =>
   (f_ref21_given.f k a1.2.2.2.2.2.2.2.2.2.1 a2.2.2.2.2.2.2.2.2.2.1).bind fun y5 =>
    (f_ref02_Ints.f k a1.2.2.2.2.2.2.2.1 a2.2.2.2.2.2.2.2.1).bind fun y7 =>
     (f_ref02_Ints.f k a1.2.2.2.2.2.2.2.2.2.2.1 a2.2.2.2.2.2.2.2.2.2.2.1).bind fun y9 =>
      (f_ref02_Ints.f k a1.2.2.2.2.2.2.2.2.2.2.2.1 a2.2.2.2.2.2.2.2.2.2.2.2.1).bind fun y11 =>
       if (a1.2.1 == a2.2.1) = true then
        if (a1.2.2.1 == a2.2.2.1) = true then
         if (a1.2.2.2.1 == a2.2.2.2.1) = true then
          j2 a1 a2 k y1.1 y3.1 y5.1 y7.1 y9.1 y11.1 (a1.2.2.2.2.1 == a2.2.2.2.2.1)
         else
          j2 a1 a2 k y1.1 y3.1 y5.1 y7.1 y9.1 y11.1 false
        else
         j2 a1 a2 k y1.1 y3.1 y5.1 y7.1 y9.1 y11.1 false
       else
        j2 a1 a2 k y1.1 y3.1 y5.1 y7.1 y9.1 y11.1 false
noncomputable def S : Spec := ⟨ps, rs, .any, none, fun x r => ∃ k, f k x.1 x.2.1 = some r⟩
theorem rl {k a1 a2 r} (e : f k a1 a2 = some r) : S.rel (a1, a2, ()) r := ⟨k, e⟩
theorem f_ok {r k a1 a2} (H : f k a1 a2 = some r) : Gw P 0 (Q r) (Px c0 1 []) (⟨110, [(0, .cv (.agg (encC .any T26b3 a1))), (1, .cv (.agg (encC .any T26b3 a2)))], []⟩) := by
 unfold f at H
 refine Rg V_ok 2 [(0, hb 0), (1, hb 1)] az ?_
 obtain ⟨y1, e2, H⟩ := of_bind H
 refine Rg V_ok 0 [(4, hr f_ref21_Confs.S y1)] (ac (f_ref21_Confs.rl e2) az) ?_
 obtain ⟨y3, e4, H⟩ := of_bind H
 refine Rg V_ok 0 [(4, hr f_ref21_peers.S y3)] (ac (f_ref21_peers.rl e4) az) ?_
 obtain ⟨y5, e6, H⟩ := of_bind H
 refine Rg V_ok 0 [(4, hr f_ref21_given.S y5)] (ac (f_ref21_given.rl e6) az) ?_
 obtain ⟨y7, e8, H⟩ := of_bind H
 refine Rg V_ok 0 [(4, hr f_ref02_Ints.S y7)] (ac (f_ref02_Ints.rl e8) az) ?_
 obtain ⟨y9, e10, H⟩ := of_bind H
 refine Rg V_ok 0 [(4, hr f_ref02_Ints.S y9)] (ac (f_ref02_Ints.rl e10) az) ?_
 obtain ⟨y11, e12, H⟩ := of_bind H
 refine Rg V_ok 0 [(4, hr f_ref02_Ints.S y11)] (ac (f_ref02_Ints.rl e12) az) ?_
 rcases of_ite H with ⟨hb13, H⟩ | ⟨hb13, H⟩
 ·rcases of_ite H with ⟨hb14, H⟩ | ⟨hb14, H⟩
  ·rcases of_ite H with ⟨hb15, H⟩ | ⟨hb15, H⟩
   ·refine Rg V_ok 0 [(4, {bv := some true}), (11, {bv := some true}), (18, {bv := some true})] (ac hb13 (ac hb14 (ac hb15 az))) ?_
    exact Jm (tn [2, 3, 5, 6, 7, 8, 9, 10, 11] 2) (j2_ok H)
   ·refine Rg V_ok 0 [(4, {bv := some true}), (11, {bv := some true}), (18, {bv := some false})] (ac hb13 (ac hb14 (ac hb15 az))) ?_
    exact Jm (tn [2, 3, 5, 6, 7, 8, 9, 10, 11] 2) (j2_ok H)
  ·refine Rg V_ok 0 [(4, {bv := some true}), (11, {bv := some false})] (ac hb13 (ac hb14 az)) ?_
   exact Jm (tn [2, 3, 5, 6, 7, 8, 9, 10, 11] 2) (j2_ok H)
 ·refine Rg V_ok 0 [(4, {bv := some false})] (ac hb13 az) ?_
  exact Jm (tn [2, 3, 5, 6, 7, 8, 9, 10, 11] 2) (j2_ok H)
theorem fits : Fits P 9 S := fitsA V_ok func9 fun x r ⟨k, H⟩ => of_G (f_ok H)
end f_ref21_Same

namespace f_ref15_First
noncomputable def c0 : Code := bo f57
abbrev ps : Sg := [(true, Tb104), (false, (.int .i64))]
abbrev rs : Sg := [(false, (.slice T4414))]
noncomputable def V : Env := eV []
theorem V_ok : EnvOk P V := eOk (slk_nil)
abbrev R := Tup rs
noncomputable abbrev Q (r : R) : Exit → St → Prop := Qr tt f57.results ⟨ps, rs, .any, none, fun _ _ => True⟩ r
noncomputable def s1 (p1 p2 : Int) (p3 : Tb104.T) (p4 : List T4414.T) : St := ⟨28, [(1, .cv (.one (.i p1))), (2, .cv (.one (.ptr 0 0))), (5, .cv (.one (.own 1))), (6, .cv (.one (.i p2)))], [(.box 3, (encC .any Tb104 p3)), (.buf 66 T4414 p4, [])]⟩
noncomputable def s2 (p1 p2 : Int) (p3 : Bool) (p4 : Tb104.T) (p5 : List T4414.T) : St := ⟨28, [(1, .cv (.one (.i p1))), (2, .cv (.one (.ptr 0 0))), (5, .cv (.one (.own 1))), (6, .cv (.one (.i p2))), (16, .cv (.one (.bool p3)))], [(.box 3, (encC .any Tb104 p4)), (.buf 66 T4414 p5, [])]⟩
noncomputable def j2 (L1 : Int → Int → Tb104.T → List T4414.T → Option R) (k : Nat) (p1 p2 : Int) (p3 : Bool) (p4 : Tb104.T) (p5 : List T4414.T) : Option R :=
 if p3 = true then
 if 0 ≤ p2 then
  if p2 < (p4.2.2.length : Int) then
   if (p5.length + 1) * 80 ≤ 140737488355328 then
    L1 p1 (IntKind.i64.wrap (p2 + 1)) p4 (p5 ++ [(att T4414 p4.2.2 p2)])
   else none
  else none
 else none
else
 some (p5, ())
theorem j2_ok {r} {L1 : Int → Int → Tb104.T → List T4414.T → Option R} {m1 : Nat} (hL1 : ∀ p1 p2 p3 p4, L1 p1 p2 p3 p4 = some r → Gw P 0 (Q r) (Pb c0 43 [] m1) (s1 p1 p2 p3 p4)) {k p1 p2 p3 p4 p5} (H : j2 L1 k p1 p2 p3 p4 p5 = some r) : Gw P 0 (Q r) (Px c0 395 [m1]) (s2 p1 p2 p3 p4 p5) := by
 unfold j2 at H
 rcases of_ite H with ⟨hb2, H⟩ | ⟨hb2, H⟩
 ·refine C1 hb2 ?_
  obtain ⟨n3, H⟩ := of_if H
  obtain ⟨n4, H⟩ := of_if H
  obtain ⟨n5, H⟩ := of_if H
  refine Rg V_ok 1 [(7, hb 2)] (ac n3 (ac n4 (ac n5 az))) ?_
  refine Ra ?_
  exact Jm (tl [1, 2, 5, 6] [0, 2]) (hL1 p1 (IntKind.i64.wrap (p2 + 1)) p4 (p5 ++ [(att T4414 p4.2.2 p2)]) H)
 ·refine C0 hb2 ?_
  refine Ra ?_
  exact Le H
noncomputable def b1 (L1 : Int → Int → Tb104.T → List T4414.T → Option R) (k : Nat) (p1 p2 : Int) (p3 : Tb104.T) (p4 : List T4414.T) : Option R :=
 if (decide (p2 < (p3.2.2.length : Int))) = true then
 j2 L1 k p1 p2 (decide (p2 < p1)) p3 p4
else
 j2 L1 k p1 p2 false p3 p4
theorem b1_ok {r} {L1 : Int → Int → Tb104.T → List T4414.T → Option R} {m1 : Nat} (hL1 : ∀ p1 p2 p3 p4, L1 p1 p2 p3 p4 = some r → Gw P 0 (Q r) (Pb c0 43 [] m1) (s1 p1 p2 p3 p4)) {k p1 p2 p3 p4} (H : b1 L1 k p1 p2 p3 p4 = some r) : Gw P 0 (Q r) (Px c0 75 [m1]) (s1 p1 p2 p3 p4) := by
 unfold b1 at H
 rcases of_ite H with ⟨hb1, H⟩ | ⟨hb1, H⟩
 ·refine Rg V_ok 0 [(4, {bv := some true})] (ac hb1 az) ?_
  exact Jm (tn [1, 2, 5, 6, 16] 2) (j2_ok hL1 H)
 ·refine Rg V_ok 0 [(4, {bv := some false})] (ac hb1 az) ?_
  exact Jm (tn [1, 2, 5, 6, 16] 2) (j2_ok hL1 H)
noncomputable def l1 (k : Nat) : Nat → Int → Int → Tb104.T → List T4414.T → Option R
 | 0, _, _, _, _ => none
 | m + 1, p1, p2, p3, p4 => b1 (l1 k m) k p1 p2 p3 p4
theorem l1_ok {r} (k : Nat) : ∀ (m1 : Nat) (p1 p2 : Int) (p3 : Tb104.T) (p4 : List T4414.T), l1 k m1 p1 p2 p3 p4 = some r → Gw P 0 (Q r) (Pb c0 43 [] m1) (s1 p1 p2 p3 p4)
 | 0, _, _, _, _, H => by cases H
 | m1 + 1, p1, p2, p3, p4, H => SU (by kernel_rfl) (b1_ok (l1_ok k m1) H)
noncomputable def f (k : Nat) (a1 : Tb104.T) (a2 : Int) : Option R :=
 l1 k k a2 0 a1 []
noncomputable def S : Spec := ⟨ps, rs, .any, none, fun x r => ∃ k, f k x.1 x.2.1 = some r⟩
theorem rl {k a1 a2 r} (e : f k a1 a2 = some r) : S.rel (a1, a2, ()) r := ⟨k, e⟩
theorem f_ok {r k a1 a2} (H : f k a1 a2 = some r) : Gw P 0 (Q r) (Px c0 1 []) (⟨28, [(0, .cv (.agg (encC .any Tb104 a1))), (1, .cv (.one (.i a2)))], []⟩) := by
 unfold f at H
 refine Rg V_ok 1 [(0, hb 0)] az ?_
 refine Ra ?_
 refine Ra ?_
 exact LP k (Jm {fz := [], gr := 1, ad := [.ownT 5 1 66 T4414], live := [1, 2, 5, 6], src := [some 0, some 1]} (l1_ok k k a2 0 a1 [] H))
theorem fits : Fits P 57 S := fitsA V_ok func57 fun x r ⟨k, H⟩ => of_G (f_ok H)
end f_ref15_First

namespace f_ref01_Bit
noncomputable def c0 : Code := bo f164
abbrev ps : Sg := [(false, (.int .i64)), (false, (.int .i64))]
abbrev rs : Sg := [(false, (.int .i64))]
noncomputable def V : Env := eV []
theorem V_ok : EnvOk P V := eOk (slk_nil)
abbrev R := Tup rs
noncomputable abbrev Q (r : R) : Exit → St → Prop := Qr tt f164.results ⟨ps, rs, .any, none, fun _ _ => True⟩ r
noncomputable def s1 (p1 p2 : Int) (p3 : Bool) : St := ⟨24, [(0, .cv (.one (.i p1))), (1, .cv (.one (.i p2))), (12, .cv (.one (.bool p3)))], []⟩
noncomputable def s2 (p1 p2 p3 : Int) : St := ⟨24, [(1, .cv (.one (.i p1))), (5, .cv (.one (.i p2))), (6, .cv (.one (.i p3)))], []⟩
noncomputable def b2 (L2 : Int → Int → Int → Option R) (k : Nat) (p1 p2 p3 : Int) : Option R :=
 if (decide (p3 > p1)) = true then
 L2 p1 (IntKind.i64.wrap (Int.tdiv p2 2)) (IntKind.i64.wrap (p3 - 1))
else
 some ((Int.tmod p2 2), ())
theorem b2_ok {r} {L2 : Int → Int → Int → Option R} {m2 : Nat} (hL2 : ∀ p1 p2 p3, L2 p1 p2 p3 = some r → Gw P 0 (Q r) (Pb c0 87 [] m2) (s2 p1 p2 p3)) {k p1 p2 p3} (H : b2 L2 k p1 p2 p3 = some r) : Gw P 0 (Q r) (Px c0 151 [m2]) (s2 p1 p2 p3) := by
 unfold b2 at H
 refine Ra ?_
 rcases of_ite H with ⟨hb3, H⟩ | ⟨hb3, H⟩
 ·refine C1 hb3 ?_
  refine Rg V_ok 0 [] (ac (show (2 : Int) ≠ 0 by decide) az) ?_
  refine Ra ?_
  exact Jm (tn [1, 5, 6] 0) (hL2 p1 (IntKind.i64.wrap (Int.tdiv p2 2)) (IntKind.i64.wrap (p3 - 1)) H)
 ·refine C0 hb3 ?_
  refine Rg V_ok 0 [] (ac (show (2 : Int) ≠ 0 by decide) az) ?_
  exact Le H
noncomputable def l2 (k : Nat) : Nat → Int → Int → Int → Option R
 | 0, _, _, _ => none
 | m + 1, p1, p2, p3 => b2 (l2 k m) k p1 p2 p3
theorem l2_ok {r} (k : Nat) : ∀ (m2 : Nat) (p1 p2 : Int) (p3 : Int), l2 k m2 p1 p2 p3 = some r → Gw P 0 (Q r) (Pb c0 87 [] m2) (s2 p1 p2 p3)
 | 0, _, _, _, H => by cases H
 | m2 + 1, p1, p2, p3, H => SU (by kernel_rfl) (b2_ok (l2_ok k m2) H)
noncomputable def j1 (k : Nat) (p1 p2 : Int) (p3 : Bool) : Option R :=
 if p3 = true then
 some ((0 : Int), ())
else
 l2 k k p2 (IntKind.i64.wrap (((BitVec.ofInt IntKind.i64.bits p1 &&& BitVec.ofInt IntKind.i64.bits 4294967295).toNat : Int))) 31
theorem j1_ok {r} {k p1 p2 p3} (H : j1 k p1 p2 p3 = some r) : Gw P 0 (Q r) (Px c0 13 []) (s1 p1 p2 p3) := by
 unfold j1 at H
 rcases of_ite H with ⟨hb2, H⟩ | ⟨hb2, H⟩
 ·refine C1 hb2 ?_
  refine Ra ?_
  exact Le H
 ·refine C0 hb2 ?_
  refine Ra ?_
  refine Ra ?_
  exact LP k (Jm (tn [1, 5, 6] 0) (l2_ok k k p2 (IntKind.i64.wrap (((BitVec.ofInt IntKind.i64.bits p1 &&& BitVec.ofInt IntKind.i64.bits 4294967295).toNat : Int))) 31 H))
noncomputable def f (k : Nat) (a1 a2 : Int) : Option R :=
 if (decide (a2 < (0 : Int))) = true then
  j1 k a1 a2 true
 else
  j1 k a1 a2 (decide (a2 > (31 : Int)))
noncomputable def S : Spec := ⟨ps, rs, .any, none, fun x r => ∃ k, f k x.1 x.2.1 = some r⟩
theorem rl {k a1 a2 r} (e : f k a1 a2 = some r) : S.rel (a1, a2, ()) r := ⟨k, e⟩
theorem f_ok {r k a1 a2} (H : f k a1 a2 = some r) : Gw P 0 (Q r) (Px c0 1 []) (⟨24, [(0, .cv (.one (.i a1))), (1, .cv (.one (.i a2)))], []⟩) := by
 unfold f at H
 refine Ra ?_
 rcases of_ite H with ⟨hb1, H⟩ | ⟨hb1, H⟩
 ·refine Rg V_ok 0 [(1, {bv := some true})] (ac hb1 az) ?_
  exact Jm (tn [0, 1, 12] 0) (j1_ok H)
 ·refine Rg V_ok 0 [(1, {bv := some false})] (ac hb1 az) ?_
  exact Jm (tn [0, 1, 12] 0) (j1_ok H)
theorem fits : Fits P 164 S := fitsA V_ok func164 fun x r ⟨k, H⟩ => of_G (f_ok H)
end f_ref01_Bit

namespace f_ref01_May
noncomputable def c0 : Code := bo f159
abbrev ps : Sg := [(true, T713d)]
abbrev rs : Sg := [(false, .bool)]
noncomputable def V : Env := eV [(164, f_ref01_Bit.S)]
theorem V_ok : EnvOk P V := eOk (slk_cons f_ref01_Bit.fits (slk_nil))
abbrev R := Tup rs
noncomputable abbrev Q (r : R) : Exit → St → Prop := Qr tt f159.results ⟨ps, rs, .any, none, fun _ _ => True⟩ r
noncomputable def s1 (p1 : Bool) (p2 : T713d.T) : St := ⟨33, [(1, .cv (.one (.ptr 0 0))), (21, .cv (.one (.bool p1)))], [(.box 2, [.i p2.1, .i p2.2])]⟩
noncomputable def s2 (p1 : Int) (p2 : T713d.T) : St := ⟨33, [(1, .cv (.one (.ptr 0 0))), (3, .cv (.one (.i p1)))], [(.box 2, [.i p2.1, .i p2.2])]⟩
noncomputable def b2 (L2 : Int → T713d.T → Option R) (k : Nat) (p1 : Int) (p2 : T713d.T) : Option R :=
 if (decide (p1 < (32 : Int))) = true then
 (f_ref01_Bit.f k p2.1 p1).bind fun y4 =>
  if (y4.1 == (1 : Int)) = true then
   some (false, ())
  else
   L2 (IntKind.i64.wrap (p1 + 1)) p2
else
 some (true, ())
theorem b2_ok {r} {L2 : Int → T713d.T → Option R} {m2 : Nat} (hL2 : ∀ p1 p2, L2 p1 p2 = some r → Gw P 0 (Q r) (Pb c0 43 [] m2) (s2 p1 p2)) {k p1 p2} (H : b2 L2 k p1 p2 = some r) : Gw P 0 (Q r) (Px c0 75 [m2]) (s2 p1 p2) := by
 unfold b2 at H
 refine Ra ?_
 rcases of_ite H with ⟨hb3, H⟩ | ⟨hb3, H⟩
 ·refine C1 hb3 ?_
  obtain ⟨y4, e5, H⟩ := of_bind H
  refine Rg V_ok 0 [(3, hr f_ref01_Bit.S y4)] (ac (f_ref01_Bit.rl e5) az) ?_
  rcases of_ite H with ⟨hb6, H⟩ | ⟨hb6, H⟩
  ·refine C1 hb6 ?_
   refine Ra ?_
   exact Le H
  ·refine C0 hb6 ?_
   refine Ra ?_
   exact Jm (tn [1, 3] 1) (hL2 (IntKind.i64.wrap (p1 + 1)) p2 H)
 ·refine C0 hb3 ?_
  refine Ra ?_
  exact Le H
noncomputable def l2 (k : Nat) : Nat → Int → T713d.T → Option R
 | 0, _, _ => none
 | m + 1, p1, p2 => b2 (l2 k m) k p1 p2
theorem l2_ok {r} (k : Nat) : ∀ (m2 : Nat) (p1 : Int) (p2 : T713d.T), l2 k m2 p1 p2 = some r → Gw P 0 (Q r) (Pb c0 43 [] m2) (s2 p1 p2)
 | 0, _, _, H => by cases H
 | m2 + 1, p1, p2, H => SU (by kernel_rfl) (b2_ok (l2_ok k m2) H)
noncomputable def j1 (k : Nat) (p1 : Bool) (p2 : T713d.T) : Option R :=
 if p1 = true then
 some (false, ())
else
 l2 k k p2.2 p2
theorem j1_ok {r} {k p1 p2} (H : j1 k p1 p2 = some r) : Gw P 0 (Q r) (Px c0 13 []) (s1 p1 p2) := by
 unfold j1 at H
 rcases of_ite H with ⟨hb2, H⟩ | ⟨hb2, H⟩
 ·refine C1 hb2 ?_
  refine Ra ?_
  exact Le H
 ·refine C0 hb2 ?_
  refine Ra ?_
  exact LP k (Jm (tn [1, 3] 1) (l2_ok k k p2.2 p2 H))
noncomputable def f (k : Nat) (a1 : T713d.T) : Option R :=
 if (decide (a1.2 < (0 : Int))) = true then
  j1 k true a1
 else
  if (decide (a1.2 > (32 : Int))) = true then
   j1 k true a1
  else
   if (decide (a1.1 < (0 : Int))) = true then
    j1 k true a1
   else
    j1 k (decide (a1.1 > (4294967295 : Int))) a1
noncomputable def S : Spec := ⟨ps, rs, .any, none, fun x r => ∃ k, f k x.1 = some r⟩
theorem rl {k a1 r} (e : f k a1 = some r) : S.rel (a1, ()) r := ⟨k, e⟩
theorem f_ok {r k a1} (H : f k a1 = some r) : Gw P 0 (Q r) (Px c0 1 []) (⟨33, [(0, .cv (.agg [.i a1.1, .i a1.2]))], []⟩) := by
 unfold f at H
 refine Rg V_ok 1 [(0, hb 0)] az ?_
 rcases of_ite H with ⟨hb1, H⟩ | ⟨hb1, H⟩
 ·refine Rg V_ok 0 [(2, {bv := some true})] (ac hb1 az) ?_
  exact Jm (tn [1, 21] 1) (j1_ok H)
 ·rcases of_ite H with ⟨hb7, H⟩ | ⟨hb7, H⟩
  ·refine Rg V_ok 0 [(2, {bv := some false}), (7, {bv := some true})] (ac hb1 (ac hb7 az)) ?_
   exact Jm (tn [1, 21] 1) (j1_ok H)
  ·rcases of_ite H with ⟨hb8, H⟩ | ⟨hb8, H⟩
   ·refine Rg V_ok 0 [(2, {bv := some false}), (7, {bv := some false}), (12, {bv := some true})] (ac hb1 (ac hb7 (ac hb8 az))) ?_
    exact Jm (tn [1, 21] 1) (j1_ok H)
   ·refine Rg V_ok 0 [(2, {bv := some false}), (7, {bv := some false}), (12, {bv := some false})] (ac hb1 (ac hb7 (ac hb8 az))) ?_
    exact Jm (tn [1, 21] 1) (j1_ok H)
theorem fits : Fits P 159 S := fitsA V_ok func159 fun x r ⟨k, H⟩ => of_G (f_ok H)
end f_ref01_May

namespace f_ref04_May
noncomputable def c0 : Code := bo f137
abbrev ps : Sg := [(true, T1383)]
abbrev rs : Sg := [(false, .bool)]
noncomputable def V : Env := eV [(159, f_ref01_May.S)]
theorem V_ok : EnvOk P V := eOk (slk_cons f_ref01_May.fits (slk_nil))
abbrev R := Tup rs
noncomputable abbrev Q (r : R) : Exit → St → Prop := Qr tt f137.results ⟨ps, rs, .any, none, fun _ _ => True⟩ r
noncomputable def s1 (p1 : Bool) (p2 : T1383.T) : St := ⟨53, [(1, .cv (.one (.ptr 0 0))), (28, .cv (.one (.bool p1)))], [(.box 6, (encC .any T1383 p2))]⟩
noncomputable def j1 (k : Nat) (p1 : Bool) (p2 : T1383.T) : Option R :=
 if p1 = true then
 some (false, ())
else
 if (p2.2.2.2.1 == (0 : Int)) = true then
  some ((p2.2.2.2.2 == (0 : Int)), ())
 else
  if (p2.2.2.2.1 == (1 : Int)) = true then
   if (decide (p2.2.2.2.2 ≥ (0 : Int))) = true then
    some ((decide (p2.2.2.2.2 ≤ (7 : Int))), ())
   else
    some (false, ())
  else
   some (false, ())
theorem j1_ok {r} {k p1 p2} (H : j1 k p1 p2 = some r) : Gw P 0 (Q r) (Px c0 27 []) (s1 p1 p2) := by
 unfold j1 at H
 rcases of_ite H with ⟨hb4, H⟩ | ⟨hb4, H⟩
 ·refine C1 hb4 ?_
  refine Ra ?_
  exact Le H
 ·refine C0 hb4 ?_
  refine Ra ?_
  rcases of_ite H with ⟨hb5, H⟩ | ⟨hb5, H⟩
  ·refine C1 hb5 ?_
   refine Ra ?_
   exact Le H
  ·refine C0 hb5 ?_
   rcases of_ite H with ⟨hb6, H⟩ | ⟨hb6, H⟩
   ·rcases of_ite H with ⟨hb7, H⟩ | ⟨hb7, H⟩
    ·refine Rg V_ok 0 [(3, {bv := some true}), (9, {bv := some true})] (ac hb6 (ac hb7 az)) ?_
     exact Le H
    ·refine Rg V_ok 0 [(3, {bv := some true}), (9, {bv := some false})] (ac hb6 (ac hb7 az)) ?_
     exact Le H
   ·refine Rg V_ok 0 [(3, {bv := some false})] (ac hb6 az) ?_
    exact Le H
noncomputable def f (k : Nat) (a1 : T1383.T) : Option R :=
 (f_ref01_May.f k a1.1).bind fun y1 =>
  if (!y1.1) = true then
   j1 k true a1
  else
   if (decide (a1.2.1 < (-1 : Int))) = true then
    j1 k true a1
   else
    if (decide (a1.2.1 > (7 : Int))) = true then
     j1 k true a1
    else
     if (decide (a1.2.2.1 < (0 : Int))) = true then
      j1 k true a1
     else
      j1 k (decide (a1.2.2.1 > (255 : Int))) a1
noncomputable def S : Spec := ⟨ps, rs, .any, none, fun x r => ∃ k, f k x.1 = some r⟩
theorem rl {k a1 r} (e : f k a1 = some r) : S.rel (a1, ()) r := ⟨k, e⟩
theorem f_ok {r k a1} (H : f k a1 = some r) : Gw P 0 (Q r) (Px c0 1 []) (⟨53, [(0, .cv (.agg (encC .any T1383 a1)))], []⟩) := by
 unfold f at H
 refine Rg V_ok 1 [(0, hb 0)] az ?_
 obtain ⟨y1, e2, H⟩ := of_bind H
 refine Rg V_ok 0 [(2, hr f_ref01_May.S y1)] (ac (f_ref01_May.rl e2) az) ?_
 rcases of_ite H with ⟨hb3, H⟩ | ⟨hb3, H⟩
 ·refine Rg V_ok 0 [(1, {bv := some true})] (ac hb3 az) ?_
  exact Jm (tn [1, 28] 1) (j1_ok H)
 ·rcases of_ite H with ⟨hb8, H⟩ | ⟨hb8, H⟩
  ·refine Rg V_ok 0 [(1, {bv := some false}), (6, {bv := some true})] (ac hb3 (ac hb8 az)) ?_
   exact Jm (tn [1, 28] 1) (j1_ok H)
  ·rcases of_ite H with ⟨hb9, H⟩ | ⟨hb9, H⟩
   ·refine Rg V_ok 0 [(1, {bv := some false}), (6, {bv := some false}), (11, {bv := some true})] (ac hb3 (ac hb8 (ac hb9 az))) ?_
    exact Jm (tn [1, 28] 1) (j1_ok H)
   ·rcases of_ite H with ⟨hb10, H⟩ | ⟨hb10, H⟩
    ·refine Rg V_ok 0 [(1, {bv := some false}), (6, {bv := some false}), (11, {bv := some false}), (16, {bv := some true})] (ac hb3 (ac hb8 (ac hb9 (ac hb10 az)))) ?_
     exact Jm (tn [1, 28] 1) (j1_ok H)
    ·refine Rg V_ok 0 [(1, {bv := some false}), (6, {bv := some false}), (11, {bv := some false}), (16, {bv := some false})] (ac hb3 (ac hb8 (ac hb9 (ac hb10 az)))) ?_
     exact Jm (tn [1, 28] 1) (j1_ok H)
theorem fits : Fits P 137 S := fitsA V_ok func137 fun x r ⟨k, H⟩ => of_G (f_ok H)
end f_ref04_May

namespace f_ref05_May
noncomputable def c0 : Code := bo f129
abbrev ps : Sg := [(true, T4414)]
abbrev rs : Sg := [(false, .bool)]
noncomputable def V : Env := eV [(137, f_ref04_May.S)]
theorem V_ok : EnvOk P V := eOk (slk_cons f_ref04_May.fits (slk_nil))
abbrev R := Tup rs
noncomputable abbrev Q (r : R) : Exit → St → Prop := Qr tt f129.results ⟨ps, rs, .any, none, fun _ _ => True⟩ r
noncomputable def s1 (p1 : Bool) (p2 : T4414.T) : St := ⟨96, [(1, .cv (.one (.ptr 0 0))), (41, .cv (.one (.bool p1)))], [(.box 10, (encC .any T4414 p2))]⟩
noncomputable def s2 (p1 : Int) (p2 : Bool) (p3 : T4414.T) : St := ⟨96, [(1, .cv (.one (.ptr 0 0))), (64, .cv (.one (.i p1))), (75, .cv (.one (.bool p2)))], [(.box 10, (encC .any T4414 p3))]⟩
noncomputable def j2 (k : Nat) (p1 : Int) (p2 : Bool) (p3 : T4414.T) : Option R :=
 if p2 = true then
 if (decide (p3.2.2.1 ≥ (1 : Int))) = true then
  some ((decide (p3.2.2.2.1 ≥ (1 : Int))), ())
 else
  some (false, ())
else
 if (p1 == (5 : Int)) = true then
  if (decide (p3.2.2.1 ≥ (1 : Int))) = true then
   some ((p3.2.2.2.1 == (0 : Int)), ())
  else
   some (false, ())
 else
  some (true, ())
theorem j2_ok {r} {k p1 p2 p3} (H : j2 k p1 p2 p3 = some r) : Gw P 0 (Q r) (Px c0 1967 []) (s2 p1 p2 p3) := by
 unfold j2 at H
 rcases of_ite H with ⟨hb12, H⟩ | ⟨hb12, H⟩
 ·refine C1 hb12 ?_
  rcases of_ite H with ⟨hb13, H⟩ | ⟨hb13, H⟩
  ·refine Rg V_ok 0 [(2, {bv := some true})] (ac hb13 az) ?_
   exact Le H
  ·refine Rg V_ok 0 [(2, {bv := some false})] (ac hb13 az) ?_
   exact Le H
 ·refine C0 hb12 ?_
  refine Ra ?_
  rcases of_ite H with ⟨hb14, H⟩ | ⟨hb14, H⟩
  ·refine C1 hb14 ?_
   rcases of_ite H with ⟨hb15, H⟩ | ⟨hb15, H⟩
   ·refine Rg V_ok 0 [(2, {bv := some true})] (ac hb15 az) ?_
    exact Le H
   ·refine Rg V_ok 0 [(2, {bv := some false})] (ac hb15 az) ?_
    exact Le H
  ·refine C0 hb14 ?_
   refine Ra ?_
   exact Le H
noncomputable def j1 (k : Nat) (p1 : Bool) (p2 : T4414.T) : Option R :=
 if p1 = true then
 some (false, ())
else
 if (p2.1 == (2 : Int)) = true then
  (f_ref04_May.f k p2.2.2.2.2).bind fun y4 =>
   if y4.1 = true then
    if (decide (p2.2.2.1 ≥ (1 : Int))) = true then
     some ((decide (p2.2.2.2.1 ≥ (1 : Int))), ())
    else
     some (false, ())
   else
    some (false, ())
 else
  if (!((p2.2.2.2.2.1.1 == (0 : Int)) && ((p2.2.2.2.2.1.2 == (0 : Int)) && ((p2.2.2.2.2.2.1 == (0 : Int)) && ((p2.2.2.2.2.2.2.1 == (0 : Int)) && ((p2.2.2.2.2.2.2.2.1 == (0 : Int)) && ((p2.2.2.2.2.2.2.2.2 == (0 : Int)) && true))))))) = true then
   some (false, ())
  else
   if (p2.1 == (0 : Int)) = true then
    if (p2.2.2.1 == (0 : Int)) = true then
     some ((p2.2.2.2.1 == (0 : Int)), ())
    else
     some (false, ())
   else
    if (p2.1 == (3 : Int)) = true then
     j2 k p2.1 (p2.1 == (3 : Int)) p2
    else
     j2 k p2.1 (p2.1 == (4 : Int)) p2
theorem j1_ok {r} {k p1 p2} (H : j1 k p1 p2 = some r) : Gw P 0 (Q r) (Px c0 13 []) (s1 p1 p2) := by
 unfold j1 at H
 rcases of_ite H with ⟨hb2, H⟩ | ⟨hb2, H⟩
 ·refine C1 hb2 ?_
  refine Ra ?_
  exact Le H
 ·refine C0 hb2 ?_
  refine Ra ?_
  rcases of_ite H with ⟨hb3, H⟩ | ⟨hb3, H⟩
  ·refine C1 hb3 ?_
   obtain ⟨y4, e5, H⟩ := of_bind H
   refine Rg V_ok 0 [(2, hr f_ref04_May.S y4)] (ac (f_ref04_May.rl e5) az) ?_
   rcases of_ite H with ⟨hb6, H⟩ | ⟨hb6, H⟩
   ·rcases of_ite H with ⟨hb7, H⟩ | ⟨hb7, H⟩
    ·refine Rg V_ok 0 [(0, {bv := some true}), (5, {bv := some true})] (ac hb6 (ac hb7 az)) ?_
     exact Le H
    ·refine Rg V_ok 0 [(0, {bv := some true}), (5, {bv := some false})] (ac hb6 (ac hb7 az)) ?_
     exact Le H
   ·refine Rg V_ok 0 [(0, {bv := some false})] (ac hb6 az) ?_
    exact Le H
  ·refine C0 hb3 ?_
   refine Ra ?_
   rcases of_ite H with ⟨hb8, H⟩ | ⟨hb8, H⟩
   ·refine C1 hb8 ?_
    refine Ra ?_
    exact Le H
   ·refine C0 hb8 ?_
    refine Ra ?_
    refine Ra ?_
    rcases of_ite H with ⟨hb9, H⟩ | ⟨hb9, H⟩
    ·refine C1 hb9 ?_
     rcases of_ite H with ⟨hb10, H⟩ | ⟨hb10, H⟩
     ·refine Rg V_ok 0 [(2, {bv := some true})] (ac hb10 az) ?_
      exact Le H
     ·refine Rg V_ok 0 [(2, {bv := some false})] (ac hb10 az) ?_
      exact Le H
    ·refine C0 hb9 ?_
     refine Ra ?_
     rcases of_ite H with ⟨hb11, H⟩ | ⟨hb11, H⟩
     ·refine C1 hb11 ?_
      exact Jm (tn [1, 64, 75] 1) (j2_ok H)
     ·refine C0 hb11 ?_
      refine Ra ?_
      exact Jm (tn [1, 64, 75] 1) (j2_ok H)
noncomputable def f (k : Nat) (a1 : T4414.T) : Option R :=
 if (decide (a1.1 < (0 : Int))) = true then
  j1 k true a1
 else
  if (decide (a1.1 ≥ (6 : Int))) = true then
   j1 k true a1
  else
   if (decide (a1.2.1 < (1 : Int))) = true then
    j1 k true a1
   else
    if (decide (a1.2.1 > (1048576 : Int))) = true then
     j1 k true a1
    else
     if (decide (a1.2.2.1 < (0 : Int))) = true then
      j1 k true a1
     else
      if (decide (a1.2.2.1 > (1048576 : Int))) = true then
       j1 k true a1
      else
       if (decide (a1.2.2.2.1 < (0 : Int))) = true then
        j1 k true a1
       else
        j1 k (decide (a1.2.2.2.1 > (4095 : Int))) a1
noncomputable def S : Spec := ⟨ps, rs, .any, none, fun x r => ∃ k, f k x.1 = some r⟩
theorem rl {k a1 r} (e : f k a1 = some r) : S.rel (a1, ()) r := ⟨k, e⟩
theorem f_ok {r k a1} (H : f k a1 = some r) : Gw P 0 (Q r) (Px c0 1 []) (⟨96, [(0, .cv (.agg (encC .any T4414 a1)))], []⟩) := by
 unfold f at H
 refine Rg V_ok 1 [(0, hb 0)] az ?_
 rcases of_ite H with ⟨hb1, H⟩ | ⟨hb1, H⟩
 ·refine Rg V_ok 0 [(2, {bv := some true})] (ac hb1 az) ?_
  exact Jm (tn [1, 41] 1) (j1_ok H)
 ·rcases of_ite H with ⟨hb16, H⟩ | ⟨hb16, H⟩
  ·refine Rg V_ok 0 [(2, {bv := some false}), (7, {bv := some true})] (ac hb1 (ac hb16 az)) ?_
   exact Jm (tn [1, 41] 1) (j1_ok H)
  ·rcases of_ite H with ⟨hb17, H⟩ | ⟨hb17, H⟩
   ·refine Rg V_ok 0 [(2, {bv := some false}), (7, {bv := some false}), (12, {bv := some true})] (ac hb1 (ac hb16 (ac hb17 az))) ?_
    exact Jm (tn [1, 41] 1) (j1_ok H)
   ·rcases of_ite H with ⟨hb18, H⟩ | ⟨hb18, H⟩
    ·refine Rg V_ok 0 [(2, {bv := some false}), (7, {bv := some false}), (12, {bv := some false}), (17, {bv := some true})] (ac hb1 (ac hb16 (ac hb17 (ac hb18 az)))) ?_
     exact Jm (tn [1, 41] 1) (j1_ok H)
    ·rcases of_ite H with ⟨hb19, H⟩ | ⟨hb19, H⟩
     ·refine Rg V_ok 0 [(2, {bv := some false}), (7, {bv := some false}), (12, {bv := some false}), (17, {bv := some false}), (22, {bv := some true})] (ac hb1 (ac hb16 (ac hb17 (ac hb18 (ac hb19 az))))) ?_
      exact Jm (tn [1, 41] 1) (j1_ok H)
     ·rcases of_ite H with ⟨hb20, H⟩ | ⟨hb20, H⟩
      ·refine Rg V_ok 0 [(2, {bv := some false}), (7, {bv := some false}), (12, {bv := some false}), (17, {bv := some false}), (22, {bv := some false}), (27, {bv := some true})] (ac hb1 (ac hb16 (ac hb17 (ac hb18 (ac hb19 (ac hb20 az)))))) ?_
       exact Jm (tn [1, 41] 1) (j1_ok H)
      ·rcases of_ite H with ⟨hb21, H⟩ | ⟨hb21, H⟩
       ·refine Rg V_ok 0 [(2, {bv := some false}), (7, {bv := some false}), (12, {bv := some false}), (17, {bv := some false}), (22, {bv := some false}), (27, {bv := some false}), (32, {bv := some true})] (ac hb1 (ac hb16 (ac hb17 (ac hb18 (ac hb19 (ac hb20 (ac hb21 az))))))) ?_
        exact Jm (tn [1, 41] 1) (j1_ok H)
       ·refine Rg V_ok 0 [(2, {bv := some false}), (7, {bv := some false}), (12, {bv := some false}), (17, {bv := some false}), (22, {bv := some false}), (27, {bv := some false}), (32, {bv := some false})] (ac hb1 (ac hb16 (ac hb17 (ac hb18 (ac hb19 (ac hb20 (ac hb21 az))))))) ?_
        exact Jm (tn [1, 41] 1) (j1_ok H)
theorem fits : Fits P 129 S := fitsA V_ok func129 fun x r ⟨k, H⟩ => of_G (f_ok H)
end f_ref05_May

namespace f_ref02_power
noncomputable def c0 : Code := bo f148
abbrev ps : Sg := [(false, (.int .i64))]
abbrev rs : Sg := [(false, (.int .i64))]
noncomputable def V : Env := eV []
theorem V_ok : EnvOk P V := eOk (slk_nil)
abbrev R := Tup rs
noncomputable abbrev Q (r : R) : Exit → St → Prop := Qr tt f148.results ⟨ps, rs, .any, none, fun _ _ => True⟩ r
noncomputable def s1 (p1 p2 p3 : Int) : St := ⟨13, [(0, .cv (.one (.i p1))), (3, .cv (.one (.i p2))), (4, .cv (.one (.i p3)))], []⟩
noncomputable def b1 (L1 : Int → Int → Int → Option R) (k : Nat) (p1 p2 p3 : Int) : Option R :=
 if (decide (p3 < p1)) = true then
 L1 p1 (IntKind.i64.wrap (p2 * 256)) (IntKind.i64.wrap (p3 + 1))
else
 some (p2, ())
theorem b1_ok {r} {L1 : Int → Int → Int → Option R} {m1 : Nat} (hL1 : ∀ p1 p2 p3, L1 p1 p2 p3 = some r → Gw P 0 (Q r) (Pb c0 43 [] m1) (s1 p1 p2 p3)) {k p1 p2 p3} (H : b1 L1 k p1 p2 p3 = some r) : Gw P 0 (Q r) (Px c0 75 [m1]) (s1 p1 p2 p3) := by
 unfold b1 at H
 refine Ra ?_
 rcases of_ite H with ⟨hb1, H⟩ | ⟨hb1, H⟩
 ·refine C1 hb1 ?_
  refine Ra ?_
  refine Ra ?_
  exact Jm (tn [0, 3, 4] 0) (hL1 p1 (IntKind.i64.wrap (p2 * 256)) (IntKind.i64.wrap (p3 + 1)) H)
 ·refine C0 hb1 ?_
  refine Ra ?_
  exact Le H
noncomputable def l1 (k : Nat) : Nat → Int → Int → Int → Option R
 | 0, _, _, _ => none
 | m + 1, p1, p2, p3 => b1 (l1 k m) k p1 p2 p3
theorem l1_ok {r} (k : Nat) : ∀ (m1 : Nat) (p1 p2 : Int) (p3 : Int), l1 k m1 p1 p2 p3 = some r → Gw P 0 (Q r) (Pb c0 43 [] m1) (s1 p1 p2 p3)
 | 0, _, _, _, H => by cases H
 | m1 + 1, p1, p2, p3, H => SU (by kernel_rfl) (b1_ok (l1_ok k m1) H)
noncomputable def f (k : Nat) (a1 : Int) : Option R :=
 l1 k k a1 1 0
noncomputable def S : Spec := ⟨ps, rs, .any, none, fun x r => ∃ k, f k x.1 = some r⟩
theorem rl {k a1 r} (e : f k a1 = some r) : S.rel (a1, ()) r := ⟨k, e⟩
theorem f_ok {r k a1} (H : f k a1 = some r) : Gw P 0 (Q r) (Px c0 1 []) (⟨13, [(0, .cv (.one (.i a1)))], []⟩) := by
 unfold f at H
 refine Ra ?_
 refine Ra ?_
 refine Ra ?_
 exact LP k (Jm (tn [0, 3, 4] 0) (l1_ok k k a1 1 0 H))
theorem fits : Fits P 148 S := fitsA V_ok func148 fun x r ⟨k, H⟩ => of_G (f_ok H)
end f_ref02_power

namespace f_ref02_Put
noncomputable def c0 : Code := bo f109
abbrev ps : Sg := [(false, (.int .i64)), (false, (.int .i64))]
abbrev rs : Sg := [(false, (.slice (.int .u8))), (false, (.int .i64))]
noncomputable def V : Env := eV [(148, f_ref02_power.S)]
theorem V_ok : EnvOk P V := eOk (slk_cons f_ref02_power.fits (slk_nil))
abbrev R := Tup rs
noncomputable abbrev Q (r : R) : Exit → St → Prop := Qr tt f109.results ⟨ps, rs, .any, none, fun _ _ => True⟩ r
noncomputable def s1 (p1 p2 : Int) (p3 : Bool) : St := ⟨40, [(0, .cv (.one (.i p1))), (1, .cv (.one (.i p2))), (23, .cv (.one (.bool p3)))], []⟩
noncomputable def s2 (p1 p2 : Int) (p3 : List Int) : St := ⟨40, [(0, .cv (.one (.i p1))), (6, .cv (.one (.own 0))), (7, .cv (.one (.i p2)))], [(.buf 5 (.int .u8) p3, [])]⟩
noncomputable def b2 (L2 : Int → Int → List Int → Option R) (k : Nat) (p1 p2 : Int) (p3 : List Int) : Option R :=
 if (decide (p2 ≥ (0 : Int))) = true then
 (f_ref02_power.f k p2).bind fun y5 =>
  if y5.1 ≠ 0 then
   if (p3.length + 1) * 1 ≤ 140737488355328 then
    L2 p1 (IntKind.i64.wrap (p2 - 1)) (p3 ++ [(IntKind.u8.wrap (Int.tmod (IntKind.i64.wrap (Int.tdiv p1 y5.1)) 256))])
   else none
  else none
else
 some (p3, ((0 : Int), ()))
theorem b2_ok {r} {L2 : Int → Int → List Int → Option R} {m2 : Nat} (hL2 : ∀ p1 p2 p3, L2 p1 p2 p3 = some r → Gw P 0 (Q r) (Pb c0 87 [] m2) (s2 p1 p2 p3)) {k p1 p2 p3} (H : b2 L2 k p1 p2 p3 = some r) : Gw P 0 (Q r) (Px c0 151 [m2]) (s2 p1 p2 p3) := by
 unfold b2 at H
 refine Ra ?_
 rcases of_ite H with ⟨hb4, H⟩ | ⟨hb4, H⟩
 ·refine C1 hb4 ?_
  obtain ⟨y5, e6, H⟩ := of_bind H
  obtain ⟨n7, H⟩ := of_if H
  obtain ⟨n8, H⟩ := of_if H
  refine Rg V_ok 1 [(3, hr f_ref02_power.S y5), (8, hb 1)] (ac (f_ref02_power.rl e6) (ac n7 (ac (show (256 : Int) ≠ 0 by decide) (ac n8 az)))) ?_
  refine Ra ?_
  exact Jm (tl [0, 6, 7] [1]) (hL2 p1 (IntKind.i64.wrap (p2 - 1)) (p3 ++ [(IntKind.u8.wrap (Int.tmod (IntKind.i64.wrap (Int.tdiv p1 y5.1)) 256))]) H)
 ·refine C0 hb4 ?_
  refine Ra ?_
  exact Le H
noncomputable def l2 (k : Nat) : Nat → Int → Int → List Int → Option R
 | 0, _, _, _ => none
 | m + 1, p1, p2, p3 => b2 (l2 k m) k p1 p2 p3
theorem l2_ok {r} (k : Nat) : ∀ (m2 : Nat) (p1 p2 : Int) (p3 : List Int), l2 k m2 p1 p2 p3 = some r → Gw P 0 (Q r) (Pb c0 87 [] m2) (s2 p1 p2 p3)
 | 0, _, _, _, H => by cases H
 | m2 + 1, p1, p2, p3, H => SU (by kernel_rfl) (b2_ok (l2_ok k m2) H)
noncomputable def j1 (k : Nat) (p1 p2 : Int) (p3 : Bool) : Option R :=
 if p3 = true then
 some ([], ((1 : Int), ()))
else
 l2 k k p1 (IntKind.i64.wrap (p2 - 1)) []
theorem j1_ok {r} {k p1 p2 p3} (H : j1 k p1 p2 p3 = some r) : Gw P 0 (Q r) (Px c0 13 []) (s1 p1 p2 p3) := by
 unfold j1 at H
 rcases of_ite H with ⟨hb3, H⟩ | ⟨hb3, H⟩
 ·refine C1 hb3 ?_
  refine Ra ?_
  exact Le H
 ·refine C0 hb3 ?_
  refine Ra ?_
  refine Ra ?_
  exact LP k (Jm {fz := [], gr := 1, ad := [.ownT 6 0 5 (.int .u8)], live := [0, 6, 7], src := [some 0]} (l2_ok k k p1 (IntKind.i64.wrap (p2 - 1)) [] H))
noncomputable def f (k : Nat) (a1 a2 : Int) : Option R :=
 if (decide (a2 < (1 : Int))) = true then
  j1 k a1 a2 true
 else
  if (decide (a2 > (4 : Int))) = true then
   j1 k a1 a2 true
  else
   if (decide (a1 < (0 : Int))) = true then
    j1 k a1 a2 true
   else
    (f_ref02_power.f k a2).bind fun y1 =>
     j1 k a1 a2 (decide (a1 ≥ y1.1))
noncomputable def S : Spec := ⟨ps, rs, .any, none, fun x r => ∃ k, f k x.1 x.2.1 = some r⟩
theorem rl {k a1 a2 r} (e : f k a1 a2 = some r) : S.rel (a1, a2, ()) r := ⟨k, e⟩
theorem f_ok {r k a1 a2} (H : f k a1 a2 = some r) : Gw P 0 (Q r) (Px c0 1 []) (⟨40, [(0, .cv (.one (.i a1))), (1, .cv (.one (.i a2)))], []⟩) := by
 unfold f at H
 refine Ra ?_
 rcases of_ite H with ⟨hb2, H⟩ | ⟨hb2, H⟩
 ·refine Rg V_ok 0 [(1, {bv := some true})] (ac hb2 az) ?_
  exact Jm (tn [0, 1, 23] 0) (j1_ok H)
 ·rcases of_ite H with ⟨hb9, H⟩ | ⟨hb9, H⟩
  ·refine Rg V_ok 0 [(1, {bv := some false}), (5, {bv := some true})] (ac hb2 (ac hb9 az)) ?_
   exact Jm (tn [0, 1, 23] 0) (j1_ok H)
  ·rcases of_ite H with ⟨hb10, H⟩ | ⟨hb10, H⟩
   ·refine Rg V_ok 0 [(1, {bv := some false}), (5, {bv := some false}), (9, {bv := some true})] (ac hb2 (ac hb9 (ac hb10 az))) ?_
    exact Jm (tn [0, 1, 23] 0) (j1_ok H)
   ·obtain ⟨y1, e11, H⟩ := of_bind H
    refine Rg V_ok 0 [(1, {bv := some false}), (5, {bv := some false}), (9, {bv := some false}), (13, hr f_ref02_power.S y1)] (ac hb2 (ac hb9 (ac hb10 (ac (f_ref02_power.rl e11) az)))) ?_
    exact Jm (tn [0, 1, 23] 0) (j1_ok H)
theorem fits : Fits P 109 S := fitsA V_ok func109 fun x r ⟨k, H⟩ => of_G (f_ok H)
end f_ref02_Put

namespace f_ref02_PutAll
noncomputable def c0 : Code := bo f146
abbrev ps : Sg := [(false, (.slice (.int .i64))), (false, (.slice (.int .i64)))]
abbrev rs : Sg := [(false, (.slice (.int .u8))), (false, (.int .i64))]
noncomputable def V : Env := eV [(109, f_ref02_Put.S)]
theorem V_ok : EnvOk P V := eOk (slk_cons f_ref02_Put.fits (slk_nil))
abbrev R := Tup rs
noncomputable abbrev Q (r : R) : Exit → St → Prop := Qr tt f146.results ⟨ps, rs, .any, none, fun _ _ => True⟩ r
noncomputable def s1 (p1 p2 : List Int) (p3 : Int) (p4 : List Int) : St := ⟨40, [(0, .cv (.one (.sl (.int .i64) p1 .any))), (1, .cv (.one (.sl (.int .i64) p2 .any))), (6, .cv (.one (.own 0))), (7, .cv (.one (.i p3)))], [(.buf 5 (.int .u8) p4, [])]⟩
noncomputable def b1 (L1 : List Int → List Int → Int → List Int → Option R) (k : Nat) (p1 p2 : List Int) (p3 : Int) (p4 : List Int) : Option R :=
 if (decide (p3 < (p1.length : Int))) = true then
 if 0 ≤ p3 then
  if p3 < (p1.length : Int) then
   if p3 < (p2.length : Int) then
    (f_ref02_Put.f k (att (.int .i64) p1 p3) (att (.int .i64) p2 p3)).bind fun y3 =>
     if (y3.2.1 != (0 : Int)) = true then
      some ([], (y3.2.1, ()))
     else
      if (p4.length + y3.1.length) * 1 ≤ 140737488355328 then
       L1 p1 p2 (IntKind.i64.wrap (p3 + 1)) (p4 ++ y3.1)
      else none
   else none
  else none
 else none
else
 some (p4, ((0 : Int), ()))
theorem b1_ok {r} {L1 : List Int → List Int → Int → List Int → Option R} {m1 : Nat} (hL1 : ∀ p1 p2 p3 p4, L1 p1 p2 p3 p4 = some r → Gw P 0 (Q r) (Pb c0 87 [] m1) (s1 p1 p2 p3 p4)) {k p1 p2 p3 p4} (H : b1 L1 k p1 p2 p3 p4 = some r) : Gw P 0 (Q r) (Px c0 151 [m1]) (s1 p1 p2 p3 p4) := by
 unfold b1 at H
 refine Ra ?_
 rcases of_ite H with ⟨hb2, H⟩ | ⟨hb2, H⟩
 ·refine C1 hb2 ?_
  obtain ⟨n4, H⟩ := of_if H
  obtain ⟨n5, H⟩ := of_if H
  obtain ⟨n6, H⟩ := of_if H
  obtain ⟨y3, e7, H⟩ := of_bind H
  refine Rg V_ok 0 [(8, hr f_ref02_Put.S y3)] (ac n4 (ac n5 (ac n4 (ac n6 (ac (f_ref02_Put.rl e7) az))))) ?_
  refine Ra ?_
  rcases of_ite H with ⟨hb8, H⟩ | ⟨hb8, H⟩
  ·refine C1 hb8 ?_
   refine Ra ?_
   exact Le H
  ·refine C0 hb8 ?_
   obtain ⟨n9, H⟩ := of_if H
   refine Rg V_ok 1 [(2, hb 1)] (ac n9 az) ?_
   refine Ra ?_
   exact Jm (tl [0, 1, 6, 7] [1]) (hL1 p1 p2 (IntKind.i64.wrap (p3 + 1)) (p4 ++ y3.1) H)
 ·refine C0 hb2 ?_
  refine Ra ?_
  exact Le H
noncomputable def l1 (k : Nat) : Nat → List Int → List Int → Int → List Int → Option R
 | 0, _, _, _, _ => none
 | m + 1, p1, p2, p3, p4 => b1 (l1 k m) k p1 p2 p3 p4
theorem l1_ok {r} (k : Nat) : ∀ (m1 : Nat) (p1 p2 : List Int) (p3 : Int) (p4 : List Int), l1 k m1 p1 p2 p3 p4 = some r → Gw P 0 (Q r) (Pb c0 87 [] m1) (s1 p1 p2 p3 p4)
 | 0, _, _, _, _, H => by cases H
 | m1 + 1, p1, p2, p3, p4, H => SU (by kernel_rfl) (b1_ok (l1_ok k m1) H)
noncomputable def f (k : Nat) (a1 a2 : List Int) : Option R :=
 if ((a1.length : Int) != (a2.length : Int)) = true then
  some ([], ((1 : Int), ()))
 else
  l1 k k a1 a2 0 []
noncomputable def S : Spec := ⟨ps, rs, .any, none, fun x r => ∃ k, f k x.1 x.2.1 = some r⟩
theorem rl {k a1 a2 r} (e : f k a1 a2 = some r) : S.rel (a1, a2, ()) r := ⟨k, e⟩
theorem f_ok {r k a1 a2} (H : f k a1 a2 = some r) : Gw P 0 (Q r) (Px c0 1 []) (⟨40, [(0, .cv (.one (.sl (.int .i64) a1 .any))), (1, .cv (.one (.sl (.int .i64) a2 .any)))], []⟩) := by
 unfold f at H
 refine Ra ?_
 refine Ra ?_
 rcases of_ite H with ⟨hb1, H⟩ | ⟨hb1, H⟩
 ·refine C1 hb1 ?_
  refine Ra ?_
  exact Le H
 ·refine C0 hb1 ?_
  refine Ra ?_
  refine Ra ?_
  exact LP k (Jm {fz := [], gr := 1, ad := [.ownT 6 0 5 (.int .u8)], live := [0, 1, 6, 7], src := [some 0]} (l1_ok k k a1 a2 0 [] H))
theorem fits : Fits P 146 S := fitsA V_ok func146 fun x r ⟨k, H⟩ => of_G (f_ok H)
end f_ref02_PutAll

namespace f_ref04_Put
noncomputable def c0 : Code := bo f147
abbrev ps : Sg := [(true, T1383)]
abbrev rs : Sg := [(false, (.slice (.int .u8))), (false, (.int .i64))]
noncomputable def V : Env := eV [(137, f_ref04_May.S), (146, f_ref02_PutAll.S)]
theorem V_ok : EnvOk P V := eOk (slk_cons f_ref04_May.fits (slk_cons f_ref02_PutAll.fits (slk_nil)))
abbrev R := Tup rs
noncomputable abbrev Q (r : R) : Exit → St → Prop := Qr tt f147.results ⟨ps, rs, .any, none, fun _ _ => True⟩ r
noncomputable def f (k : Nat) (a1 : T1383.T) : Option R :=
 (f_ref04_May.f k a1).bind fun y1 =>
  if (!y1.1) = true then
   some ([], ((1 : Int), ()))
  else
   (f_ref02_PutAll.f k [a1.1.1, a1.1.2, (IntKind.i64.wrap (a1.2.1 + 1)), a1.2.2.1, a1.2.2.2.1, a1.2.2.2.2] [4, 1, 1, 1, 1, 1]).bind fun y4 =>
    some (y4.1, (y4.2.1, ()))
noncomputable def S : Spec := ⟨ps, rs, .any, none, fun x r => ∃ k, f k x.1 = some r⟩
theorem rl {k a1 r} (e : f k a1 = some r) : S.rel (a1, ()) r := ⟨k, e⟩
theorem f_ok {r k a1} (H : f k a1 = some r) : Gw P 0 (Q r) (Px c0 1 []) (⟨36, [(0, .cv (.agg (encC .any T1383 a1)))], []⟩) := by
 unfold f at H
 refine Rg V_ok 1 [(0, hb 0)] az ?_
 obtain ⟨y1, e2, H⟩ := of_bind H
 refine Rg V_ok 0 [(1, hr f_ref04_May.S y1)] (ac (f_ref04_May.rl e2) az) ?_
 refine Ra ?_
 rcases of_ite H with ⟨hb3, H⟩ | ⟨hb3, H⟩
 ·refine C1 hb3 ?_
  refine Ra ?_
  exact Le H
 ·refine C0 hb3 ?_
  obtain ⟨y4, e5, H⟩ := of_bind H
  refine Rg V_ok 0 [(19, hr f_ref02_PutAll.S y4)] (ac (f_ref02_PutAll.rl e5) az) ?_
  refine Ra ?_
  exact Le H
theorem fits : Fits P 147 S := fitsA V_ok func147 fun x r ⟨k, H⟩ => of_G (f_ok H)
end f_ref04_Put

namespace f_ref02_PutAllO
noncomputable def c0 : Code := bo f146
abbrev ps : Sg := [(false, (.slice (.int .i64))), (false, (.slice (.int .i64)))]
abbrev rs : Sg := [(false, .slice (.int .u8)), (false, .int .i64)]
noncomputable def V : Env := eV [(109, f_ref02_Put.S)]
theorem V_ok : EnvOk P V := eOk (slk_cons f_ref02_Put.fits (slk_nil))
abbrev R := Tup rs
noncomputable abbrev Q (r : R) : Exit → St → Prop := QrO2 f146.results 5 (.int .u8) .i64 r
noncomputable def s1 (p1 p2 : List Int) (p3 : Int) (p4 : List Int) : St := ⟨40, [(0, .cv (.one (.sl (.int .i64) p1 .any))), (1, .cv (.one (.sl (.int .i64) p2 .any))), (6, .cv (.one (.own 0))), (7, .cv (.one (.i p3)))], [(.buf 5 (.int .u8) p4, [])]⟩
noncomputable def b1 (L1 : List Int → List Int → Int → List Int → Option R) (k : Nat) (p1 p2 : List Int) (p3 : Int) (p4 : List Int) : Option R :=
 if (decide (p3 < (p1.length : Int))) = true then
 if 0 ≤ p3 then
  if p3 < (p1.length : Int) then
   if p3 < (p2.length : Int) then
    (f_ref02_Put.f k (att (.int .i64) p1 p3) (att (.int .i64) p2 p3)).bind fun y3 =>
     if (y3.2.1 != (0 : Int)) = true then
      some ([], (y3.2.1, ()))
     else
      if (p4.length + y3.1.length) * 1 ≤ 140737488355328 then
       L1 p1 p2 (IntKind.i64.wrap (p3 + 1)) (p4 ++ y3.1)
      else none
   else none
  else none
 else none
else
 some (p4, ((0 : Int), ()))
theorem b1_ok {r} {L1 : List Int → List Int → Int → List Int → Option R} {m1 : Nat} (hL1 : ∀ p1 p2 p3 p4, L1 p1 p2 p3 p4 = some r → Gw P 0 (Q r) (Pb c0 87 [] m1) (s1 p1 p2 p3 p4)) {k p1 p2 p3 p4} (H : b1 L1 k p1 p2 p3 p4 = some r) : Gw P 0 (Q r) (Px c0 151 [m1]) (s1 p1 p2 p3 p4) := by
 unfold b1 at H
 refine Ra ?_
 rcases of_ite H with ⟨hb2, H⟩ | ⟨hb2, H⟩
 ·refine C1 hb2 ?_
  obtain ⟨n4, H⟩ := of_if H
  obtain ⟨n5, H⟩ := of_if H
  obtain ⟨n6, H⟩ := of_if H
  obtain ⟨y3, e7, H⟩ := of_bind H
  refine Rg V_ok 0 [(8, hr f_ref02_Put.S y3)] (ac n4 (ac n5 (ac n4 (ac n6 (ac (f_ref02_Put.rl e7) az))))) ?_
  refine Ra ?_
  rcases of_ite H with ⟨hb8, H⟩ | ⟨hb8, H⟩
  ·refine C1 hb8 ?_
   refine Ra ?_
   refine GT {gr := 1, ad := [.ownT 4 1 5 (.int .u8)], live := [4, 5], src := [some 1]} ?_
   obtain rfl := Option.some.inj H
   exact LfO2 (by kernel_rfl)
  ·refine C0 hb8 ?_
   obtain ⟨n9, H⟩ := of_if H
   refine Rg V_ok 1 [(2, hb 1)] (ac n9 az) ?_
   refine Ra ?_
   exact Jm (tl [0, 1, 6, 7] [1]) (hL1 p1 p2 (IntKind.i64.wrap (p3 + 1)) (p4 ++ y3.1) H)
 ·refine C0 hb2 ?_
  refine Ra ?_
  obtain rfl := Option.some.inj H
  exact LfO2 (by kernel_rfl)
noncomputable def l1 (k : Nat) : Nat → List Int → List Int → Int → List Int → Option R
 | 0, _, _, _, _ => none
 | m + 1, p1, p2, p3, p4 => b1 (l1 k m) k p1 p2 p3 p4
theorem l1_ok {r} (k : Nat) : ∀ (m1 : Nat) (p1 p2 : List Int) (p3 : Int) (p4 : List Int), l1 k m1 p1 p2 p3 p4 = some r → Gw P 0 (Q r) (Pb c0 87 [] m1) (s1 p1 p2 p3 p4)
 | 0, _, _, _, _, H => by cases H
 | m1 + 1, p1, p2, p3, p4, H => SU (by kernel_rfl) (b1_ok (l1_ok k m1) H)
noncomputable def f (k : Nat) (a1 a2 : List Int) : Option R :=
 if ((a1.length : Int) != (a2.length : Int)) = true then
  some ([], ((1 : Int), ()))
 else
  l1 k k a1 a2 0 []
noncomputable def S : Spec := ⟨ps, rs, .any, some 5, fun x r => ∃ k, f k x.1 x.2.1 = some r⟩
theorem rl {k a1 a2 r} (e : f k a1 a2 = some r) : S.rel (a1, a2, ()) r := ⟨k, e⟩
theorem f_ok {r k a1 a2} (H : f k a1 a2 = some r) : Gw P 0 (Q r) (Px c0 1 []) (⟨40, [(0, .cv (.one (.sl (.int .i64) a1 .any))), (1, .cv (.one (.sl (.int .i64) a2 .any)))], []⟩) := by
 unfold f at H
 refine Ra ?_
 refine Ra ?_
 rcases of_ite H with ⟨hb1, H⟩ | ⟨hb1, H⟩
 ·refine C1 hb1 ?_
  refine Ra ?_
  refine GT {gr := 1, ad := [.ownT 4 0 5 (.int .u8)], live := [4, 5], src := [some 0]} ?_
  obtain rfl := Option.some.inj H
  exact LfO2 (by kernel_rfl)
 ·refine C0 hb1 ?_
  refine Ra ?_
  refine Ra ?_
  exact LP k (Jm {fz := [], gr := 1, ad := [.ownT 6 0 5 (.int .u8)], live := [0, 1, 6, 7], src := [some 0]} (l1_ok k k a1 a2 0 [] H))
theorem fits : Fits P 146 S := fits_ofO2 V_ok func146 (by kernel_rfl) (by decide) (by decide) (fun x r ⟨k, H⟩ => of_G (f_ok H))
end f_ref02_PutAllO

namespace f_ref05_Put
noncomputable def c0 : Code := bo f108
abbrev ps : Sg := [(true, T4414)]
abbrev rs : Sg := [(false, (.slice (.int .u8))), (false, (.int .i64))]
noncomputable def V : Env := eV [(129, f_ref05_May.S), (146, f_ref02_PutAllO.S), (147, f_ref04_Put.S)]
theorem V_ok : EnvOk P V := eOk (slk_cons f_ref05_May.fits (slk_cons f_ref02_PutAllO.fits (slk_cons f_ref04_Put.fits (slk_nil))))
abbrev R := Tup rs
noncomputable abbrev Q (r : R) : Exit → St → Prop := Qr tt f108.results ⟨ps, rs, .any, none, fun _ _ => True⟩ r
noncomputable def s1 (p1 : List Int) : St := ⟨40, [(5, .cv (.one (.own 0)))], [(.buf 5 (.int .u8) p1, [])]⟩
noncomputable def j1 (k : Nat) (p1 : List Int) : Option R :=
 some (p1, ((0 : Int), ()))
theorem j1_ok {r} {k p1} (H : j1 k p1 = some r) : Gw P 0 (Q r) (Px c0 63 []) (s1 p1) := by
 unfold j1 at H
 refine Ra ?_
 exact Le H
noncomputable def f (k : Nat) (a1 : T4414.T) : Option R :=
 (f_ref05_May.f k a1).bind fun y1 =>
  if (!y1.1) = true then
   some ([], ((1 : Int), ()))
  else
   (f_ref02_PutAllO.f k [a1.1, a1.2.1, a1.2.2.1, a1.2.2.2.1] [1, 3, 3, 2]).bind fun y4 =>
    if (a1.1 == (2 : Int)) = true then
     (f_ref04_Put.f k a1.2.2.2.2).bind fun y7 =>
      if (y4.1.length + y7.1.length) * 1 ≤ 140737488355328 then
       j1 k (y4.1 ++ y7.1)
      else none
    else
     j1 k y4.1
noncomputable def S : Spec := ⟨ps, rs, .any, none, fun x r => ∃ k, f k x.1 = some r⟩
theorem rl {k a1 r} (e : f k a1 = some r) : S.rel (a1, ()) r := ⟨k, e⟩
theorem f_ok {r k a1} (H : f k a1 = some r) : Gw P 0 (Q r) (Px c0 1 []) (⟨40, [(0, .cv (.agg (encC .any T4414 a1)))], []⟩) := by
 unfold f at H
 refine Rg V_ok 1 [(0, hb 0)] az ?_
 obtain ⟨y1, e2, H⟩ := of_bind H
 refine Rg V_ok 0 [(1, hr f_ref05_May.S y1)] (ac (f_ref05_May.rl e2) az) ?_
 refine Ra ?_
 rcases of_ite H with ⟨hb3, H⟩ | ⟨hb3, H⟩
 ·refine C1 hb3 ?_
  refine Ra ?_
  exact Le H
 ·refine C0 hb3 ?_
  obtain ⟨y4, e5, H⟩ := of_bind H
  refine Rg V_ok 1 [(10, {sb := 1, res := some ⟨f_ref02_PutAllO.S.rs, y4⟩})] (ac (f_ref02_PutAllO.rl e5) az) ?_
  refine Ra ?_
  rcases of_ite H with ⟨hb6, H⟩ | ⟨hb6, H⟩
  ·refine C1 hb6 ?_
   obtain ⟨y7, e8, H⟩ := of_bind H
   refine Rg V_ok 0 [(2, hr f_ref04_Put.S y7)] (ac (f_ref04_Put.rl e8) az) ?_
   obtain ⟨n9, H⟩ := of_if H
   refine Rg V_ok 1 [(2, hb 2)] (ac n9 az) ?_
   exact Jm (tl [5] [2]) (j1_ok H)
  ·refine C0 hb6 ?_
   exact Jm (tl [5] [1]) (j1_ok H)
theorem fits : Fits P 108 S := fitsA V_ok func108 fun x r ⟨k, H⟩ => of_G (f_ok H)
end f_ref05_Put

namespace f_ref02_Sum
noncomputable def c0 : Code := bo f89
abbrev ps : Sg := [(false, (.slice (.int .u8)))]
abbrev rs : Sg := [(false, (.int .i64))]
noncomputable def V : Env := eV []
theorem V_ok : EnvOk P V := eOk (slk_nil)
abbrev R := Tup rs
noncomputable abbrev Q (r : R) : Exit → St → Prop := Qr tt f89.results ⟨ps, rs, .any, none, fun _ _ => True⟩ r
noncomputable def s1 (p1 : List Int) (p2 p3 : Int) : St := ⟨38, [(0, .cv (.one (.sl (.int .u8) p1 .any))), (3, .cv (.one (.i p2))), (4, .cv (.one (.i p3)))], []⟩
noncomputable def s2 (p1 : List Int) (p2 p3 : Int) : St := ⟨38, [(0, .cv (.one (.sl (.int .u8) p1 .any))), (3, .cv (.one (.i p2))), (4, .cv (.one (.i p3)))], []⟩
noncomputable def j2 (L1 : List Int → Int → Int → Option R) (k : Nat) (p1 : List Int) (p2 p3 : Int) : Option R :=
 L1 p1 p2 (IntKind.i64.wrap (p3 + 1))
theorem j2_ok {r} {L1 : List Int → Int → Int → Option R} {m1 : Nat} (hL1 : ∀ p1 p2 p3, L1 p1 p2 p3 = some r → Gw P 0 (Q r) (Pb c0 43 [] m1) (s1 p1 p2 p3)) {k p1 p2 p3} (H : j2 L1 k p1 p2 p3 = some r) : Gw P 0 (Q r) (Px c0 459 [m1]) (s2 p1 p2 p3) := by
 unfold j2 at H
 refine Ra ?_
 exact Jm (tn [0, 3, 4] 0) (hL1 p1 p2 (IntKind.i64.wrap (p3 + 1)) H)
noncomputable def s3 (p1 : Int) : St := ⟨38, [(3, .cv (.one (.i p1)))], []⟩
noncomputable def b3 (L3 : Int → Option R) (k : Nat) (p1 : Int) : Option R :=
 if (decide (p1 > (65535 : Int))) = true then
 L3 (IntKind.i64.wrap ((IntKind.i64.wrap (Int.tdiv p1 65536)) + (Int.tmod p1 65536)))
else
 some ((IntKind.i64.wrap (65535 - p1)), ())
theorem b3_ok {r} {L3 : Int → Option R} {m3 : Nat} (hL3 : ∀ p1, L3 p1 = some r → Gw P 0 (Q r) (Pb c0 39 [] m3) (s3 p1)) {k p1} (H : b3 L3 k p1 = some r) : Gw P 0 (Q r) (Px c0 71 [m3]) (s3 p1) := by
 unfold b3 at H
 refine Ra ?_
 rcases of_ite H with ⟨hb7, H⟩ | ⟨hb7, H⟩
 ·refine C1 hb7 ?_
  refine Rg V_ok 0 [] (ac (show (65536 : Int) ≠ 0 by decide) (ac (show (65536 : Int) ≠ 0 by decide) az)) ?_
  exact Jm (tn [3] 0) (hL3 (IntKind.i64.wrap ((IntKind.i64.wrap (Int.tdiv p1 65536)) + (Int.tmod p1 65536))) H)
 ·refine C0 hb7 ?_
  refine Ra ?_
  exact Le H
noncomputable def l3 (k : Nat) : Nat → Int → Option R
 | 0, _ => none
 | m + 1, p1 => b3 (l3 k m) k p1
theorem l3_ok {r} (k : Nat) : ∀ (m3 : Nat) (p1 : Int), l3 k m3 p1 = some r → Gw P 0 (Q r) (Pb c0 39 [] m3) (s3 p1)
 | 0, _, H => by cases H
 | m3 + 1, p1, H => SU (by kernel_rfl) (b3_ok (l3_ok k m3) H)
noncomputable def b1 (L1 : List Int → Int → Int → Option R) (k : Nat) (p1 : List Int) (p2 p3 : Int) : Option R :=
 if (decide (p3 < (p1.length : Int))) = true then
 if ((Int.tmod p3 2) == (0 : Int)) = true then
  if 0 ≤ p3 then
   if p3 < (p1.length : Int) then
    j2 L1 k p1 (IntKind.i64.wrap (p2 + (IntKind.i64.wrap (256 * (IntKind.i64.wrap (att (.int .u8) p1 p3)))))) p3
   else none
  else none
 else
  if 0 ≤ p3 then
   if p3 < (p1.length : Int) then
    j2 L1 k p1 (IntKind.i64.wrap (p2 + (IntKind.i64.wrap (att (.int .u8) p1 p3)))) p3
   else none
  else none
else
 l3 k k p2
theorem b1_ok {r} {L1 : List Int → Int → Int → Option R} {m1 : Nat} (hL1 : ∀ p1 p2 p3, L1 p1 p2 p3 = some r → Gw P 0 (Q r) (Pb c0 43 [] m1) (s1 p1 p2 p3)) {k p1 p2 p3} (H : b1 L1 k p1 p2 p3 = some r) : Gw P 0 (Q r) (Px c0 75 [m1]) (s1 p1 p2 p3) := by
 unfold b1 at H
 refine Ra ?_
 rcases of_ite H with ⟨hb1, H⟩ | ⟨hb1, H⟩
 ·refine C1 hb1 ?_
  refine Rg V_ok 0 [] (ac (show (2 : Int) ≠ 0 by decide) az) ?_
  rcases of_ite H with ⟨hb2, H⟩ | ⟨hb2, H⟩
  ·refine C1 hb2 ?_
   obtain ⟨n3, H⟩ := of_if H
   obtain ⟨n4, H⟩ := of_if H
   refine Rg V_ok 0 [] (ac n3 (ac n4 az)) ?_
   exact Jm (tn [0, 3, 4] 0) (j2_ok hL1 H)
  ·refine C0 hb2 ?_
   obtain ⟨n5, H⟩ := of_if H
   obtain ⟨n6, H⟩ := of_if H
   refine Rg V_ok 0 [] (ac n5 (ac n6 az)) ?_
   exact Jm (tn [0, 3, 4] 0) (j2_ok hL1 H)
 ·refine C0 hb1 ?_
  exact LP k (Jm (tn [3] 0) (l3_ok k k p2 H))
noncomputable def l1 (k : Nat) : Nat → List Int → Int → Int → Option R
 | 0, _, _, _ => none
 | m + 1, p1, p2, p3 => b1 (l1 k m) k p1 p2 p3
theorem l1_ok {r} (k : Nat) : ∀ (m1 : Nat) (p1 : List Int) (p2 : Int) (p3 : Int), l1 k m1 p1 p2 p3 = some r → Gw P 0 (Q r) (Pb c0 43 [] m1) (s1 p1 p2 p3)
 | 0, _, _, _, H => by cases H
 | m1 + 1, p1, p2, p3, H => SU (by kernel_rfl) (b1_ok (l1_ok k m1) H)
noncomputable def f (k : Nat) (a1 : List Int) : Option R :=
 l1 k k a1 0 0
noncomputable def S : Spec := ⟨ps, rs, .any, none, fun x r => ∃ k, f k x.1 = some r⟩
theorem rl {k a1 r} (e : f k a1 = some r) : S.rel (a1, ()) r := ⟨k, e⟩
theorem f_ok {r k a1} (H : f k a1 = some r) : Gw P 0 (Q r) (Px c0 1 []) (⟨38, [(0, .cv (.one (.sl (.int .u8) a1 .any)))], []⟩) := by
 unfold f at H
 refine Ra ?_
 refine Ra ?_
 refine Ra ?_
 exact LP k (Jm (tn [0, 3, 4] 0) (l1_ok k k a1 0 0 H))
theorem fits : Fits P 89 S := fitsA V_ok func89 fun x r ⟨k, H⟩ => of_G (f_ok H)
end f_ref02_Sum

namespace f_ref06_Seal
noncomputable def c0 : Code := bo f58
abbrev ps : Sg := [(true, T4414)]
abbrev rs : Sg := [(false, (.slice (.int .u8))), (false, (.int .i64))]
noncomputable def V : Env := eV [(89, f_ref02_Sum.S), (108, f_ref05_Put.S), (109, f_ref02_Put.S)]
theorem V_ok : EnvOk P V := eOk (slk_cons f_ref02_Sum.fits (slk_cons f_ref05_Put.fits (slk_cons f_ref02_Put.fits (slk_nil))))
abbrev R := Tup rs
noncomputable abbrev Q (r : R) : Exit → St → Prop := Qr tt f58.results ⟨ps, rs, .any, none, fun _ _ => True⟩ r
noncomputable def s1 (p1 : List Int) : St := ⟨40, [(6, .cv (.one (.own 0)))], [(.buf 5 (.int .u8) p1, [])]⟩
noncomputable def j1 (k : Nat) (p1 : List Int) : Option R :=
 (f_ref02_Sum.f k p1).bind fun y8 =>
 (f_ref02_Put.f k y8.1 (2 : Int)).bind fun y9 =>
  if (p1.length + y9.1.length) * 1 ≤ 140737488355328 then
   some ((p1 ++ y9.1), ((0 : Int), ()))
  else none
theorem j1_ok {r} {k p1} (H : j1 k p1 = some r) : Gw P 0 (Q r) (Px c0 127 []) (s1 p1) := by
 unfold j1 at H
 obtain ⟨y8, e10, H⟩ := of_bind H
 obtain ⟨y9, e11, H⟩ := of_bind H
 refine Rg V_ok 0 [(1, hr f_ref02_Sum.S y8), (2, hr f_ref02_Put.S y9)] (ac (f_ref02_Sum.rl e10) (ac (f_ref02_Put.rl e11) az)) ?_
 obtain ⟨n12, H⟩ := of_if H
 refine Rg V_ok 1 [(2, hb 1)] (ac n12 az) ?_
 exact Le H
noncomputable def f (k : Nat) (a1 : T4414.T) : Option R :=
 (f_ref05_Put.f k a1).bind fun y1 =>
  if (y1.2.1 != (0 : Int)) = true then
   some ([], (y1.2.1, ()))
  else
   if (2 + y1.1.length) * 1 ≤ 140737488355328 then
    if 2 = 0 ∨ 0 < y1.1.length then
     if ((Int.tmod (y1.1.length : Int) 2) == (1 : Int)) = true then
      if (([197, (IntKind.u8.wrap (y1.1.length : Int))] ++ y1.1).length + 1) * 1 ≤ 140737488355328 then
       j1 k (([197, (IntKind.u8.wrap (y1.1.length : Int))] ++ y1.1) ++ [0])
      else none
     else
      j1 k ([197, (IntKind.u8.wrap (y1.1.length : Int))] ++ y1.1)
    else none
   else none
noncomputable def S : Spec := ⟨ps, rs, .any, none, fun x r => ∃ k, f k x.1 = some r⟩
theorem rl {k a1 r} (e : f k a1 = some r) : S.rel (a1, ()) r := ⟨k, e⟩
theorem f_ok {r k a1} (H : f k a1 = some r) : Gw P 0 (Q r) (Px c0 1 []) (⟨40, [(0, .cv (.agg (encC .any T4414 a1)))], []⟩) := by
 unfold f at H
 refine Rg V_ok 1 [(0, hb 0)] az ?_
 obtain ⟨y1, e2, H⟩ := of_bind H
 refine Rg V_ok 0 [(1, hr f_ref05_Put.S y1)] (ac (f_ref05_Put.rl e2) az) ?_
 refine Ra ?_
 rcases of_ite H with ⟨hb3, H⟩ | ⟨hb3, H⟩
 ·refine C1 hb3 ?_
  refine Ra ?_
  exact Le H
 ·refine C0 hb3 ?_
  refine Ra ?_
  obtain ⟨n4, H⟩ := of_if H
  obtain ⟨n5, H⟩ := of_if H
  refine Rg V_ok 1 [(2, hb 1)] (ac n4 (ac n5 az)) ?_
  refine Rg V_ok 0 [] (ac (show (2 : Int) ≠ 0 by decide) az) ?_
  rcases of_ite H with ⟨hb6, H⟩ | ⟨hb6, H⟩
  ·refine C1 hb6 ?_
   obtain ⟨n7, H⟩ := of_if H
   refine Rg V_ok 1 [(2, hb 2)] (ac n7 az) ?_
   exact Jm (tl [6] [2]) (j1_ok H)
  ·refine C0 hb6 ?_
   exact Jm (tl [6] [1]) (j1_ok H)
theorem fits : Fits P 58 S := fitsA V_ok func58 fun x r ⟨k, H⟩ => of_G (f_ok H)
end f_ref06_Seal

namespace f_ref21_Sends
noncomputable def c0 : Code := bo f21
abbrev ps : Sg := [(true, T26b3)]
abbrev rs : Sg := [(false, (.slice T2b36))]
noncomputable def V : Env := eV [(36, f_ref21_May.S), (57, f_ref15_First.S), (58, f_ref06_Seal.S)]
theorem V_ok : EnvOk P V := eOk (slk_cons f_ref21_May.fits (slk_cons f_ref15_First.fits (slk_cons f_ref06_Seal.fits (slk_nil))))
abbrev R := Tup rs
noncomputable abbrev Q (r : R) : Exit → St → Prop := Qr tt f21.results ⟨ps, rs, .any, none, fun _ _ => True⟩ r
noncomputable def s1 (a1 : T26b3.T) (p1 : Int) (p3 : List T2b36.T) : St := ⟨60, [(1, .cv (.one (.ptr 0 0))), (4, .cv (.one (.own 1))), (5, .cv (.one (.i p1)))], [(.box 13, (encC .any T26b3 a1)), (.buf 74 T2b36 p3, [])]⟩
noncomputable def s2 (a1 : T26b3.T) (p1 : Int) (p2 : List T4414.T) (p3 : Int) (p5 : List T2b36.T) : St := ⟨60, [(1, .cv (.one (.ptr 0 0))), (4, .cv (.one (.own 1))), (5, .cv (.one (.i p1))), (6, .cv (.one (.sl T4414 p2 .any))), (7, .cv (.one (.i p3)))], [(.box 13, (encC .any T26b3 a1)), (.buf 74 T2b36 p5, [])]⟩
noncomputable def s4 (a1 : T26b3.T) (p1 : Int) (p2 : List T4414.T) (p3 : Int) (p4 : Bool) (p6 : List T2b36.T) : St := ⟨60, [(1, .cv (.one (.ptr 0 0))), (4, .cv (.one (.own 1))), (5, .cv (.one (.i p1))), (6, .cv (.one (.sl T4414 p2 .any))), (7, .cv (.one (.i p3))), (40, .cv (.one (.bool p4)))], [(.box 13, (encC .any T26b3 a1)), (.buf 74 T2b36 p6, [])]⟩
noncomputable def s3 (a1 : T26b3.T) (p1 : Int) (p2 : List T4414.T) (p3 : Int) (p5 : List T2b36.T) : St := ⟨60, [(1, .cv (.one (.ptr 0 0))), (4, .cv (.one (.own 1))), (5, .cv (.one (.i p1))), (6, .cv (.one (.sl T4414 p2 .any))), (7, .cv (.one (.i p3)))], [(.box 13, (encC .any T26b3 a1)), (.buf 74 T2b36 p5, [])]⟩
noncomputable def j3 (a1 : T26b3.T) (L1 : Int → List T2b36.T → Option R) (L2 : Int → List T4414.T → Int → List T2b36.T → Option R) (k : Nat) (p1 : Int) (p2 : List T4414.T) (p3 : Int) (p5 : List T2b36.T) : Option R :=
 L2 p1 p2 (IntKind.i64.wrap (p3 + 1)) p5
theorem j3_ok {r a1} {L1 : Int → List T2b36.T → Option R} {m1 : Nat} (hL1 : ∀ p1 p3, L1 p1 p3 = some r → Gw P 0 (Q r) (Pb c0 175 [] m1) (s1 a1 p1 p3)) {L2 : Int → List T4414.T → Int → List T2b36.T → Option R} {m2 : Nat} (hL2 : ∀ p1 p2 p3 p5, L2 p1 p2 p3 p5 = some r → Gw P 0 (Q r) (Pb c0 22831 [m1] m2) (s2 a1 p1 p2 p3 p5)) {k p1 p2 p3 p5} (H : j3 a1 L1 L2 k p1 p2 p3 p5 = some r) : Gw P 0 (Q r) (Px c0 235823 [m1, m2]) (s3 a1 p1 p2 p3 p5) := by
 unfold j3 at H
 refine Ra ?_
 exact Jm (tn [1, 4, 5, 6, 7] 2) (hL2 p1 p2 (IntKind.i64.wrap (p3 + 1)) p5 H)
noncomputable def j4 (a1 : T26b3.T) (L1 : Int → List T2b36.T → Option R) (L2 : Int → List T4414.T → Int → List T2b36.T → Option R) (k : Nat) (p1 : Int) (p2 : List T4414.T) (p3 : Int) (p4 : Bool) (p6 : List T2b36.T) : Option R :=
 if p4 = true then
 if 0 ≤ p3 then
  if p3 < (p2.length : Int) then
   (f_ref06_Seal.f k (att T4414 p2 p3)).bind fun y13 =>
    if (y13.2.1 == (0 : Int)) = true then
     if (p6.length + 1) * 40 ≤ 140737488355328 then
      j3 a1 L1 L2 k p1 p2 p3 (p6 ++ [(p1, (false, y13.1))])
     else none
    else
     j3 a1 L1 L2 k p1 p2 p3 p6
  else none
 else none
else
 L1 (IntKind.i64.wrap (p1 + 1)) p6
theorem j4_ok {r a1} {L1 : Int → List T2b36.T → Option R} {m1 : Nat} (hL1 : ∀ p1 p3, L1 p1 p3 = some r → Gw P 0 (Q r) (Pb c0 175 [] m1) (s1 a1 p1 p3)) {L2 : Int → List T4414.T → Int → List T2b36.T → Option R} {m2 : Nat} (hL2 : ∀ p1 p2 p3 p5, L2 p1 p2 p3 p5 = some r → Gw P 0 (Q r) (Pb c0 22831 [m1] m2) (s2 a1 p1 p2 p3 p5)) {k p1 p2 p3 p4 p6} (H : j4 a1 L1 L2 k p1 p2 p3 p4 p6 = some r) : Gw P 0 (Q r) (Px c0 203055 [m1, m2]) (s4 a1 p1 p2 p3 p4 p6) := by
 unfold j4 at H
 rcases of_ite H with ⟨hb12, H⟩ | ⟨hb12, H⟩
 ·refine C1 hb12 ?_
  obtain ⟨n14, H⟩ := of_if H
  obtain ⟨n15, H⟩ := of_if H
  obtain ⟨y13, e16, H⟩ := of_bind H
  refine Rg V_ok 0 [(4, hr f_ref06_Seal.S y13)] (ac n14 (ac n15 (ac (f_ref06_Seal.rl e16) az))) ?_
  refine Ra ?_
  rcases of_ite H with ⟨hb17, H⟩ | ⟨hb17, H⟩
  ·refine C1 hb17 ?_
   obtain ⟨n18, H⟩ := of_if H
   refine Rg V_ok 1 [(5, hb 2)] (ac n18 az) ?_
   exact Jm (tl [1, 4, 5, 6, 7] [0, 2]) (j3_ok hL1 hL2 H)
  ·refine C0 hb17 ?_
   exact Jm (tn [1, 4, 5, 6, 7] 2) (j3_ok hL1 hL2 H)
 ·refine C0 hb12 ?_
  refine Ra ?_
  exact Jm (tn [1, 4, 5] 2) (hL1 (IntKind.i64.wrap (p1 + 1)) p6 H)
noncomputable def b2 (a1 : T26b3.T) (L1 : Int → List T2b36.T → Option R) (L2 : Int → List T4414.T → Int → List T2b36.T → Option R) (k : Nat) (p1 : Int) (p2 : List T4414.T) (p3 : Int) (p5 : List T2b36.T) : Option R :=
 if (decide (p3 < (p2.length : Int))) = true then
 if 0 ≤ p1 then
  if p1 < (a1.2.2.2.2.2.2.2.2.1.length : Int) then
   j4 a1 L1 L2 k p1 p2 p3 (decide (((att T23b6 a1.2.2.2.2.2.2.2.2.1 p1).1) > (0 : Int))) p5
  else none
 else none
else
 j4 a1 L1 L2 k p1 p2 p3 false p5
theorem b2_ok {r a1} {L1 : Int → List T2b36.T → Option R} {m1 : Nat} (hL1 : ∀ p1 p3, L1 p1 p3 = some r → Gw P 0 (Q r) (Pb c0 175 [] m1) (s1 a1 p1 p3)) {L2 : Int → List T4414.T → Int → List T2b36.T → Option R} {m2 : Nat} (hL2 : ∀ p1 p2 p3 p5, L2 p1 p2 p3 p5 = some r → Gw P 0 (Q r) (Pb c0 22831 [m1] m2) (s2 a1 p1 p2 p3 p5)) {k p1 p2 p3 p5} (H : b2 a1 L1 L2 k p1 p2 p3 p5 = some r) : Gw P 0 (Q r) (Px c0 39215 [m1, m2]) (s2 a1 p1 p2 p3 p5) := by
 unfold b2 at H
 rcases of_ite H with ⟨hb9, H⟩ | ⟨hb9, H⟩
 ·obtain ⟨n10, H⟩ := of_if H
  obtain ⟨n11, H⟩ := of_if H
  refine Rg V_ok 0 [(3, {bv := some true})] (ac hb9 (ac n10 (ac n11 az))) ?_
  exact Jm (tn [1, 4, 5, 6, 7, 40] 2) (j4_ok hL1 hL2 H)
 ·refine Rg V_ok 0 [(3, {bv := some false})] (ac hb9 az) ?_
  exact Jm (tn [1, 4, 5, 6, 7, 40] 2) (j4_ok hL1 hL2 H)
noncomputable def l2 (a1 : T26b3.T) (L1 : Int → List T2b36.T → Option R) (k : Nat) : Nat → Int → List T4414.T → Int → List T2b36.T → Option R
 | 0, _, _, _, _ => none
 | m + 1, p1, p2, p3, p5 => b2 a1 L1 (l2 a1 L1 k m) k p1 p2 p3 p5
theorem l2_ok {r a1} {L1 : Int → List T2b36.T → Option R} {m1 : Nat} (hL1 : ∀ p1 p3, L1 p1 p3 = some r → Gw P 0 (Q r) (Pb c0 175 [] m1) (s1 a1 p1 p3)) (k : Nat) : ∀ (m2 : Nat) (p1 : Int) (p2 : List T4414.T) (p3 : Int) (p5 : List T2b36.T), l2 a1 L1 k m2 p1 p2 p3 p5 = some r → Gw P 0 (Q r) (Pb c0 22831 [m1] m2) (s2 a1 p1 p2 p3 p5)
 | 0, _, _, _, _, H => by cases H
 | m2 + 1, p1, p2, p3, p5, H => SU (by kernel_rfl) (b2_ok hL1 (l2_ok hL1 k m2) H)
noncomputable def b1 (a1 : T26b3.T) (L1 : Int → List T2b36.T → Option R) (k : Nat) (p1 : Int) (p3 : List T2b36.T) : Option R :=
 if (decide (p1 < (a1.2.2.2.2.2.2.2.2.1.length : Int))) = true then
 if 0 ≤ p1 then
  if p1 < (a1.2.2.2.2.2.2.2.2.1.length : Int) then
   (f_ref15_First.f k (((att T23b6 a1.2.2.2.2.2.2.2.2.1 p1).2).2) (2 : Int)).bind fun y5 =>
    l2 a1 L1 k k p1 y5.1 0 p3
  else none
 else none
else
 some (p3, ())
theorem b1_ok {r a1} {L1 : Int → List T2b36.T → Option R} {m1 : Nat} (hL1 : ∀ p1 p3, L1 p1 p3 = some r → Gw P 0 (Q r) (Pb c0 175 [] m1) (s1 a1 p1 p3)) {k p1 p3} (H : b1 a1 L1 k p1 p3 = some r) : Gw P 0 (Q r) (Px c0 303 [m1]) (s1 a1 p1 p3) := by
 unfold b1 at H
 refine Ra ?_
 rcases of_ite H with ⟨hb4, H⟩ | ⟨hb4, H⟩
 ·refine C1 hb4 ?_
  obtain ⟨n6, H⟩ := of_if H
  obtain ⟨n7, H⟩ := of_if H
  obtain ⟨y5, e8, H⟩ := of_bind H
  refine Rg V_ok 0 [(6, hr f_ref15_First.S y5)] (ac n6 (ac n7 (ac (f_ref15_First.rl e8) az))) ?_
  refine Ra ?_
  exact LP k (Jm (tn [1, 4, 5, 6, 7] 2) (l2_ok hL1 k k p1 y5.1 0 p3 H))
 ·refine C0 hb4 ?_
  refine Ra ?_
  exact Le H
noncomputable def l1 (a1 : T26b3.T) (k : Nat) : Nat → Int → List T2b36.T → Option R
 | 0, _, _ => none
 | m + 1, p1, p3 => b1 a1 (l1 a1 k m) k p1 p3
theorem l1_ok {r a1} (k : Nat) : ∀ (m1 : Nat) (p1 : Int) (p3 : List T2b36.T), l1 a1 k m1 p1 p3 = some r → Gw P 0 (Q r) (Pb c0 175 [] m1) (s1 a1 p1 p3)
 | 0, _, _, H => by cases H
 | m1 + 1, p1, p3, H => SU (by kernel_rfl) (b1_ok (l1_ok k m1) H)
noncomputable def f (k : Nat) (a1 : T26b3.T) : Option R :=
 (f_ref21_May.f k a1).bind fun y1 =>
  if (!y1.1) = true then
   some ([], ())
  else
   l1 a1 k k 0 []
noncomputable def S : Spec := ⟨ps, rs, .any, none, fun x r => ∃ k, f k x.1 = some r⟩
theorem rl {k a1 r} (e : f k a1 = some r) : S.rel (a1, ()) r := ⟨k, e⟩
theorem f_ok {r k a1} (H : f k a1 = some r) : Gw P 0 (Q r) (Px c0 1 []) (⟨60, [(0, .cv (.agg (encC .any T26b3 a1)))], []⟩) := by
 unfold f at H
 refine Rg V_ok 1 [(0, hb 0)] az ?_
 obtain ⟨y1, e2, H⟩ := of_bind H
 refine Rg V_ok 0 [(1, hr f_ref21_May.S y1)] (ac (f_ref21_May.rl e2) az) ?_
 refine Ra ?_
 rcases of_ite H with ⟨hb3, H⟩ | ⟨hb3, H⟩
 ·refine C1 hb3 ?_
  refine Ra ?_
  exact Le H
 ·refine C0 hb3 ?_
  refine Ra ?_
  refine Ra ?_
  exact LP k (Jm {fz := [], gr := 1, ad := [.ownT 4 1 74 T2b36], live := [1, 4, 5], src := [some 0, some 1]} (l1_ok k k 0 [] H))
theorem fits : Fits P 21 S := fitsA V_ok func21 fun x r ⟨k, H⟩ => of_G (f_ok H)
end f_ref21_Sends

namespace f_ref14_One
noncomputable def c0 : Code := bo f55
abbrev ps : Sg := [(true, T2b36), (true, T2b36)]
abbrev rs : Sg := [(false, .bool)]
noncomputable def V : Env := eV []
theorem V_ok : EnvOk P V := eOk (slk_nil)
abbrev R := Tup rs
noncomputable abbrev Q (r : R) : Exit → St → Prop := Qr tt f55.results ⟨ps, rs, .any, none, fun _ _ => True⟩ r
noncomputable def f (k : Nat) (a1 a2 : T2b36.T) : Option R :=
 if (a1.1 == a2.1) = true then
  if ((a1.2.1 == a2.2.1) && true) = true then
   some ((strEq a1.2.2 a2.2.2), ())
  else
   some (false, ())
 else
  some (false, ())
noncomputable def S : Spec := ⟨ps, rs, .any, none, fun x r => ∃ k, f k x.1 x.2.1 = some r⟩
theorem rl {k a1 a2 r} (e : f k a1 a2 = some r) : S.rel (a1, a2, ()) r := ⟨k, e⟩
theorem f_ok {r k a1 a2} (H : f k a1 a2 = some r) : Gw P 0 (Q r) (Px c0 1 []) (⟨26, [(0, .cv (.agg (encC .any T2b36 a1))), (1, .cv (.agg (encC .any T2b36 a2)))], []⟩) := by
 unfold f at H
 refine Rg V_ok 2 [(0, hb 0), (1, hb 1)] az ?_
 rcases of_ite H with ⟨hb1, H⟩ | ⟨hb1, H⟩
 ·rcases of_ite H with ⟨hb2, H⟩ | ⟨hb2, H⟩
  ·refine Rg V_ok 0 [(4, {bv := some true}), (11, {bv := some true})] (ac hb1 (ac hb2 az)) ?_
   exact Le H
  ·refine Rg V_ok 0 [(4, {bv := some true}), (11, {bv := some false})] (ac hb1 (ac hb2 az)) ?_
   exact Le H
 ·refine Rg V_ok 0 [(4, {bv := some false})] (ac hb1 az) ?_
  exact Le H
theorem fits : Fits P 55 S := fitsA V_ok func55 fun x r ⟨k, H⟩ => of_G (f_ok H)
end f_ref14_One

namespace f_ref14_Same
noncomputable def c0 : Code := bo f19
abbrev ps : Sg := [(false, (.slice T2b36)), (false, (.slice T2b36))]
abbrev rs : Sg := [(false, .bool)]
noncomputable def V : Env := eV [(55, f_ref14_One.S)]
theorem V_ok : EnvOk P V := eOk (slk_cons f_ref14_One.fits (slk_nil))
abbrev R := Tup rs
noncomputable abbrev Q (r : R) : Exit → St → Prop := Qr tt f19.results ⟨ps, rs, .any, none, fun _ _ => True⟩ r
noncomputable def s1 (p1 p2 : List T2b36.T) (p3 : Int) : St := ⟨29, [(0, .cv (.one (.sl T2b36 p1 .any))), (1, .cv (.one (.sl T2b36 p2 .any))), (5, .cv (.one (.i p3)))], []⟩
noncomputable def b1 (L1 : List T2b36.T → List T2b36.T → Int → Option R) (k : Nat) (p1 p2 : List T2b36.T) (p3 : Int) : Option R :=
 if (decide (p3 < (p1.length : Int))) = true then
 if 0 ≤ p3 then
  if p3 < (p1.length : Int) then
   if p3 < (p2.length : Int) then
    (f_ref14_One.f k (att T2b36 p1 p3) (att T2b36 p2 p3)).bind fun y3 =>
     if (!y3.1) = true then
      some (false, ())
     else
      L1 p1 p2 (IntKind.i64.wrap (p3 + 1))
   else none
  else none
 else none
else
 some (true, ())
theorem b1_ok {r} {L1 : List T2b36.T → List T2b36.T → Int → Option R} {m1 : Nat} (hL1 : ∀ p1 p2 p3, L1 p1 p2 p3 = some r → Gw P 0 (Q r) (Pb c0 43 [] m1) (s1 p1 p2 p3)) {k p1 p2 p3} (H : b1 L1 k p1 p2 p3 = some r) : Gw P 0 (Q r) (Px c0 75 [m1]) (s1 p1 p2 p3) := by
 unfold b1 at H
 refine Ra ?_
 rcases of_ite H with ⟨hb2, H⟩ | ⟨hb2, H⟩
 ·refine C1 hb2 ?_
  obtain ⟨n4, H⟩ := of_if H
  obtain ⟨n5, H⟩ := of_if H
  obtain ⟨n6, H⟩ := of_if H
  obtain ⟨y3, e7, H⟩ := of_bind H
  refine Rg V_ok 0 [(8, hr f_ref14_One.S y3)] (ac n4 (ac n5 (ac n4 (ac n6 (ac (f_ref14_One.rl e7) az))))) ?_
  refine Ra ?_
  rcases of_ite H with ⟨hb8, H⟩ | ⟨hb8, H⟩
  ·refine C1 hb8 ?_
   refine Ra ?_
   exact Le H
  ·refine C0 hb8 ?_
   refine Ra ?_
   exact Jm (tn [0, 1, 5] 0) (hL1 p1 p2 (IntKind.i64.wrap (p3 + 1)) H)
 ·refine C0 hb2 ?_
  refine Ra ?_
  exact Le H
noncomputable def l1 (k : Nat) : Nat → List T2b36.T → List T2b36.T → Int → Option R
 | 0, _, _, _ => none
 | m + 1, p1, p2, p3 => b1 (l1 k m) k p1 p2 p3
theorem l1_ok {r} (k : Nat) : ∀ (m1 : Nat) (p1 p2 : List T2b36.T) (p3 : Int), l1 k m1 p1 p2 p3 = some r → Gw P 0 (Q r) (Pb c0 43 [] m1) (s1 p1 p2 p3)
 | 0, _, _, _, H => by cases H
 | m1 + 1, p1, p2, p3, H => SU (by kernel_rfl) (b1_ok (l1_ok k m1) H)
noncomputable def f (k : Nat) (a1 a2 : List T2b36.T) : Option R :=
 if ((a1.length : Int) != (a2.length : Int)) = true then
  some (false, ())
 else
  l1 k k a1 a2 0
noncomputable def S : Spec := ⟨ps, rs, .any, none, fun x r => ∃ k, f k x.1 x.2.1 = some r⟩
theorem rl {k a1 a2 r} (e : f k a1 a2 = some r) : S.rel (a1, a2, ()) r := ⟨k, e⟩
theorem f_ok {r k a1 a2} (H : f k a1 a2 = some r) : Gw P 0 (Q r) (Px c0 1 []) (⟨29, [(0, .cv (.one (.sl T2b36 a1 .any))), (1, .cv (.one (.sl T2b36 a2 .any)))], []⟩) := by
 unfold f at H
 refine Ra ?_
 refine Ra ?_
 rcases of_ite H with ⟨hb1, H⟩ | ⟨hb1, H⟩
 ·refine C1 hb1 ?_
  refine Ra ?_
  exact Le H
 ·refine C0 hb1 ?_
  refine Ra ?_
  exact LP k (Jm (tn [0, 1, 5] 0) (l1_ok k k a1 a2 0 H))
theorem fits : Fits P 19 S := fitsA V_ok func19 fun x r ⟨k, H⟩ => of_G (f_ok H)
end f_ref14_Same

namespace i_control_controller_two_e61
noncomputable def c0 : Code := bo f83
noncomputable def V : Env := eV [(119, f_slices_Contains_int.S)]
theorem V_ok : EnvOk P V := eOk (slk_cons f_slices_Contains_int.fits (slk_nil))
variable (x1 : T26b3.T)
abbrev R := (Bool) × Unit
noncomputable def s0 : St := ⟨10, [(0, .cv (.one (.ptr 0 0)))], [(.box 13, (encC .any T26b3 x1)), (.box 1, [.ptr 0 0])]⟩
noncomputable def out (r : R) : St := ⟨10, [(2, .cv (.one (.bool r.1)))], [(.box 13, (encC .any T26b3 x1)), (.box 1, [.ptr 0 0])]⟩
abbrev Q (r : R) := CallQ 2 (out x1 r)
noncomputable def f (k : Nat) (x1 : T26b3.T) : Option R :=
 (f_slices_Contains_int.f k [1, 2, 3] x1.2.2.2.2.2.1).bind fun y1 =>
  some (y1.1, ())
theorem f_ok {r k x1} (H : f k x1 = some r) : Gw P 2 (Q x1 r) (Px c0 1 []) (s0 x1) := by
 unfold f at H
 refine Ra ?_
 obtain ⟨y1, e2, H⟩ := of_bind H
 refine Rg V_ok 0 [(6, hr f_slices_Contains_int.S y1)] (ac (f_slices_Contains_int.rl e2) az) ?_
 obtain rfl := Option.some.inj H
 exact Lq (tn [2] 2)
theorem at_ : FnAt P 83 10 c0 f83.results := fnA func83
end i_control_controller_two_e61
namespace i_control_controller_is_1_797
noncomputable def c0 : Code := bo f82
noncomputable def V : Env := eV []
theorem V_ok : EnvOk P V := eOk (slk_nil)
variable (x1 : Int) (x2 : T26b3.T)
abbrev R := (Bool) × Unit
noncomputable def s0 : St := ⟨16, [(0, .cv (.one (.i x1))), (1, .cv (.one (.ptr 1 0)))], [(.box 13, (encC .any T26b3 x2)), (.box 1, [.ptr 0 0])]⟩
noncomputable def out (r : R) : St := ⟨16, [(3, .cv (.one (.bool r.1)))], [(.box 13, (encC .any T26b3 x2)), (.box 1, [.ptr 0 0])]⟩
abbrev Q (r : R) := CallQ 2 (out x2 r)
noncomputable def f (k : Nat) (x1 : Int) (x2 : T26b3.T) : Option R :=
 if (decide (x1 < (0 : Int))) = true then
  some (true, ())
 else
  some ((decide (x1 ≥ (x2.1.length : Int))), ())
theorem f_ok {r k x1 x2} (H : f k x1 x2 = some r) : Gw P 2 (Q x2 r) (Px c0 1 []) (s0 x1 x2) := by
 unfold f at H
 refine Ra ?_
 rcases of_ite H with ⟨hb1, H⟩ | ⟨hb1, H⟩
 ·refine Rg V_ok 0 [(1, {bv := some true})] (ac hb1 az) ?_
  obtain rfl := Option.some.inj H
  exact Lq (tn [3] 2)
 ·refine Rg V_ok 0 [(1, {bv := some false})] (ac hb1 az) ?_
  obtain rfl := Option.some.inj H
  exact Lq (tn [3] 2)
theorem at_ : FnAt P 82 16 c0 f82.results := fnA func82
end i_control_controller_is_1_797
namespace i_slices_IndexFunc_int_a51
noncomputable def c0 : Code := bo f120
noncomputable def V : Env := eV []
theorem V_ok : EnvOk P V := eOk (slk_nil)
variable (x1 : List Int) (x2 : T26b3.T)
abbrev R := (Int) × Unit
noncomputable def s0 : St := ⟨19, [(0, .cv (.one (.sl (.int .i64) x1 .any))), (1, .cv (.one (.fn 82 [] [(1, 0)])))], [(.box 13, (encC .any T26b3 x2)), (.box 1, [.ptr 0 0])]⟩
noncomputable def out (r : R) : St := ⟨19, [(4, .cv (.one (.i r.1)))], [(.box 13, (encC .any T26b3 x2)), (.box 1, [.ptr 0 0])]⟩
abbrev Q (r : R) := CallQ 2 (out x2 r)
noncomputable def s1 (p2 p3 : Int) : St := ⟨19, [(0, .cv (.one (.sl (.int .i64) x1 .any))), (1, .cv (.one (.fn 82 [] [(1, 0)]))), (7, .cv (.one (.i p2))), (8, .cv (.one (.i p3)))], [(.box 13, (encC .any T26b3 x2)), (.box 1, [.ptr 0 0])]⟩
noncomputable def b1 (L1 : Int → Int → Option R) (k : Nat) (p2 p3 : Int) : Option R :=
 if (decide (p3 < p2)) = true then
 if 0 ≤ p3 then
  if p3 < (x1.length : Int) then
   (i_control_controller_is_1_797.f k (att (.int .i64) x1 p3) x2).bind fun y4 =>
    if y4.1 = true then
     some (p3, ())
    else
     L1 p2 (IntKind.i64.wrap (p3 + 1))
  else none
 else none
else
 some ((-1), ())
theorem b1_ok {r x1 x2} {L1 : Int → Int → Option R} {m1 : Nat} (hL1 : ∀ p2 p3, L1 p2 p3 = some r → Gw P 2 (Q x2 r) (Pb c0 21 [] m1) (s1 x1 x2 p2 p3)) {k p2 p3} (H : b1 x1 x2 L1 k p2 p3 = some r) : Gw P 2 (Q x2 r) (Px c0 37 [m1]) (s1 x1 x2 p2 p3) := by
 unfold b1 at H
 refine Ra ?_
 rcases of_ite H with ⟨hb1, H⟩ | ⟨hb1, H⟩
 ·refine C1 hb1 ?_
  refine Ra ?_
  refine GT (tn [0, 1, 5, 7, 8] 2) (RI ?_)
  obtain ⟨n2, H⟩ := of_if H
  obtain ⟨n3, H⟩ := of_if H
  refine EV V_ok 0 [] 5 (ac n2 (ac n3 az)) ?_
  obtain ⟨y4, e5, H⟩ := of_bind H
  refine CL V_ok i_control_controller_is_1_797.at_ (of_G (i_control_controller_is_1_797.f_ok e5)) ?_
  refine RN ?_
  rcases of_ite H with ⟨hb6, H⟩ | ⟨hb6, H⟩
  ·refine C1 hb6 ?_
   refine Ra ?_
   obtain rfl := Option.some.inj H
   exact Lq (tn [4] 2)
  ·refine C0 hb6 ?_
   refine Ra ?_
   exact Jm (tn [0, 1, 7, 8] 2) (hL1 p2 (IntKind.i64.wrap (p3 + 1)) H)
 ·refine C0 hb1 ?_
  refine Ra ?_
  obtain rfl := Option.some.inj H
  exact Lq (tn [4] 2)
noncomputable def l1 (k : Nat) : Nat → Int → Int → Option R
 | 0, _, _ => none
 | m + 1, p2, p3 => b1 x1 x2 (l1 k m) k p2 p3
theorem l1_ok {r x1 x2} (k : Nat) : ∀ (m1 : Nat) (p2 : Int) (p3 : Int), l1 x1 x2 k m1 p2 p3 = some r → Gw P 2 (Q x2 r) (Pb c0 21 [] m1) (s1 x1 x2 p2 p3)
 | 0, _, _, H => by cases H
 | m1 + 1, p2, p3, H => SU (by kernel_rfl) (b1_ok (l1_ok k m1) H)
noncomputable def f (k : Nat) (x1 : List Int) (x2 : T26b3.T) : Option R :=
 l1 x1 x2 k k (x1.length : Int) 0
theorem f_ok {r k x1 x2} (H : f k x1 x2 = some r) : Gw P 2 (Q x2 r) (Px c0 1 []) (s0 x1 x2) := by
 unfold f at H
 refine Ra ?_
 refine Ra ?_
 exact LP k (Jm (tn [0, 1, 7, 8] 2) (l1_ok k k (x1.length : Int) 0 H))
theorem at_ : FnAt P 120 19 c0 f120.results := fnA func120
end i_slices_IndexFunc_int_a51
namespace i_slices_ContainsFunc_int_a51
noncomputable def c0 : Code := bo f84
noncomputable def V : Env := eV []
theorem V_ok : EnvOk P V := eOk (slk_nil)
variable (x1 : List Int) (x2 : T26b3.T)
abbrev R := (Bool) × Unit
noncomputable def s0 : St := ⟨9, [(0, .cv (.one (.sl (.int .i64) x1 .any))), (1, .cv (.one (.fn 82 [] [(1, 0)])))], [(.box 13, (encC .any T26b3 x2)), (.box 1, [.ptr 0 0])]⟩
noncomputable def out (r : R) : St := ⟨9, [(4, .cv (.one (.bool r.1)))], [(.box 13, (encC .any T26b3 x2)), (.box 1, [.ptr 0 0])]⟩
abbrev Q (r : R) := CallQ 2 (out x2 r)
noncomputable def f (k : Nat) (x1 : List Int) (x2 : T26b3.T) : Option R :=
 (i_slices_IndexFunc_int_a51.f k x1 x2).bind fun y1 =>
  some ((decide (y1.1 ≥ (0 : Int))), ())
theorem f_ok {r k x1 x2} (H : f k x1 x2 = some r) : Gw P 2 (Q x2 r) (Px c0 1 []) (s0 x1 x2) := by
 unfold f at H
 refine Ra ?_
 refine GT (tn [0, 1] 2) (RI ?_)
 refine EV V_ok 0 [] 2 az ?_
 obtain ⟨y1, e2, H⟩ := of_bind H
 refine CL V_ok i_slices_IndexFunc_int_a51.at_ (of_G (i_slices_IndexFunc_int_a51.f_ok e2)) ?_
 refine EV V_ok 0 [] 2 az ?_
 refine RN ?_
 obtain rfl := Option.some.inj H
 exact Lq (tn [4] 2)
theorem at_ : FnAt P 84 9 c0 f84.results := fnA func84
end i_slices_ContainsFunc_int_a51
namespace i_control_controller_is_e28
noncomputable def c0 : Code := bo f33
noncomputable def V : Env := eV []
theorem V_ok : EnvOk P V := eOk (slk_nil)
variable (x1 : T26b3.T)
abbrev R := (Bool) × Unit
noncomputable def s0 : St := ⟨57, [(0, .cv (.one (.ptr 0 0)))], [(.box 13, (encC .any T26b3 x1))]⟩
noncomputable def out (r : R) : St := ⟨57, [(2, .cv (.one (.bool r.1)))], [(.box 13, (encC .any T26b3 x1))]⟩
abbrev Q (r : R) := CallQ 1 (out x1 r)
noncomputable def s1 (p1 : Bool) : St := ⟨57, [(1, .cv (.one (.ptr 1 0))), (3, .cv (.one (.fn 82 [] [(1, 0)]))), (4, .cv (.one (.bool p1)))], [(.box 13, (encC .any T26b3 x1)), (.box 1, [.ptr 0 0])]⟩
noncomputable def j1 (k : Nat) (p1 : Bool) : Option R :=
 if p1 = true then
 (i_control_controller_is_1_797.f k x1.2.1 x1).bind fun y6 =>
  if (!y6.1) = true then
   (i_slices_ContainsFunc_int_a51.f k x1.2.2.2.2.2.2.2.1 x1).bind fun y9 =>
    if (!y9.1) = true then
     some ((decide ((x1.2.2.2.2.2.2.2.2.1.length : Int) ≤ (100 : Int))), ())
    else
     some (false, ())
  else
   some (false, ())
else
 some (false, ())
theorem j1_ok {r x1} {k p1} (H : j1 x1 k p1 = some r) : Gw P 1 (Q x1 r) (Px c0 15 []) (s1 x1 p1) := by
 unfold j1 at H
 refine GT (tn [1, 3, 4] 2) (RI ?_)
 refine EV V_ok 0 [] 2 az ?_
 rcases of_ite H with ⟨hb5, H⟩ | ⟨hb5, H⟩
 ·refine FXO 28 hb5 ?_
  refine EV V_ok 0 [] 6 az ?_
  obtain ⟨y6, e7, H⟩ := of_bind H
  refine CL V_ok i_control_controller_is_1_797.at_ (of_G (i_control_controller_is_1_797.f_ok e7)) ?_
  refine EV V_ok 0 [] 3 az ?_
  rcases of_ite H with ⟨hb8, H⟩ | ⟨hb8, H⟩
  ·refine FXO 38 hb8 ?_
   refine EV V_ok 0 [] 6 az ?_
   obtain ⟨y9, e10, H⟩ := of_bind H
   refine CL V_ok i_slices_ContainsFunc_int_a51.at_ (of_G (i_slices_ContainsFunc_int_a51.f_ok e10)) ?_
   refine EV V_ok 0 [] 3 az ?_
   rcases of_ite H with ⟨hb11, H⟩ | ⟨hb11, H⟩
   ·refine FXO 48 hb11 ?_
    refine EV V_ok 0 [] 9 az ?_
    refine RN ?_
    obtain rfl := Option.some.inj H
    exact Lq (tn [2] 1)
   ·refine FXO 48 hb11 ?_
    refine EV V_ok 0 [] 9 az ?_
    refine RN ?_
    obtain rfl := Option.some.inj H
    exact Lq (tn [2] 1)
  ·refine FXO 38 hb8 ?_
   refine EV V_ok 0 [] 10 az ?_
   refine EV V_ok 0 [] 9 az ?_
   refine RN ?_
   obtain rfl := Option.some.inj H
   exact Lq (tn [2] 1)
 ·refine FXO 28 hb5 ?_
  refine EV V_ok 0 [] 10 az ?_
  refine EV V_ok 0 [] 10 az ?_
  refine EV V_ok 0 [] 9 az ?_
  refine RN ?_
  obtain rfl := Option.some.inj H
  exact Lq (tn [2] 1)
noncomputable def f (k : Nat) (x1 : T26b3.T) : Option R :=
 if (x1.2.2.1 == (-1 : Int)) = true then
  (i_control_controller_two_e61.f k x1).bind fun y2 =>
   if (!y2.1) = true then
    j1 x1 k true
   else
    (i_control_controller_is_1_797.f k x1.2.2.1 x1).bind fun y12 =>
     j1 x1 k (!y12.1)
 else
  (i_control_controller_is_1_797.f k x1.2.2.1 x1).bind fun y14 =>
   j1 x1 k (!y14.1)
theorem f_ok {r k x1} (H : f k x1 = some r) : Gw P 1 (Q x1 r) (Px c0 1 []) (s0 x1) := by
 unfold f at H
 refine Rg V_ok 1 [(0, hb 1)] az ?_
 refine Ra ?_
 refine GT (tn [1, 3] 2) (RI ?_)
 refine EV V_ok 0 [] 7 az ?_
 rcases of_ite H with ⟨hb1, H⟩ | ⟨hb1, H⟩
 ·refine FXO 12 hb1 ?_
  refine EV V_ok 0 [] 1 az ?_
  obtain ⟨y2, e3, H⟩ := of_bind H
  refine CL V_ok i_control_controller_two_e61.at_ (of_G (i_control_controller_two_e61.f_ok e3)) ?_
  refine EV V_ok 0 [] 3 az ?_
  rcases of_ite H with ⟨hb4, H⟩ | ⟨hb4, H⟩
  ·refine FXO 17 hb4 ?_
   refine EV V_ok 0 [] 10 az ?_
   refine RN ?_
   exact Jm (tn [1, 3, 4] 2) (j1_ok H)
  ·refine FXO 17 hb4 ?_
   refine EV V_ok 0 [] 6 az ?_
   obtain ⟨y12, e13, H⟩ := of_bind H
   refine CL V_ok i_control_controller_is_1_797.at_ (of_G (i_control_controller_is_1_797.f_ok e13)) ?_
   refine EV V_ok 0 [] 3 az ?_
   refine RN ?_
   exact Jm (tn [1, 3, 4] 2) (j1_ok H)
 ·refine FXO 12 hb1 ?_
  refine EV V_ok 0 [] 5 az ?_
  refine EV V_ok 0 [] 6 az ?_
  obtain ⟨y14, e15, H⟩ := of_bind H
  refine CL V_ok i_control_controller_is_1_797.at_ (of_G (i_control_controller_is_1_797.f_ok e15)) ?_
  refine EV V_ok 0 [] 3 az ?_
  refine RN ?_
  exact Jm (tn [1, 3, 4] 2) (j1_ok H)
theorem at_ : FnAt P 33 57 c0 f33.results := fnA func33
end i_control_controller_is_e28
namespace i_control_controller_two_e28
noncomputable def c0 : Code := bo f83
noncomputable def V : Env := eV [(119, f_slices_Contains_int.S)]
theorem V_ok : EnvOk P V := eOk (slk_cons f_slices_Contains_int.fits (slk_nil))
variable (x1 : T26b3.T)
abbrev R := (Bool) × Unit
noncomputable def s0 : St := ⟨10, [(0, .cv (.one (.ptr 0 0)))], [(.box 13, (encC .any T26b3 x1))]⟩
noncomputable def out (r : R) : St := ⟨10, [(2, .cv (.one (.bool r.1)))], [(.box 13, (encC .any T26b3 x1))]⟩
abbrev Q (r : R) := CallQ 1 (out x1 r)
noncomputable def f (k : Nat) (x1 : T26b3.T) : Option R :=
 (f_slices_Contains_int.f k [1, 2, 3] x1.2.2.2.2.2.1).bind fun y1 =>
  some (y1.1, ())
theorem f_ok {r k x1} (H : f k x1 = some r) : Gw P 1 (Q x1 r) (Px c0 1 []) (s0 x1) := by
 unfold f at H
 refine Ra ?_
 obtain ⟨y1, e2, H⟩ := of_bind H
 refine Rg V_ok 0 [(6, hr f_slices_Contains_int.S y1)] (ac (f_slices_Contains_int.rl e2) az) ?_
 obtain rfl := Option.some.inj H
 exact Lq (tn [2] 1)
theorem at_ : FnAt P 83 10 c0 f83.results := fnA func83
end i_control_controller_two_e28
namespace i_control_controller_live_1_5ba
noncomputable def c0 : Code := bo f111
noncomputable def V : Env := eV []
theorem V_ok : EnvOk P V := eOk (slk_nil)
variable (x1 x2 : T814c.T) (x3 : T26b3.T) (x4 : List T814c.T)
abbrev R := (Int) × Unit
noncomputable def s0 : St := ⟨17, [(0, .cv (.agg [.i x1.1, .sl T1383 x1.2 .any])), (1, .cv (.agg [.i x2.1, .sl T1383 x2.2 .any]))], [(.box 13, (encC .any T26b3 x3)), (.buf 100 T814c x4, [])]⟩
noncomputable def out (r : R) : St := ⟨17, [(4, .cv (.one (.i r.1)))], [(.box 13, (encC .any T26b3 x3)), (.buf 100 T814c x4, [])]⟩
abbrev Q (r : R) := CallQ 2 (out x3 x4 r)
noncomputable def f (k : Nat) (x1 x2 : T814c.T) (x3 : T26b3.T) (x4 : List T814c.T) : Option R :=
 if (decide (x1.1 < x2.1)) = true then
  some ((-1), ())
 else
  if (decide (x1.1 > x2.1)) = true then
   some ((1 : Int), ())
  else
   some ((0 : Int), ())
theorem f_ok {r k x1 x2 x3 x4} (H : f k x1 x2 x3 x4 = some r) : Gw P 2 (Q x3 x4 r) (Px c0 1 []) (s0 x1 x2 x3 x4) := by
 unfold f at H
 refine Rg V_ok 2 [(0, hb 2), (1, hb 3)] az ?_
 refine Ra ?_
 rcases of_ite H with ⟨hb1, H⟩ | ⟨hb1, H⟩
 ·refine C1 hb1 ?_
  refine Ra ?_
  obtain rfl := Option.some.inj H
  exact Lq (tn [4] 2)
 ·refine C0 hb1 ?_
  refine Ra ?_
  rcases of_ite H with ⟨hb2, H⟩ | ⟨hb2, H⟩
  ·refine C1 hb2 ?_
   refine Ra ?_
   obtain rfl := Option.some.inj H
   exact Lq (tn [4] 2)
  ·refine C0 hb2 ?_
   refine Ra ?_
   obtain rfl := Option.some.inj H
   exact Lq (tn [4] 2)
theorem at_ : FnAt P 111 17 c0 f111.results := fnA func111
end i_control_controller_live_1_5ba
namespace i_slices_insertionSortCmpFunc_Ver_2e0
noncomputable def c0 : Code := bo f160
noncomputable def V : Env := eV []
theorem V_ok : EnvOk P V := eOk (slk_nil)
variable (x1 x2 : Int) (x3 : T26b3.T) (x4 : List T814c.T)
noncomputable def h0 (l : Hl) : Hl := (.box 13, (encC .any T26b3 x3)) :: l
abbrev R := (List T814c.T) × Unit
noncomputable def s0 : St := ⟨53, [(0, .cv (.one (.own 1))), (1, .cv (.one (.i x1))), (2, .cv (.one (.i x2))), (3, .cv (.one (.fn 111 [] [])))], (h0 x3 [(.buf 100 T814c x4, [])])⟩
noncomputable def out (r : R) : St := ⟨53, [], (h0 x3 [(.buf 100 T814c r.1, [])])⟩
abbrev Q (r : R) := CallQ 2 (out x3 r)
noncomputable def s1 (p3 : Int) (p5 : List T814c.T) : St := ⟨53, [(0, .cv (.one (.own 1))), (1, .cv (.one (.i x1))), (2, .cv (.one (.i x2))), (3, .cv (.one (.fn 111 [] []))), (8, .cv (.one (.i p3)))], (h0 x3 [(.buf 100 T814c p5, [])])⟩
noncomputable def s2 (p3 p4 : Int) (p6 : List T814c.T) : St := ⟨53, [(0, .cv (.one (.own 1))), (1, .cv (.one (.i x1))), (2, .cv (.one (.i x2))), (3, .cv (.one (.fn 111 [] []))), (8, .cv (.one (.i p3))), (9, .cv (.one (.i p4)))], (h0 x3 [(.buf 100 T814c p6, [])])⟩
noncomputable def s3 (p3 p4 : Int) (p5 : Bool) (p7 : List T814c.T) : St := ⟨53, [(0, .cv (.one (.own 1))), (1, .cv (.one (.i x1))), (2, .cv (.one (.i x2))), (3, .cv (.one (.fn 111 [] []))), (8, .cv (.one (.i p3))), (9, .cv (.one (.i p4))), (34, .cv (.one (.bool p5)))], (h0 x3 [(.buf 100 T814c p7, [])])⟩
noncomputable def j3 (x1 x2 : Int) (x3 : T26b3.T) (L1 : Int → List T814c.T → Option R) (L2 : Int → Int → List T814c.T → Option R) (k : Nat) (p3 p4 : Int) (p5 : Bool) (p7 : List T814c.T) : Option R :=
 if p5 = true then
 if 0 ≤ (IntKind.i64.wrap (p4 - 1)) then
  if (IntKind.i64.wrap (p4 - 1)) < (p7.length : Int) then
   if 0 ≤ p4 then
    if p4 < (p7.length : Int) then
     if (IntKind.i64.wrap (p4 - 1)) < ((p7.set p4.toNat (att T814c p7 (IntKind.i64.wrap (p4 - 1)))).length : Int) then
      L2 p3 (IntKind.i64.wrap (p4 - 1)) ((p7.set p4.toNat (att T814c p7 (IntKind.i64.wrap (p4 - 1)))).set (IntKind.i64.wrap (p4 - 1)).toNat (att T814c p7 p4))
     else none
    else none
   else none
  else none
 else none
else
 L1 (IntKind.i64.wrap (p3 + 1)) p7
theorem j3_ok {r x1 x2 x3} {L1 : Int → List T814c.T → Option R} {m1 : Nat} (hL1 : ∀ p3 p5, L1 p3 p5 = some r → Gw P 2 (Q x3 r) (Pb c0 5 [] m1) (s1 x1 x2 x3 p3 p5)) {L2 : Int → Int → List T814c.T → Option R} {m2 : Nat} (hL2 : ∀ p3 p4 p6, L2 p3 p4 p6 = some r → Gw P 2 (Q x3 r) (Pb c0 329 [m1] m2) (s2 x1 x2 x3 p3 p4 p6)) {k p3 p4 p5 p7} (H : j3 x1 x2 x3 L1 L2 k p3 p4 p5 p7 = some r) : Gw P 2 (Q x3 r) (Px c0 3145 [m1, m2]) (s3 x1 x2 x3 p3 p4 p5 p7) := by
 unfold j3 at H
 rcases of_ite H with ⟨hb9, H⟩ | ⟨hb9, H⟩
 ·refine C1 hb9 ?_
  obtain ⟨n10, H⟩ := of_if H
  obtain ⟨n11, H⟩ := of_if H
  obtain ⟨n12, H⟩ := of_if H
  obtain ⟨n13, H⟩ := of_if H
  obtain ⟨n14, H⟩ := of_if H
  refine Rg V_ok 0 [] (ac n10 (ac n11 (ac n12 (ac n13 (ac n12 (ac n13 (ac n10 (ac n14 az)))))))) ?_
  refine Ra ?_
  exact Jm (tn [0, 1, 2, 3, 8, 9] 2) (hL2 p3 (IntKind.i64.wrap (p4 - 1)) ((p7.set p4.toNat (att T814c p7 (IntKind.i64.wrap (p4 - 1)))).set (IntKind.i64.wrap (p4 - 1)).toNat (att T814c p7 p4)) H)
 ·refine C0 hb9 ?_
  refine Ra ?_
  exact Jm (tn [0, 1, 2, 3, 8] 2) (hL1 (IntKind.i64.wrap (p3 + 1)) p7 H)
noncomputable def b2 (L1 : Int → List T814c.T → Option R) (L2 : Int → Int → List T814c.T → Option R) (k : Nat) (p3 p4 : Int) (p6 : List T814c.T) : Option R :=
 if (decide (p4 > x1)) = true then
 if 0 ≤ p4 then
  if p4 < (p6.length : Int) then
   if 0 ≤ (IntKind.i64.wrap (p4 - 1)) then
    if (IntKind.i64.wrap (p4 - 1)) < (p6.length : Int) then
     (i_control_controller_live_1_5ba.f k (att T814c p6 p4) (att T814c p6 (IntKind.i64.wrap (p4 - 1))) x3 p6).bind fun y7 =>
      j3 x1 x2 x3 L1 L2 k p3 p4 (decide (y7.1 < (0 : Int))) p6
    else none
   else none
  else none
 else none
else
 j3 x1 x2 x3 L1 L2 k p3 p4 false p6
theorem b2_ok {r x1 x2 x3} {L1 : Int → List T814c.T → Option R} {m1 : Nat} (hL1 : ∀ p3 p5, L1 p3 p5 = some r → Gw P 2 (Q x3 r) (Pb c0 5 [] m1) (s1 x1 x2 x3 p3 p5)) {L2 : Int → Int → List T814c.T → Option R} {m2 : Nat} (hL2 : ∀ p3 p4 p6, L2 p3 p4 p6 = some r → Gw P 2 (Q x3 r) (Pb c0 329 [m1] m2) (s2 x1 x2 x3 p3 p4 p6)) {k p3 p4 p6} (H : b2 x1 x2 x3 L1 L2 k p3 p4 p6 = some r) : Gw P 2 (Q x3 r) (Px c0 585 [m1, m2]) (s2 x1 x2 x3 p3 p4 p6) := by
 unfold b2 at H
 rcases of_ite H with ⟨hb2, H⟩ | ⟨hb2, H⟩
 ·obtain ⟨n3, H⟩ := of_if H
  obtain ⟨n4, H⟩ := of_if H
  obtain ⟨n5, H⟩ := of_if H
  obtain ⟨n6, H⟩ := of_if H
  obtain ⟨y7, e8, H⟩ := of_bind H
  let x : Nx := (Px c0 2121 [m1, m2])
  let t0 : St := ⟨53, [(0, .cv (.one (.own 1))), (1, .cv (.one (.i x1))), (2, .cv (.one (.i x2))), (3, .cv (.one (.fn 111 [] []))), (8, .cv (.one (.i p3))), (9, .cv (.one (.i p4)))], (h0 x3 [(.buf 100 T814c p6, [])])⟩
  refine Jm (x' := x) (τ := t0) (tn [0, 1, 2, 3, 8, 9] 2) ?_
  let Φ := phiX P 2 (Q x3 r) x
  let o := fun (k m : Nat) (t : St) => WA P 2 (opsX x) k (bs 17 m) Φ t
  let t1 : St := stpS V x 0 [] 0 (tn [0, 1, 2, 3, 8, 9, 18] 2) t0
  let t2 : St := stpS V x 0 [] 1 (tn [0, 1, 2, 3, 8, 9, 18, 19] 2) t1
  let t3 : St := stpS V x 0 [] 2 (tn [0, 1, 2, 3, 8, 9, 20] 2) t2
  let t4 : St := stpS V x 0 [(3, {bv := some true})] 3 (tn [0, 1, 2, 3, 8, 9, 21] 2) t3
  let t5 : St := stpS V x 0 [] 4 (tn [0, 1, 2, 3, 8, 9, 21, 22] 2) t4
  let t6 : St := stpS V x 0 [] 5 (tn [0, 1, 2, 3, 8, 9, 21, 22, 23] 2) t5
  let t7 : St := stpS V x 0 [] 6 (tn [0, 1, 2, 3, 8, 9, 21, 22, 23, 24] 2) t6
  let t8 : St := stpS V x 0 [] 9 (tn [0, 1, 2, 3, 8, 9, 21, 22, 23, 24, 27] 2) t7
  let t9 : St := stpS V x 0 [] 10 (tn [0, 1, 2, 3, 8, 9, 21, 22, 23, 24, 27, 28] 2) t8
  let t10 : St := stpS V x 0 [] 7 (tn [0, 1, 2, 3, 8, 9, 21, 22, 25, 27, 28] 2) t9
  let t11 : St := stpS V x 0 [] 11 (tn [0, 1, 2, 3, 8, 9, 21, 22, 23, 24, 27, 29] 2) t9
  let t12 : St := stpS V x 0 [] 8 (tn [0, 1, 2, 3, 8, 9, 21, 22, 26, 27, 28] 2) t10
  let t13 : St := stpS V x 0 [] 11 (tn [0, 1, 2, 3, 8, 9, 21, 22, 25, 27, 29] 2) t10
  let t14 : St := stpS V x 0 [] 12 (tn [0, 1, 2, 3, 8, 9, 21, 22, 23, 24, 30] 2) t11
  let t15 : St := stpS V x 0 [] 11 (tn [0, 1, 2, 3, 8, 9, 21, 22, 26, 27, 29] 2) t12
  let t16 : St := stpS V x 0 [] 12 (tn [0, 1, 2, 3, 8, 9, 21, 22, 25, 30] 2) t13
  let t17 : St := stpS V x 0 [] 13 (tn [0, 1, 2, 3, 8, 9, 21, 22, 23, 24, 31] 2) t14
  let t18 : St := stpS V x 0 [] 12 (tn [0, 1, 2, 3, 8, 9, 21, 22, 26, 30] 2) t15
  let t19 : St := stpS V x 0 [] 13 (tn [0, 1, 2, 3, 8, 9, 21, 22, 25, 31] 2) t16
  let t20 : St := stpS V x 0 [] 13 (tn [0, 1, 2, 3, 8, 9, 21, 22, 26, 31] 2) t18
  let u0 : St := i_control_controller_live_1_5ba.out x3 p6 y7
  let t21 : St := clT V.tt x 14 f111.results (tn [0, 1, 2, 3, 8, 9, 21, 32] 2) t20 u0
  let t22 : St := stpS V x 0 [] 15 (tn [0, 1, 2, 3, 8, 9, 21, 33] 2) t21
  let t23 : St := stpS V x 0 [] 16 (tn [0, 1, 2, 3, 8, 9, 34] 2) t22
  have w23 : o 0 131071 t23 := by
   refine WA_nil (by kernel_rfl) (RAn (by kernel_rfl) ?_)
   exact Jm (tn [0, 1, 2, 3, 8, 9, 34] 2) (j3_ok hL1 hL2 H)
  have w22 : o 1 65535 t22 := WAs (an (We az w23) aN)
  have w21 : o 2 32767 t21 := WAs (an (We az w22) aN)
  have w20 : o 3 16383 t20 := WAs (an (Wc V_ok i_control_controller_live_1_5ba.at_ (of_G (i_control_controller_live_1_5ba.f_ok e8)) w21) aN)
  have w19 : o 4 16127 t19 := WAs (an (WE V_ok 0 [] 8 (tn [0, 1, 2, 3, 8, 9, 21, 22, 26, 31] 2) az w20) aN)
  have w18 : o 4 8191 t18 := WAs (an (We az w20) aN)
  have w17 : o 5 15999 t17 := WAs (an (WE V_ok 0 [] 7 (tn [0, 1, 2, 3, 8, 9, 21, 22, 25, 31] 2) (ac n3 (ac n4 az)) w19) aN)
  have w16 : o 5 7935 t16 := WAs (an (WE V_ok 0 [] 8 (tn [0, 1, 2, 3, 8, 9, 21, 22, 26, 30] 2) az w18) (an (We az w19) aN))
  have w15 : o 5 4095 t15 := WAs (an (We (ac n5 (ac n6 az)) w18) aN)
  have w14 : o 6 7807 t14 := WAs (an (WE V_ok 0 [] 7 (tn [0, 1, 2, 3, 8, 9, 21, 22, 25, 30] 2) (ac n3 (ac n4 az)) w16) (an (We az w17) aN))
  have w13 : o 6 3839 t13 := WAs (an (WE V_ok 0 [] 8 (tn [0, 1, 2, 3, 8, 9, 21, 22, 26, 27, 29] 2) az w15) (an (We (ac n5 (ac n6 az)) w16) aN))
  have w12 : o 6 2047 t12 := WAs (an (We az w15) aN)
  have w11 : o 7 3711 t11 := WAs (an (WE V_ok 0 [] 7 (tn [0, 1, 2, 3, 8, 9, 21, 22, 25, 27, 29] 2) (ac n3 (ac n4 az)) w13) (an (We (ac n5 (ac n6 az)) w14) aN))
  have w10 : o 7 1791 t10 := WAs (an (We az w12) (an (We az w13) aN))
  have w9 : o 8 1663 t9 := WAs (an (We (ac n3 (ac n4 az)) w10) (an (We az w11) aN))
  have w8 : o 9 639 t8 := Wt az w9
  have w7 : o 10 127 t7 := Wt az w8
  have w6 : o 11 63 t6 := Wt az w7
  have w5 : o 12 31 t5 := Wt az w6
  have w4 : o 13 15 t4 := Wt az w5
  have w3 : o 14 7 t3 := Wt (ac hb2 az) w4
  have w2 : o 15 3 t2 := WAs (an (We az w3) aN)
  have w1 : o 16 1 t1 := Wt az w2
  have w0 : o 17 0 t0 := Wt az w1
  exact RA V_ok 17 (by kernel_rfl) (by kernel_rfl) (by kernel_rfl) w0
 ·let x : Nx := (Px c0 2121 [m1, m2])
  let t0 : St := ⟨53, [(0, .cv (.one (.own 1))), (1, .cv (.one (.i x1))), (2, .cv (.one (.i x2))), (3, .cv (.one (.fn 111 [] []))), (8, .cv (.one (.i p3))), (9, .cv (.one (.i p4)))], (h0 x3 [(.buf 100 T814c p6, [])])⟩
  refine Jm (x' := x) (τ := t0) (tn [0, 1, 2, 3, 8, 9] 2) ?_
  let Φ := phiX P 2 (Q x3 r) x
  let o := fun (k m : Nat) (t : St) => WA P 2 (opsX x) k (bs 17 m) Φ t
  let t1 : St := stpS V x 0 [] 0 (tn [0, 1, 2, 3, 8, 9, 18] 2) t0
  let t2 : St := stpS V x 0 [] 1 (tn [0, 1, 2, 3, 8, 9, 18, 19] 2) t1
  let t3 : St := stpS V x 0 [] 2 (tn [0, 1, 2, 3, 8, 9, 20] 2) t2
  let t4 : St := stpS V x 0 [(3, {bv := some false})] 3 (tn [0, 1, 2, 3, 8, 9, 21] 2) t3
  let t5 : St := stpS V x 0 [] 4 (tn [0, 1, 2, 3, 8, 9, 21, 22] 2) t4
  let t6 : St := stpS V x 0 [] 5 (tn [0, 1, 2, 3, 8, 9, 21, 22, 23] 2) t5
  let t7 : St := stpS V x 0 [] 6 (tn [0, 1, 2, 3, 8, 9, 21, 22, 23, 24] 2) t6
  let t8 : St := stpS V x 0 [] 9 (tn [0, 1, 2, 3, 8, 9, 21, 22, 23, 24, 27] 2) t7
  let t9 : St := stpS V x 0 [] 10 (tn [0, 1, 2, 3, 8, 9, 21, 22, 23, 24, 27, 28] 2) t8
  let t10 : St := stpS V x 0 [] 7 (tn [0, 1, 2, 3, 8, 9, 21, 22, 25, 27, 28] 2) t9
  let t11 : St := stpS V x 0 [] 11 (tn [0, 1, 2, 3, 8, 9, 21, 22, 23, 24, 27, 29] 2) t9
  let t12 : St := stpS V x 0 [] 8 (tn [0, 1, 2, 3, 8, 9, 21, 22, 26, 27, 28] 2) t10
  let t13 : St := stpS V x 0 [] 11 (tn [0, 1, 2, 3, 8, 9, 21, 22, 25, 27, 29] 2) t10
  let t14 : St := stpS V x 0 [] 12 (tn [0, 1, 2, 3, 8, 9, 21, 22, 23, 24, 30] 2) t11
  let t15 : St := stpS V x 0 [] 11 (tn [0, 1, 2, 3, 8, 9, 21, 22, 26, 27, 29] 2) t12
  let t16 : St := stpS V x 0 [] 12 (tn [0, 1, 2, 3, 8, 9, 21, 22, 25, 30] 2) t13
  let t17 : St := stpS V x 0 [] 13 (tn [0, 1, 2, 3, 8, 9, 21, 22, 23, 24, 31] 2) t14
  let t18 : St := stpS V x 0 [] 12 (tn [0, 1, 2, 3, 8, 9, 21, 22, 26, 30] 2) t15
  let t19 : St := stpS V x 0 [] 13 (tn [0, 1, 2, 3, 8, 9, 21, 22, 25, 31] 2) t16
  let t20 : St := stpS V x 0 [] 13 (tn [0, 1, 2, 3, 8, 9, 21, 22, 26, 31] 2) t18
  let t21 : St := stpS V x 0 [] 14 (tn [0, 1, 2, 3, 8, 9, 21, 32] 2) t20
  let t22 : St := stpS V x 0 [] 15 (tn [0, 1, 2, 3, 8, 9, 21, 33] 2) t21
  let t23 : St := stpS V x 0 [] 16 (tn [0, 1, 2, 3, 8, 9, 34] 2) t22
  have w23 : o 0 131071 t23 := by
   refine WA_nil (by kernel_rfl) (RAn (by kernel_rfl) ?_)
   exact Jm (tn [0, 1, 2, 3, 8, 9, 34] 2) (j3_ok hL1 hL2 H)
  have w22 : o 1 65535 t22 := WAs (an (We az w23) aN)
  have w21 : o 2 32767 t21 := WAs (an (We az w22) aN)
  have w20 : o 3 16383 t20 := WAs (an (We az w21) aN)
  have w19 : o 4 16127 t19 := WAs (an (WE V_ok 0 [] 8 (tn [0, 1, 2, 3, 8, 9, 21, 22, 26, 31] 2) az w20) aN)
  have w18 : o 4 8191 t18 := WAs (an (We az w20) aN)
  have w17 : o 5 15999 t17 := WAs (an (WE V_ok 0 [] 7 (tn [0, 1, 2, 3, 8, 9, 21, 22, 25, 31] 2) az w19) aN)
  have w16 : o 5 7935 t16 := WAs (an (WE V_ok 0 [] 8 (tn [0, 1, 2, 3, 8, 9, 21, 22, 26, 30] 2) az w18) (an (We az w19) aN))
  have w15 : o 5 4095 t15 := WAs (an (We az w18) aN)
  have w14 : o 6 7807 t14 := WAs (an (WE V_ok 0 [] 7 (tn [0, 1, 2, 3, 8, 9, 21, 22, 25, 30] 2) az w16) (an (We az w17) aN))
  have w13 : o 6 3839 t13 := WAs (an (WE V_ok 0 [] 8 (tn [0, 1, 2, 3, 8, 9, 21, 22, 26, 27, 29] 2) az w15) (an (We az w16) aN))
  have w12 : o 6 2047 t12 := WAs (an (We az w15) aN)
  have w11 : o 7 3711 t11 := WAs (an (WE V_ok 0 [] 7 (tn [0, 1, 2, 3, 8, 9, 21, 22, 25, 27, 29] 2) az w13) (an (We az w14) aN))
  have w10 : o 7 1791 t10 := WAs (an (We az w12) (an (We az w13) aN))
  have w9 : o 8 1663 t9 := WAs (an (We az w10) (an (We az w11) aN))
  have w8 : o 9 639 t8 := Wt az w9
  have w7 : o 10 127 t7 := Wt az w8
  have w6 : o 11 63 t6 := Wt az w7
  have w5 : o 12 31 t5 := Wt az w6
  have w4 : o 13 15 t4 := Wt az w5
  have w3 : o 14 7 t3 := Wt (ac hb2 az) w4
  have w2 : o 15 3 t2 := WAs (an (We az w3) aN)
  have w1 : o 16 1 t1 := Wt az w2
  have w0 : o 17 0 t0 := Wt az w1
  exact RA V_ok 17 (by kernel_rfl) (by kernel_rfl) (by kernel_rfl) w0
noncomputable def l2 (L1 : Int → List T814c.T → Option R) (k : Nat) : Nat → Int → Int → List T814c.T → Option R
 | 0, _, _, _ => none
 | m + 1, p3, p4, p6 => b2 x1 x2 x3 L1 (l2 L1 k m) k p3 p4 p6
theorem l2_ok {r x1 x2 x3} {L1 : Int → List T814c.T → Option R} {m1 : Nat} (hL1 : ∀ p3 p5, L1 p3 p5 = some r → Gw P 2 (Q x3 r) (Pb c0 5 [] m1) (s1 x1 x2 x3 p3 p5)) (k : Nat) : ∀ (m2 : Nat) (p3 p4 : Int) (p6 : List T814c.T), l2 x1 x2 x3 L1 k m2 p3 p4 p6 = some r → Gw P 2 (Q x3 r) (Pb c0 329 [m1] m2) (s2 x1 x2 x3 p3 p4 p6)
 | 0, _, _, _, H => by cases H
 | m2 + 1, p3, p4, p6, H => SU (by kernel_rfl) (b2_ok hL1 (l2_ok hL1 k m2) H)
noncomputable def b1 (L1 : Int → List T814c.T → Option R) (k : Nat) (p3 : Int) (p5 : List T814c.T) : Option R :=
 if (decide (p3 < x2)) = true then
 l2 x1 x2 x3 L1 k k p3 p3 p5
else
 some (p5, ())
theorem b1_ok {r x1 x2 x3} {L1 : Int → List T814c.T → Option R} {m1 : Nat} (hL1 : ∀ p3 p5, L1 p3 p5 = some r → Gw P 2 (Q x3 r) (Pb c0 5 [] m1) (s1 x1 x2 x3 p3 p5)) {k p3 p5} (H : b1 x1 x2 x3 L1 k p3 p5 = some r) : Gw P 2 (Q x3 r) (Px c0 9 [m1]) (s1 x1 x2 x3 p3 p5) := by
 unfold b1 at H
 refine Ra ?_
 rcases of_ite H with ⟨hb1, H⟩ | ⟨hb1, H⟩
 ·refine C1 hb1 ?_
  refine Ra ?_
  exact LP k (Jm (tn [0, 1, 2, 3, 8, 9] 2) (l2_ok hL1 k k p3 p3 p5 H))
 ·refine C0 hb1 ?_
  obtain rfl := Option.some.inj H
  exact Lq (tn [] 2)
noncomputable def l1 (k : Nat) : Nat → Int → List T814c.T → Option R
 | 0, _, _ => none
 | m + 1, p3, p5 => b1 x1 x2 x3 (l1 k m) k p3 p5
theorem l1_ok {r x1 x2 x3} (k : Nat) : ∀ (m1 : Nat) (p3 : Int) (p5 : List T814c.T), l1 x1 x2 x3 k m1 p3 p5 = some r → Gw P 2 (Q x3 r) (Pb c0 5 [] m1) (s1 x1 x2 x3 p3 p5)
 | 0, _, _, H => by cases H
 | m1 + 1, p3, p5, H => SU (by kernel_rfl) (b1_ok (l1_ok k m1) H)
noncomputable def f (k : Nat) (x1 x2 : Int) (x3 : T26b3.T) (x4 : List T814c.T) : Option R :=
 l1 x1 x2 x3 k k (IntKind.i64.wrap (x1 + 1)) x4
theorem f_ok {r k x1 x2 x3 x4} (H : f k x1 x2 x3 x4 = some r) : Gw P 2 (Q x3 r) (Px c0 1 []) (s0 x1 x2 x3 x4) := by
 unfold f at H
 refine Ra ?_
 exact LP k (Jm (tn [0, 1, 2, 3, 8] 2) (l1_ok k k (IntKind.i64.wrap (x1 + 1)) x4 H))
theorem at_ : FnAt P 160 53 c0 f160.results := fnA func160
end i_slices_insertionSortCmpFunc_Ver_2e0
namespace i_slices_stableCmpFunc_Ver_2ec
noncomputable def c0 : Code := bo f149
noncomputable def V : Env := eV []
theorem V_ok : EnvOk P V := eOk (slk_nil)
variable (x1 : Int) (x2 : T26b3.T) (x3 : List T814c.T)
abbrev R := (List T814c.T) × Unit
noncomputable def s0 : St := ⟨63, [(0, .cv (.one (.own 1))), (1, .cv (.one (.i x1))), (2, .cv (.one (.fn 111 [] [])))], [(.box 13, (encC .any T26b3 x2)), (.buf 100 T814c x3, [])]⟩
noncomputable def out (r : R) : St := ⟨63, [], [(.box 13, (encC .any T26b3 x2)), (.buf 100 T814c r.1, [])]⟩
abbrev Q (r : R) := CallQ 2 (out x2 r)
noncomputable def s1 (p2 p3 p4 : Int) (p6 : List T814c.T) : St := ⟨63, [(0, .cv (.one (.own 1))), (1, .cv (.one (.i x1))), (2, .cv (.one (.fn 111 [] []))), (6, .cv (.one (.i p2))), (7, .cv (.one (.i p3))), (8, .cv (.one (.i p4)))], [(.box 13, (encC .any T26b3 x2)), (.buf 100 T814c p6, [])]⟩
noncomputable def s2 (p2 : Int) (p4 : List T814c.T) : St := ⟨63, [(0, .cv (.one (.own 1))), (1, .cv (.one (.i x1))), (2, .cv (.one (.fn 111 [] []))), (6, .cv (.one (.i p2)))], [(.box 13, (encC .any T26b3 x2)), (.buf 100 T814c p4, [])]⟩
noncomputable def s3 (p2 p3 p4 : Int) (p6 : List T814c.T) : St := ⟨63, [(0, .cv (.one (.own 1))), (1, .cv (.one (.i x1))), (2, .cv (.one (.fn 111 [] []))), (6, .cv (.one (.i p2))), (7, .cv (.one (.i p3))), (8, .cv (.one (.i p4)))], [(.box 13, (encC .any T26b3 x2)), (.buf 100 T814c p6, [])]⟩
noncomputable def b3 (x1 : Int) (x2 : T26b3.T) (L2 : Int → List T814c.T → Option R) (L3 : Int → Int → Int → List T814c.T → Option R) (k : Nat) (p2 p3 p4 : Int) (p6 : List T814c.T) : Option R :=
 if (decide (p4 ≤ x1)) = true then
 none
else
 if (decide ((IntKind.i64.wrap (p3 + p2)) < x1)) = true then
  none
 else
  L2 (IntKind.i64.wrap (p2 * 2)) p6
theorem b3_ok {r x1 x2} {L2 : Int → List T814c.T → Option R} {m2 : Nat} (hL2 : ∀ p2 p4, L2 p2 p4 = some r → Gw P 2 (Q x2 r) (Pb c0 47 [] m2) (s2 x1 x2 p2 p4)) {L3 : Int → Int → Int → List T814c.T → Option R} {m3 : Nat} (hL3 : ∀ p2 p3 p4 p6, L3 p2 p3 p4 p6 = some r → Gw P 2 (Q x2 r) (Pb c0 2383 [m2] m3) (s3 x1 x2 p2 p3 p4 p6)) {k p2 p3 p4 p6} (H : b3 x1 x2 L2 L3 k p2 p3 p4 p6 = some r) : Gw P 2 (Q x2 r) (Px c0 4431 [m2, m3]) (s3 x1 x2 p2 p3 p4 p6) := by
 unfold b3 at H
 refine Ra ?_
 rcases of_ite H with ⟨hb7, H⟩ | ⟨hb7, H⟩
 ·refine C1 hb7 ?_
  cases H
 ·refine C0 hb7 ?_
  refine Ra ?_
  refine Ra ?_
  rcases of_ite H with ⟨hb8, H⟩ | ⟨hb8, H⟩
  ·refine C1 hb8 ?_
   cases H
  ·refine C0 hb8 ?_
   refine Ra ?_
   exact Jm (tn [0, 1, 2, 6] 2) (hL2 (IntKind.i64.wrap (p2 * 2)) p6 H)
noncomputable def l3 (L2 : Int → List T814c.T → Option R) (k : Nat) : Nat → Int → Int → Int → List T814c.T → Option R
 | 0, _, _, _, _ => none
 | m + 1, p2, p3, p4, p6 => b3 x1 x2 L2 (l3 L2 k m) k p2 p3 p4 p6
theorem l3_ok {r x1 x2} {L2 : Int → List T814c.T → Option R} {m2 : Nat} (hL2 : ∀ p2 p4, L2 p2 p4 = some r → Gw P 2 (Q x2 r) (Pb c0 47 [] m2) (s2 x1 x2 p2 p4)) (k : Nat) : ∀ (m3 : Nat) (p2 p3 p4 : Int) (p6 : List T814c.T), l3 x1 x2 L2 k m3 p2 p3 p4 p6 = some r → Gw P 2 (Q x2 r) (Pb c0 2383 [m2] m3) (s3 x1 x2 p2 p3 p4 p6)
 | 0, _, _, _, _, H => by cases H
 | m3 + 1, p2, p3, p4, p6, H => SU (by kernel_rfl) (b3_ok hL2 (l3_ok hL2 k m3) H)
noncomputable def b2 (L2 : Int → List T814c.T → Option R) (k : Nat) (p2 : Int) (p4 : List T814c.T) : Option R :=
 if (decide (p2 < x1)) = true then
 l3 x1 x2 L2 k k p2 0 (IntKind.i64.wrap (2 * p2)) p4
else
 some (p4, ())
theorem b2_ok {r x1 x2} {L2 : Int → List T814c.T → Option R} {m2 : Nat} (hL2 : ∀ p2 p4, L2 p2 p4 = some r → Gw P 2 (Q x2 r) (Pb c0 47 [] m2) (s2 x1 x2 p2 p4)) {k p2 p4} (H : b2 x1 x2 L2 k p2 p4 = some r) : Gw P 2 (Q x2 r) (Px c0 79 [m2]) (s2 x1 x2 p2 p4) := by
 unfold b2 at H
 refine Ra ?_
 rcases of_ite H with ⟨hb6, H⟩ | ⟨hb6, H⟩
 ·refine C1 hb6 ?_
  refine Ra ?_
  exact LP k (Jm (tn [0, 1, 2, 6, 7, 8] 2) (l3_ok hL2 k k p2 0 (IntKind.i64.wrap (2 * p2)) p4 H))
 ·refine C0 hb6 ?_
  obtain rfl := Option.some.inj H
  exact Lq (tn [] 2)
noncomputable def l2 (k : Nat) : Nat → Int → List T814c.T → Option R
 | 0, _, _ => none
 | m + 1, p2, p4 => b2 x1 x2 (l2 k m) k p2 p4
theorem l2_ok {r x1 x2} (k : Nat) : ∀ (m2 : Nat) (p2 : Int) (p4 : List T814c.T), l2 x1 x2 k m2 p2 p4 = some r → Gw P 2 (Q x2 r) (Pb c0 47 [] m2) (s2 x1 x2 p2 p4)
 | 0, _, _, H => by cases H
 | m2 + 1, p2, p4, H => SU (by kernel_rfl) (b2_ok (l2_ok k m2) H)
noncomputable def b1 (L1 : Int → Int → Int → List T814c.T → Option R) (k : Nat) (p2 p3 p4 : Int) (p6 : List T814c.T) : Option R :=
 if (decide (p4 ≤ x1)) = true then
 (i_slices_insertionSortCmpFunc_Ver_2e0.f k p3 p4 x2 p6).bind fun y2 =>
  L1 p2 p4 (IntKind.i64.wrap (p4 + p2)) y2.1
else
 (i_slices_insertionSortCmpFunc_Ver_2e0.f k p3 x1 x2 p6).bind fun y4 =>
  l2 x1 x2 k k p2 y4.1
theorem b1_ok {r x1 x2} {L1 : Int → Int → Int → List T814c.T → Option R} {m1 : Nat} (hL1 : ∀ p2 p3 p4 p6, L1 p2 p3 p4 p6 = some r → Gw P 2 (Q x2 r) (Pb c0 19 [] m1) (s1 x1 x2 p2 p3 p4 p6)) {k p2 p3 p4 p6} (H : b1 x1 x2 L1 k p2 p3 p4 p6 = some r) : Gw P 2 (Q x2 r) (Px c0 35 [m1]) (s1 x1 x2 p2 p3 p4 p6) := by
 unfold b1 at H
 refine Ra ?_
 rcases of_ite H with ⟨hb1, H⟩ | ⟨hb1, H⟩
 ·refine C1 hb1 ?_
  refine GT (tn [0, 1, 2, 6, 7, 8] 2) (RI ?_)
  refine EV V_ok 0 [] 4 az ?_
  obtain ⟨y2, e3, H⟩ := of_bind H
  refine CL V_ok i_slices_insertionSortCmpFunc_Ver_2e0.at_ (of_G (i_slices_insertionSortCmpFunc_Ver_2e0.f_ok e3)) ?_
  refine RN ?_
  refine Ra ?_
  refine Ra ?_
  exact Jm (tn [0, 1, 2, 6, 7, 8] 2) (hL1 p2 p4 (IntKind.i64.wrap (p4 + p2)) y2.1 H)
 ·refine C0 hb1 ?_
  refine GT (tn [0, 1, 2, 6, 7] 2) (RI ?_)
  refine EV V_ok 0 [] 4 az ?_
  obtain ⟨y4, e5, H⟩ := of_bind H
  refine CL V_ok i_slices_insertionSortCmpFunc_Ver_2e0.at_ (of_G (i_slices_insertionSortCmpFunc_Ver_2e0.f_ok e5)) ?_
  refine RN ?_
  exact LP k (Jm (tn [0, 1, 2, 6] 2) (l2_ok k k p2 y4.1 H))
noncomputable def l1 (k : Nat) : Nat → Int → Int → Int → List T814c.T → Option R
 | 0, _, _, _, _ => none
 | m + 1, p2, p3, p4, p6 => b1 x1 x2 (l1 k m) k p2 p3 p4 p6
theorem l1_ok {r x1 x2} (k : Nat) : ∀ (m1 : Nat) (p2 p3 p4 : Int) (p6 : List T814c.T), l1 x1 x2 k m1 p2 p3 p4 p6 = some r → Gw P 2 (Q x2 r) (Pb c0 19 [] m1) (s1 x1 x2 p2 p3 p4 p6)
 | 0, _, _, _, _, H => by cases H
 | m1 + 1, p2, p3, p4, p6, H => SU (by kernel_rfl) (b1_ok (l1_ok k m1) H)
noncomputable def f (k : Nat) (x1 : Int) (x2 : T26b3.T) (x3 : List T814c.T) : Option R :=
 l1 x1 x2 k k 20 0 20 x3
theorem f_ok {r k x1 x2 x3} (H : f k x1 x2 x3 = some r) : Gw P 2 (Q x2 r) (Px c0 1 []) (s0 x1 x2 x3) := by
 unfold f at H
 refine Ra ?_
 refine Ra ?_
 exact LP k (Jm (tn [0, 1, 2, 6, 7, 8] 2) (l1_ok k k 20 0 20 x3 H))
theorem at_ : FnAt P 149 63 c0 f149.results := fnA func149
end i_slices_stableCmpFunc_Ver_2ec
namespace i_slices_SortStableFunc_Ver_885
noncomputable def c0 : Code := bo f110
noncomputable def V : Env := eV []
theorem V_ok : EnvOk P V := eOk (slk_nil)
variable (x1 : T26b3.T) (x2 : List T814c.T)
abbrev R := (List T814c.T) × Unit
noncomputable def s0 : St := ⟨9, [(0, .cv (.one (.own 1))), (1, .cv (.one (.fn 111 [] [])))], [(.box 13, (encC .any T26b3 x1)), (.buf 100 T814c x2, [])]⟩
noncomputable def out (r : R) : St := ⟨9, [], [(.box 13, (encC .any T26b3 x1)), (.buf 100 T814c r.1, [])]⟩
abbrev Q (r : R) := CallQ 2 (out x1 r)
noncomputable def f (k : Nat) (x1 : T26b3.T) (x2 : List T814c.T) : Option R :=
 (i_slices_stableCmpFunc_Ver_2ec.f k (x2.length : Int) x1 x2).bind fun y1 =>
  some (y1.1, ())
theorem f_ok {r k x1 x2} (H : f k x1 x2 = some r) : Gw P 2 (Q x1 r) (Px c0 1 []) (s0 x1 x2) := by
 unfold f at H
 refine GT (tn [0, 1] 2) (RI ?_)
 refine EV V_ok 0 [] 4 az ?_
 obtain ⟨y1, e2, H⟩ := of_bind H
 refine CL V_ok i_slices_stableCmpFunc_Ver_2ec.at_ (of_G (i_slices_stableCmpFunc_Ver_2ec.f_ok e2)) ?_
 refine RN ?_
 obtain rfl := Option.some.inj H
 exact Lq (tn [] 2)
theorem at_ : FnAt P 110 9 c0 f110.results := fnA func110
end i_slices_SortStableFunc_Ver_885
namespace i_control_controller_flips_ebc
noncomputable def c0 : Code := bo f112
noncomputable def V : Env := eV []
theorem V_ok : EnvOk P V := eOk (slk_nil)
variable (x1 : T26b3.T) (x2 : List T814c.T)
abbrev R := (Bool) × Unit
noncomputable def s0 : St := ⟨17, [(0, .cv (.one (.ptr 0 0)))], [(.box 13, (encC .any T26b3 x1)), (.buf 100 T814c x2, [])]⟩
noncomputable def out (r : R) : St := ⟨17, [(2, .cv (.one (.bool r.1)))], [(.box 13, (encC .any T26b3 x1)), (.buf 100 T814c x2, [])]⟩
abbrev Q (r : R) := CallQ 2 (out x1 x2 r)
noncomputable def f (k : Nat) (x1 : T26b3.T) (x2 : List T814c.T) : Option R :=
 if (x1.2.2.2.2.2.1 == (2 : Int)) = true then
  some (true, ())
 else
  some ((x1.2.2.2.2.2.1 == (3 : Int)), ())
theorem f_ok {r k x1 x2} (H : f k x1 x2 = some r) : Gw P 2 (Q x1 x2 r) (Px c0 1 []) (s0 x1 x2) := by
 unfold f at H
 refine Ra ?_
 rcases of_ite H with ⟨hb1, H⟩ | ⟨hb1, H⟩
 ·refine Rg V_ok 0 [(5, {bv := some true})] (ac hb1 az) ?_
  obtain rfl := Option.some.inj H
  exact Lq (tn [2] 2)
 ·refine Rg V_ok 0 [(5, {bv := some false})] (ac hb1 az) ?_
  obtain rfl := Option.some.inj H
  exact Lq (tn [2] 2)
theorem at_ : FnAt P 112 17 c0 f112.results := fnA func112
end i_control_controller_flips_ebc
namespace i_control_controller_flips_e28
noncomputable def c0 : Code := bo f112
noncomputable def V : Env := eV []
theorem V_ok : EnvOk P V := eOk (slk_nil)
variable (x1 : T26b3.T)
abbrev R := (Bool) × Unit
noncomputable def s0 : St := ⟨17, [(0, .cv (.one (.ptr 0 0)))], [(.box 13, (encC .any T26b3 x1))]⟩
noncomputable def out (r : R) : St := ⟨17, [(2, .cv (.one (.bool r.1)))], [(.box 13, (encC .any T26b3 x1))]⟩
abbrev Q (r : R) := CallQ 1 (out x1 r)
noncomputable def f (k : Nat) (x1 : T26b3.T) : Option R :=
 if (x1.2.2.2.2.2.1 == (2 : Int)) = true then
  some (true, ())
 else
  some ((x1.2.2.2.2.2.1 == (3 : Int)), ())
theorem f_ok {r k x1} (H : f k x1 = some r) : Gw P 1 (Q x1 r) (Px c0 1 []) (s0 x1) := by
 unfold f at H
 refine Ra ?_
 rcases of_ite H with ⟨hb1, H⟩ | ⟨hb1, H⟩
 ·refine Rg V_ok 0 [(5, {bv := some true})] (ac hb1 az) ?_
  obtain rfl := Option.some.inj H
  exact Lq (tn [2] 1)
 ·refine Rg V_ok 0 [(5, {bv := some false})] (ac hb1 az) ?_
  obtain rfl := Option.some.inj H
  exact Lq (tn [2] 1)
theorem at_ : FnAt P 112 17 c0 f112.results := fnA func112
end i_control_controller_flips_e28
namespace i_control_controller_live_258
noncomputable def c0 : Code := bo f59
noncomputable def V : Env := eV [(44, f_conf_At.S)]
theorem V_ok : EnvOk P V := eOk (slk_cons f_conf_At.fits (slk_nil))
variable (x1 : Int) (x2 : T26b3.T)
noncomputable def h0 (l : Hl) : Hl := (.box 13, (encC .any T26b3 x2)) :: l
abbrev R := (List T814c.T) × (Int) × Unit
noncomputable def s0 : St := ⟨70, [(0, .cv (.one (.ptr 0 0))), (1, .cv (.one (.i x1)))], (h0 x2 [])⟩
noncomputable def out (r : R) : St := ⟨70, [(4, .cv (.one (.sl T814c r.1 .any))), (5, .cv (.one (.i r.2.1)))], (h0 x2 [])⟩
abbrev Q (r : R) := CallQ 1 (out x2 r)
noncomputable def s2 (p1 : Int) (p3 : List T814c.T) : St := ⟨70, [(0, .cv (.one (.ptr 0 0))), (6, .cv (.one (.own 1))), (7, .cv (.one (.i p1)))], (h0 x2 [(.buf 100 T814c p3, [])])⟩
noncomputable def s4 (p1 : Int) (p2 : Bool) (p4 : List T814c.T) : St := ⟨70, [(0, .cv (.one (.ptr 0 0))), (6, .cv (.one (.own 1))), (7, .cv (.one (.i p1))), (62, .cv (.one (.bool p2)))], (h0 x2 [(.buf 100 T814c p4, [])])⟩
noncomputable def s6 (p2 : List T814c.T) : St := ⟨70, [(0, .cv (.one (.ptr 0 0))), (6, .cv (.one (.own 1)))], (h0 x2 [(.buf 100 T814c p2, [])])⟩
noncomputable def s1 (p1 : Int) (p3 : List T814c.T) : St := ⟨70, [(6, .cv (.one (.own 1))), (7, .cv (.one (.i p1)))], (h0 x2 [(.buf 100 T814c p3, [])])⟩
noncomputable def j1 (x2 : T26b3.T) (k : Nat) (p1 : Int) (p3 : List T814c.T) : Option R :=
 some (p3, (p1, ()))
theorem j1_ok {r x2} {k p1 p3} (H : j1 x2 k p1 p3 = some r) : Gw P 1 (Q x2 r) (Px c0 31 []) (s1 x2 p1 p3) := by
 unfold j1 at H
 refine Ra ?_
 obtain rfl := Option.some.inj H
 exact Lq {fz := [1], gr := 0, ad := [], live := [4, 5], src := [some 0]}
noncomputable def j6 (k : Nat) (p2 : List T814c.T) : Option R :=
 j1 x2 k x2.2.2.2.2.1 p2
theorem j6_ok {r x2} {k p2} (H : j6 x2 k p2 = some r) : Gw P 1 (Q x2 r) (Px c0 87 []) (s6 x2 p2) := by
 unfold j6 at H
 refine Ra ?_
 exact Jm (tn [6, 7] 2) (j1_ok H)
noncomputable def j4 (k : Nat) (p1 : Int) (p2 : Bool) (p4 : List T814c.T) : Option R :=
 if p2 = true then
 j6 x2 k p4
else
 j1 x2 k p1 p4
theorem j4_ok {r x2} {k p1 p2 p4} (H : j4 x2 k p1 p2 p4 = some r) : Gw P 1 (Q x2 r) (Px c0 55 []) (s4 x2 p1 p2 p4) := by
 unfold j4 at H
 rcases of_ite H with ⟨hb16, H⟩ | ⟨hb16, H⟩
 ·refine C1 hb16 ?_
  exact Jm (tn [0, 6] 2) (j6_ok H)
 ·refine C0 hb16 ?_
  exact Jm (tn [6, 7] 2) (j1_ok H)
noncomputable def j2 (k : Nat) (p1 : Int) (p3 : List T814c.T) : Option R :=
 (i_control_controller_flips_ebc.f k x2 p3).bind fun y14 =>
 j4 x2 k p1 y14.1 p3
theorem j2_ok {r x2} {k p1 p3} (H : j2 x2 k p1 p3 = some r) : Gw P 1 (Q x2 r) (Px c0 15 []) (s2 x2 p1 p3) := by
 unfold j2 at H
 refine GT (tn [0, 6, 7] 2) (RI ?_)
 refine EV V_ok 0 [] 1 az ?_
 obtain ⟨y14, e15, H⟩ := of_bind H
 refine CL V_ok i_control_controller_flips_ebc.at_ (of_G (i_control_controller_flips_ebc.f_ok e15)) ?_
 refine RN ?_
 exact Jm (tn [0, 6, 7, 62] 2) (j4_ok H)
noncomputable def s3 (p1 : List T814c.T) (p2 : Int) : St := ⟨70, [(0, .cv (.one (.ptr 0 0))), (6, .cv (.one (.sl T814c p1 .full))), (7, .cv (.one (.i p2)))], (h0 x2 [])⟩
noncomputable def s5 (p1 : List T814c.T) (p2 : Int) (p3 : Bool) : St := ⟨70, [(0, .cv (.one (.ptr 0 0))), (6, .cv (.one (.sl T814c p1 .full))), (7, .cv (.one (.i p2))), (62, .cv (.one (.bool p3)))], (h0 x2 [])⟩
noncomputable def s7 (p1 : List T814c.T) : St := ⟨70, [(0, .cv (.one (.ptr 0 0))), (6, .cv (.one (.sl T814c p1 .full)))], (h0 x2 [])⟩
noncomputable def s8 (p1 : List T814c.T) (p2 : Int) : St := ⟨70, [(6, .cv (.one (.sl T814c p1 .full))), (7, .cv (.one (.i p2)))], (h0 x2 [])⟩
noncomputable def j8 (x2 : T26b3.T) (k : Nat) (p1 : List T814c.T) (p2 : Int) : Option R :=
 some (p1, (p2, ()))
theorem j8_ok {r x2} {k p1 p2} (H : j8 x2 k p1 p2 = some r) : Gw P 1 (Q x2 r) (Px c0 31 []) (s8 x2 p1 p2) := by
 unfold j8 at H
 refine Ra ?_
 obtain rfl := Option.some.inj H
 exact Lq {fz := [], gr := 0, ad := [.tmp 4 (.any)], live := [4, 5], src := [some 0]}
noncomputable def j7 (k : Nat) (p1 : List T814c.T) : Option R :=
 j8 x2 k p1 x2.2.2.2.2.1
theorem j7_ok {r x2} {k p1} (H : j7 x2 k p1 = some r) : Gw P 1 (Q x2 r) (Px c0 87 []) (s7 x2 p1) := by
 unfold j7 at H
 refine Ra ?_
 exact Jm (tn [6, 7] 1) (j8_ok H)
noncomputable def j5 (k : Nat) (p1 : List T814c.T) (p2 : Int) (p3 : Bool) : Option R :=
 if p3 = true then
 j7 x2 k p1
else
 j8 x2 k p1 p2
theorem j5_ok {r x2} {k p1 p2 p3} (H : j5 x2 k p1 p2 p3 = some r) : Gw P 1 (Q x2 r) (Px c0 55 []) (s5 x2 p1 p2 p3) := by
 unfold j5 at H
 rcases of_ite H with ⟨hb19, H⟩ | ⟨hb19, H⟩
 ·refine C1 hb19 ?_
  exact Jm (tn [0, 6] 1) (j7_ok H)
 ·refine C0 hb19 ?_
  exact Jm (tn [6, 7] 1) (j8_ok H)
noncomputable def j3 (k : Nat) (p1 : List T814c.T) (p2 : Int) : Option R :=
 (i_control_controller_flips_e28.f k x2).bind fun y17 =>
 j5 x2 k p1 p2 y17.1
theorem j3_ok {r x2} {k p1 p2} (H : j3 x2 k p1 p2 = some r) : Gw P 1 (Q x2 r) (Px c0 15 []) (s3 x2 p1 p2) := by
 unfold j3 at H
 refine GT (tn [0, 6, 7] 1) (RI ?_)
 refine EV V_ok 0 [] 1 az ?_
 obtain ⟨y17, e18, H⟩ := of_bind H
 refine CL V_ok i_control_controller_flips_e28.at_ (of_G (i_control_controller_flips_e28.f_ok e18)) ?_
 refine RN ?_
 exact Jm (tn [0, 6, 7, 62] 1) (j5_ok H)
noncomputable def f (k : Nat) (x1 : Int) (x2 : T26b3.T) : Option R :=
 if 0 ≤ x2.2.1 then
  if x2.2.1 < (x2.1.length : Int) then
   (f_conf_At.f k (att (.slice (.slice T1383)) x2.1 x2.2.1) x1).bind fun y1 =>
    (i_control_controller_two_e28.f k x2).bind fun y5 =>
     if y5.1 = true then
      if 0 ≤ x2.2.2.1 then
       if x2.2.2.1 < (x2.1.length : Int) then
        (f_conf_At.f k (att (.slice (.slice T1383)) x2.1 x2.2.2.1) x1).bind fun y8 =>
         (i_slices_SortStableFunc_Ver_885.f k x2 [(x2.2.2.2.1, y1.1), (x2.2.2.2.2.1, y8.1)]).bind fun y12 =>
          j2 x2 k x2.2.2.2.1 y12.1
       else none
      else none
     else
      j3 x2 k [(x2.2.2.2.1, y1.1)] x2.2.2.2.1
  else none
 else none
theorem f_ok {r k x1 x2} (H : f k x1 x2 = some r) : Gw P 1 (Q x2 r) (Px c0 1 []) (s0 x1 x2) := by
 unfold f at H
 refine Ra ?_
 obtain ⟨n2, H⟩ := of_if H
 obtain ⟨n3, H⟩ := of_if H
 obtain ⟨y1, e4, H⟩ := of_bind H
 refine Rg V_ok 0 [(18, hr f_conf_At.S y1)] (ac n2 (ac n3 (ac (f_conf_At.rl e4) az))) ?_
 refine GT (tn [0, 1, 6, 7] 1) (RI ?_)
 refine EV V_ok 0 [] 1 az ?_
 obtain ⟨y5, e6, H⟩ := of_bind H
 refine CL V_ok i_control_controller_two_e28.at_ (of_G (i_control_controller_two_e28.f_ok e6)) ?_
 refine RN ?_
 rcases of_ite H with ⟨hb7, H⟩ | ⟨hb7, H⟩
 ·refine C1 hb7 ?_
  obtain ⟨n9, H⟩ := of_if H
  obtain ⟨n10, H⟩ := of_if H
  obtain ⟨y8, e11, H⟩ := of_bind H
  refine Rg V_ok 1 [(19, hr f_conf_At.S y8), (22, hb 1)] (ac n9 (ac n10 (ac (f_conf_At.rl e11) (ac (show (1 + 1) * 32 ≤ 140737488355328 by decide) (ac (show 1 = 0 ∨ 0 < 1 by decide) az))))) ?_
  refine GT (tn [0, 6, 7] 2) (RI ?_)
  refine EV V_ok 0 [] 1 az ?_
  obtain ⟨y12, e13, H⟩ := of_bind H
  refine CL V_ok i_slices_SortStableFunc_Ver_885.at_ (of_G (i_slices_SortStableFunc_Ver_885.f_ok e13)) ?_
  refine RN ?_
  exact Jm (tn [0, 6, 7] 2) (j2_ok H)
 ·refine C0 hb7 ?_
  exact Jm (tn [0, 6, 7] 1) (j3_ok H)
theorem at_ : FnAt P 59 70 c0 f59.results := fnA func59
end i_control_controller_live_258
namespace f_control_Live
noncomputable def c0 : Code := bo f22
abbrev ps : Sg := [(true, T26b3), (false, (.int .i64))]
abbrev rs : Sg := [(false, (.slice T814c)), (false, (.int .i64))]
noncomputable def V : Env := eV []
theorem V_ok : EnvOk P V := eOk (slk_nil)
abbrev R := Tup rs
noncomputable abbrev Q (r : R) : Exit → St → Prop := Qr tt f22.results ⟨ps, rs, .any, none, fun _ _ => True⟩ r
noncomputable def f (k : Nat) (a1 : T26b3.T) (a2 : Int) : Option R :=
 (i_control_controller_is_e28.f k a1).bind fun y1 =>
  if y1.1 = true then
   (i_control_controller_live_258.f k a2 a1).bind fun y4 =>
    some (y4.1, (y4.2.1, ()))
  else
   some ([], ((0 : Int), ()))
noncomputable def S : Spec := ⟨ps, rs, .any, none, fun x r => ∃ k, f k x.1 x.2.1 = some r⟩
theorem rl {k a1 a2 r} (e : f k a1 a2 = some r) : S.rel (a1, a2, ()) r := ⟨k, e⟩
theorem f_ok {r k a1 a2} (H : f k a1 a2 = some r) : Gw P 0 (Q r) (Px c0 1 []) (⟨17, [(0, .cv (.agg (encC .any T26b3 a1))), (1, .cv (.one (.i a2)))], []⟩) := by
 unfold f at H
 refine Rg V_ok 1 [(0, hb 0)] az ?_
 refine Rg V_ok 1 [(2, hb 1)] az ?_
 refine GT (tl [1, 6] [1]) (RI ?_)
 refine EV V_ok 0 [] 1 az ?_
 obtain ⟨y1, e2, H⟩ := of_bind H
 refine CL V_ok i_control_controller_is_e28.at_ (of_G (i_control_controller_is_e28.f_ok e2)) ?_
 refine RN ?_
 rcases of_ite H with ⟨hb3, H⟩ | ⟨hb3, H⟩
 ·refine C1 hb3 ?_
  refine GT (tn [1, 6] 1) (RI ?_)
  refine EV V_ok 0 [] 2 az ?_
  obtain ⟨y4, e5, H⟩ := of_bind H
  refine CL V_ok i_control_controller_live_258.at_ (of_G (i_control_controller_live_258.f_ok e5)) ?_
  refine EV V_ok 0 [] 4 az ?_
  refine RN ?_
  exact Le H
 ·refine C0 hb3 ?_
  refine Ra ?_
  exact Le H
theorem fits : Fits P 22 S := fitsA V_ok func22 fun x r ⟨k, H⟩ => of_G (f_ok H)
end f_control_Live

namespace f_ref21_Live
noncomputable def c0 : Code := bo f23
abbrev ps : Sg := [(true, T26b3), (false, (.int .i64))]
abbrev rs : Sg := [(false, (.slice T814c)), (false, (.int .i64))]
noncomputable def V : Env := eV [(36, f_ref21_May.S), (60, f_ref12_At.S), (61, f_ref21_two.S)]
theorem V_ok : EnvOk P V := eOk (slk_cons f_ref21_May.fits (slk_cons f_ref12_At.fits (slk_cons f_ref21_two.fits (slk_nil))))
noncomputable def h0 (a1 : T26b3.T) (l : Hl) : Hl := (.box 13, (encC .any T26b3 a1)) :: l
abbrev R := Tup rs
noncomputable abbrev Q (r : R) : Exit → St → Prop := Qr tt f23.results ⟨ps, rs, .any, none, fun _ _ => True⟩ r
noncomputable def s2 (a1 : T26b3.T) (p1 : List T814c.T) : St := ⟨68, [(2, .cv (.one (.ptr 0 0))), (7, .cv (.one (.sl T814c p1 .full)))], (h0 a1 [])⟩
noncomputable def s1 (a1 : T26b3.T) (p1 : List T814c.T) (p2 : Bool) : St := ⟨68, [(2, .cv (.one (.ptr 0 0))), (7, .cv (.one (.sl T814c p1 .full))), (61, .cv (.one (.bool p2)))], (h0 a1 [])⟩
noncomputable def s5 (a1 : T26b3.T) (p1 : List T814c.T) : St := ⟨68, [(2, .cv (.one (.ptr 0 0))), (7, .cv (.one (.sl T814c p1 .full)))], (h0 a1 [])⟩
noncomputable def j5 (a1 : T26b3.T) (k : Nat) (p1 : List T814c.T) : Option R :=
 some (p1, (a1.2.2.2.2.1, ()))
theorem j5_ok {r a1} {k p1} (H : j5 a1 k p1 = some r) : Gw P 0 (Q r) (Px c0 703 []) (s5 a1 p1) := by
 unfold j5 at H
 refine Ra ?_
 exact Le H
noncomputable def s7 (a1 : T26b3.T) (p1 : List T814c.T) : St := ⟨68, [(2, .cv (.one (.ptr 0 0))), (7, .cv (.one (.sl T814c p1 .full)))], (h0 a1 [])⟩
noncomputable def j7 (a1 : T26b3.T) (k : Nat) (p1 : List T814c.T) : Option R :=
 some (p1, (a1.2.2.2.1, ()))
theorem j7_ok {r a1} {k p1} (H : j7 a1 k p1 = some r) : Gw P 0 (Q r) (Px c0 255 []) (s7 a1 p1) := by
 unfold j7 at H
 refine Ra ?_
 exact Le H
noncomputable def j1 (a1 : T26b3.T) (k : Nat) (p1 : List T814c.T) (p2 : Bool) : Option R :=
 if p2 = true then
 j5 a1 k p1
else
 j7 a1 k p1
theorem j1_ok {r a1} {k p1 p2} (H : j1 a1 k p1 p2 = some r) : Gw P 0 (Q r) (Px c0 447 []) (s1 a1 p1 p2) := by
 unfold j1 at H
 rcases of_ite H with ⟨hb17, H⟩ | ⟨hb17, H⟩
 ·refine C1 hb17 ?_
  exact Jm (tn [2, 7] 1) (j5_ok H)
 ·refine C0 hb17 ?_
  exact Jm (tn [2, 7] 1) (j7_ok H)
noncomputable def j2 (a1 : T26b3.T) (k : Nat) (p1 : List T814c.T) : Option R :=
 if (a1.2.2.2.2.2.1 == (2 : Int)) = true then
 j1 a1 k p1 true
else
 j1 a1 k p1 (a1.2.2.2.2.2.1 == (3 : Int))
theorem j2_ok {r a1} {k p1} (H : j2 a1 k p1 = some r) : Gw P 0 (Q r) (Px c0 127 []) (s2 a1 p1) := by
 unfold j2 at H
 rcases of_ite H with ⟨hb16, H⟩ | ⟨hb16, H⟩
 ·refine Rg V_ok 0 [(2, {bv := some true})] (ac hb16 az) ?_
  exact Jm (tn [2, 7, 61] 1) (j1_ok H)
 ·refine Rg V_ok 0 [(2, {bv := some false})] (ac hb16 az) ?_
  exact Jm (tn [2, 7, 61] 1) (j1_ok H)
noncomputable def s3 (a1 : T26b3.T) (p2 : List T814c.T) : St := ⟨68, [(2, .cv (.one (.ptr 0 0))), (7, .cv (.one (.own 1)))], (h0 a1 [(.buf 100 T814c p2, [])])⟩
noncomputable def s4 (a1 : T26b3.T) (p1 : Bool) (p3 : List T814c.T) : St := ⟨68, [(2, .cv (.one (.ptr 0 0))), (7, .cv (.one (.own 1))), (61, .cv (.one (.bool p1)))], (h0 a1 [(.buf 100 T814c p3, [])])⟩
noncomputable def s6 (a1 : T26b3.T) (p2 : List T814c.T) : St := ⟨68, [(2, .cv (.one (.ptr 0 0))), (7, .cv (.one (.own 1)))], (h0 a1 [(.buf 100 T814c p2, [])])⟩
noncomputable def j6 (a1 : T26b3.T) (k : Nat) (p2 : List T814c.T) : Option R :=
 some (p2, (a1.2.2.2.2.1, ()))
theorem j6_ok {r a1} {k p2} (H : j6 a1 k p2 = some r) : Gw P 0 (Q r) (Px c0 703 []) (s6 a1 p2) := by
 unfold j6 at H
 refine Ra ?_
 exact Le H
noncomputable def s8 (a1 : T26b3.T) (p2 : List T814c.T) : St := ⟨68, [(2, .cv (.one (.ptr 0 0))), (7, .cv (.one (.own 1)))], (h0 a1 [(.buf 100 T814c p2, [])])⟩
noncomputable def j8 (a1 : T26b3.T) (k : Nat) (p2 : List T814c.T) : Option R :=
 some (p2, (a1.2.2.2.1, ()))
theorem j8_ok {r a1} {k p2} (H : j8 a1 k p2 = some r) : Gw P 0 (Q r) (Px c0 255 []) (s8 a1 p2) := by
 unfold j8 at H
 refine Ra ?_
 exact Le H
noncomputable def j4 (a1 : T26b3.T) (k : Nat) (p1 : Bool) (p3 : List T814c.T) : Option R :=
 if p1 = true then
 j6 a1 k p3
else
 j8 a1 k p3
theorem j4_ok {r a1} {k p1 p3} (H : j4 a1 k p1 p3 = some r) : Gw P 0 (Q r) (Px c0 447 []) (s4 a1 p1 p3) := by
 unfold j4 at H
 rcases of_ite H with ⟨hb19, H⟩ | ⟨hb19, H⟩
 ·refine C1 hb19 ?_
  exact Jm (tn [2, 7] 2) (j6_ok H)
 ·refine C0 hb19 ?_
  exact Jm (tn [2, 7] 2) (j8_ok H)
noncomputable def j3 (a1 : T26b3.T) (k : Nat) (p2 : List T814c.T) : Option R :=
 if (a1.2.2.2.2.2.1 == (2 : Int)) = true then
 j4 a1 k true p2
else
 j4 a1 k (a1.2.2.2.2.2.1 == (3 : Int)) p2
theorem j3_ok {r a1} {k p2} (H : j3 a1 k p2 = some r) : Gw P 0 (Q r) (Px c0 127 []) (s3 a1 p2) := by
 unfold j3 at H
 rcases of_ite H with ⟨hb18, H⟩ | ⟨hb18, H⟩
 ·refine Rg V_ok 0 [(2, {bv := some true})] (ac hb18 az) ?_
  exact Jm (tn [2, 7, 61] 2) (j4_ok H)
 ·refine Rg V_ok 0 [(2, {bv := some false})] (ac hb18 az) ?_
  exact Jm (tn [2, 7, 61] 2) (j4_ok H)
noncomputable def f (k : Nat) (a1 : T26b3.T) (a2 : Int) : Option R :=
 (f_ref21_May.f k a1).bind fun y1 =>
  if (!y1.1) = true then
   some ([], ((0 : Int), ()))
  else
   if 0 ≤ a1.2.1 then
    if a1.2.1 < (a1.1.length : Int) then
     (f_ref12_At.f k (att (.slice (.slice T1383)) a1.1 a1.2.1) a2).bind fun y4 =>
      (f_ref21_two.f k a1).bind fun y8 =>
       if y8.1 = true then
        if 0 ≤ a1.2.2.1 then
         if a1.2.2.1 < (a1.1.length : Int) then
          (f_ref12_At.f k (att (.slice (.slice T1383)) a1.1 a1.2.2.1) a2).bind fun y11 =>
           if (decide (a1.2.2.2.2.1 < a1.2.2.2.1)) = true then
            j2 a1 k [(a1.2.2.2.2.1, y11.1), (att T814c [(a1.2.2.2.1, y4.1)] 0)]
           else
            j3 a1 k [(a1.2.2.2.1, y4.1), (a1.2.2.2.2.1, y11.1)]
         else none
        else none
       else
        j2 a1 k [(a1.2.2.2.1, y4.1)]
    else none
   else none
noncomputable def S : Spec := ⟨ps, rs, .any, none, fun x r => ∃ k, f k x.1 x.2.1 = some r⟩
theorem rl {k a1 a2 r} (e : f k a1 a2 = some r) : S.rel (a1, a2, ()) r := ⟨k, e⟩
theorem f_ok {r k a1 a2} (H : f k a1 a2 = some r) : Gw P 0 (Q r) (Px c0 1 []) (⟨68, [(0, .cv (.agg (encC .any T26b3 a1))), (1, .cv (.one (.i a2)))], []⟩) := by
 unfold f at H
 refine Rg V_ok 1 [(0, hb 0)] az ?_
 obtain ⟨y1, e2, H⟩ := of_bind H
 refine Rg V_ok 0 [(1, hr f_ref21_May.S y1)] (ac (f_ref21_May.rl e2) az) ?_
 refine Ra ?_
 rcases of_ite H with ⟨hb3, H⟩ | ⟨hb3, H⟩
 ·refine C1 hb3 ?_
  refine Ra ?_
  exact Le H
 ·refine C0 hb3 ?_
  obtain ⟨n5, H⟩ := of_if H
  obtain ⟨n6, H⟩ := of_if H
  obtain ⟨y4, e7, H⟩ := of_bind H
  refine Rg V_ok 0 [(9, hr f_ref12_At.S y4)] (ac n5 (ac n6 (ac (f_ref12_At.rl e7) az))) ?_
  obtain ⟨y8, e9, H⟩ := of_bind H
  refine Rg V_ok 0 [(1, hr f_ref21_two.S y8)] (ac (f_ref21_two.rl e9) az) ?_
  refine Ra ?_
  rcases of_ite H with ⟨hb10, H⟩ | ⟨hb10, H⟩
  ·refine C1 hb10 ?_
   obtain ⟨n12, H⟩ := of_if H
   obtain ⟨n13, H⟩ := of_if H
   obtain ⟨y11, e14, H⟩ := of_bind H
   refine Rg V_ok 1 [(9, hr f_ref12_At.S y11), (11, hb 1)] (ac n12 (ac n13 (ac (f_ref12_At.rl e14) az))) ?_
   refine Ra ?_
   rcases of_ite H with ⟨hb15, H⟩ | ⟨hb15, H⟩
   ·refine C1 hb15 ?_
    refine Rg V_ok 0 [] (ac (show 0 ≤ (0 : Int) by decide) (ac (show (0 : Int) < (1 : Int) by decide) az)) ?_
    exact Jm (tn [2, 7] 1) (j2_ok H)
   ·refine C0 hb15 ?_
    refine Rg V_ok 1 [(3, hb 2)] (ac (show (1 + 1) * 32 ≤ 140737488355328 by decide) (ac (show 1 = 0 ∨ 0 < 1 by decide) az)) ?_
    exact Jm (tl [2, 7] [0, 2]) (j3_ok H)
  ·refine C0 hb10 ?_
   exact Jm (tn [2, 7] 1) (j2_ok H)
theorem fits : Fits P 23 S := fitsA V_ok func23 fun x r ⟨k, H⟩ => of_G (f_ok H)
end f_ref21_Live

namespace f_ref09_Same
noncomputable def c0 : Code := bo f24
abbrev ps : Sg := [(false, (.slice T814c)), (false, (.slice T814c))]
abbrev rs : Sg := [(false, .bool)]
noncomputable def V : Env := eV [(62, f_ref08_Same.S)]
theorem V_ok : EnvOk P V := eOk (slk_cons f_ref08_Same.fits (slk_nil))
abbrev R := Tup rs
noncomputable abbrev Q (r : R) : Exit → St → Prop := Qr tt f24.results ⟨ps, rs, .any, none, fun _ _ => True⟩ r
noncomputable def s1 (p1 p2 : List T814c.T) (p3 : Int) : St := ⟨44, [(0, .cv (.one (.sl T814c p1 .any))), (1, .cv (.one (.sl T814c p2 .any))), (5, .cv (.one (.i p3)))], []⟩
noncomputable def s2 (p1 p2 : List T814c.T) (p3 : Int) (p4 : Bool) : St := ⟨44, [(0, .cv (.one (.sl T814c p1 .any))), (1, .cv (.one (.sl T814c p2 .any))), (5, .cv (.one (.i p3))), (43, .cv (.one (.bool p4)))], []⟩
noncomputable def j2 (L1 : List T814c.T → List T814c.T → Int → Option R) (k : Nat) (p1 p2 : List T814c.T) (p3 : Int) (p4 : Bool) : Option R :=
 if p4 = true then
 some (false, ())
else
 L1 p1 p2 (IntKind.i64.wrap (p3 + 1))
theorem j2_ok {r} {L1 : List T814c.T → List T814c.T → Int → Option R} {m1 : Nat} (hL1 : ∀ p1 p2 p3, L1 p1 p2 p3 = some r → Gw P 0 (Q r) (Pb c0 43 [] m1) (s1 p1 p2 p3)) {k p1 p2 p3 p4} (H : j2 L1 k p1 p2 p3 p4 = some r) : Gw P 0 (Q r) (Px c0 3659 [m1]) (s2 p1 p2 p3 p4) := by
 unfold j2 at H
 rcases of_ite H with ⟨hb9, H⟩ | ⟨hb9, H⟩
 ·refine C1 hb9 ?_
  refine Ra ?_
  exact Le H
 ·refine C0 hb9 ?_
  refine Ra ?_
  exact Jm (tn [0, 1, 5] 0) (hL1 p1 p2 (IntKind.i64.wrap (p3 + 1)) H)
noncomputable def b1 (L1 : List T814c.T → List T814c.T → Int → Option R) (k : Nat) (p1 p2 : List T814c.T) (p3 : Int) : Option R :=
 if (decide (p3 < (p1.length : Int))) = true then
 if 0 ≤ p3 then
  if p3 < (p1.length : Int) then
   if p3 < (p2.length : Int) then
    (f_ref08_Same.f k ((att T814c p1 p3).2) ((att T814c p2 p3).2)).bind fun y3 =>
     if (!y3.1) = true then
      j2 L1 k p1 p2 p3 true
     else
      j2 L1 k p1 p2 p3 (((att T814c p1 p3).1) != ((att T814c p2 p3).1))
   else none
  else none
 else none
else
 some (true, ())
theorem b1_ok {r} {L1 : List T814c.T → List T814c.T → Int → Option R} {m1 : Nat} (hL1 : ∀ p1 p2 p3, L1 p1 p2 p3 = some r → Gw P 0 (Q r) (Pb c0 43 [] m1) (s1 p1 p2 p3)) {k p1 p2 p3} (H : b1 L1 k p1 p2 p3 = some r) : Gw P 0 (Q r) (Px c0 75 [m1]) (s1 p1 p2 p3) := by
 unfold b1 at H
 refine Ra ?_
 rcases of_ite H with ⟨hb2, H⟩ | ⟨hb2, H⟩
 ·refine C1 hb2 ?_
  obtain ⟨n4, H⟩ := of_if H
  obtain ⟨n5, H⟩ := of_if H
  obtain ⟨n6, H⟩ := of_if H
  obtain ⟨y3, e7, H⟩ := of_bind H
  refine Rg V_ok 0 [(10, hr f_ref08_Same.S y3)] (ac n4 (ac n5 (ac n4 (ac n6 (ac (f_ref08_Same.rl e7) az))))) ?_
  rcases of_ite H with ⟨hb8, H⟩ | ⟨hb8, H⟩
  ·refine Rg V_ok 0 [(1, {bv := some true})] (ac hb8 az) ?_
   exact Jm (tn [0, 1, 5, 43] 0) (j2_ok hL1 H)
  ·refine Rg V_ok 0 [(1, {bv := some false})] (ac hb8 (ac n4 (ac n5 (ac n4 (ac n6 az))))) ?_
   exact Jm (tn [0, 1, 5, 43] 0) (j2_ok hL1 H)
 ·refine C0 hb2 ?_
  refine Ra ?_
  exact Le H
noncomputable def l1 (k : Nat) : Nat → List T814c.T → List T814c.T → Int → Option R
 | 0, _, _, _ => none
 | m + 1, p1, p2, p3 => b1 (l1 k m) k p1 p2 p3
theorem l1_ok {r} (k : Nat) : ∀ (m1 : Nat) (p1 p2 : List T814c.T) (p3 : Int), l1 k m1 p1 p2 p3 = some r → Gw P 0 (Q r) (Pb c0 43 [] m1) (s1 p1 p2 p3)
 | 0, _, _, _, H => by cases H
 | m1 + 1, p1, p2, p3, H => SU (by kernel_rfl) (b1_ok (l1_ok k m1) H)
noncomputable def f (k : Nat) (a1 a2 : List T814c.T) : Option R :=
 if ((a1.length : Int) != (a2.length : Int)) = true then
  some (false, ())
 else
  l1 k k a1 a2 0
noncomputable def S : Spec := ⟨ps, rs, .any, none, fun x r => ∃ k, f k x.1 x.2.1 = some r⟩
theorem rl {k a1 a2 r} (e : f k a1 a2 = some r) : S.rel (a1, a2, ()) r := ⟨k, e⟩
theorem f_ok {r k a1 a2} (H : f k a1 a2 = some r) : Gw P 0 (Q r) (Px c0 1 []) (⟨44, [(0, .cv (.one (.sl T814c a1 .any))), (1, .cv (.one (.sl T814c a2 .any)))], []⟩) := by
 unfold f at H
 refine Ra ?_
 refine Ra ?_
 rcases of_ite H with ⟨hb1, H⟩ | ⟨hb1, H⟩
 ·refine C1 hb1 ?_
  refine Ra ?_
  exact Le H
 ·refine C0 hb1 ?_
  refine Ra ?_
  exact LP k (Jm (tn [0, 1, 5] 0) (l1_ok k k a1 a2 0 H))
theorem fits : Fits P 24 S := fitsA V_ok func24 fun x r ⟨k, H⟩ => of_G (f_ok H)
end f_ref09_Same

namespace f_law21_ControlTicks
noncomputable def c0 : Code := bo f5
abbrev ps : Sg := [(true, T26b3), (false, (.int .i64))]
abbrev rs : Sg := [(false, .bool)]
noncomputable def V : Env := eV [(7, f_law21_awake.S), (8, f_law21_Few.S), (9, f_ref21_Same.S), (17, f_control_Tick.S), (18, f_ref21_Tick.S), (19, f_ref14_Same.S), (20, f_control_Sends.S), (21, f_ref21_Sends.S), (22, f_control_Live.S), (23, f_ref21_Live.S), (24, f_ref09_Same.S)]
theorem V_ok : EnvOk P V := eOk (slk_cons f_law21_awake.fits (slk_cons f_law21_Few.fits (slk_cons f_ref21_Same.fits (slk_cons f_control_Tick.fits (slk_cons f_ref21_Tick.fits (slk_cons f_ref14_Same.fits (slk_cons f_control_Sends.fits (slk_cons f_ref21_Sends.fits (slk_cons f_control_Live.fits (slk_cons f_ref21_Live.fits (slk_cons f_ref09_Same.fits (slk_nil))))))))))))
abbrev R := Tup rs
noncomputable abbrev Q (r : R) : Exit → St → Prop := Qr tt f5.results ⟨ps, rs, .any, none, fun _ _ => True⟩ r
noncomputable def s1 (a1 : T26b3.T) (a2 : Int) (p2 p3 : Bool) : St := ⟨61, [(1, .cv (.one (.i a2))), (2, .cv (.one (.ptr 0 0))), (5, .cv (.one (.bool p2))), (22, .cv (.one (.bool p3)))], [(.box 13, (encC .any T26b3 a1))]⟩
noncomputable def j1 (a1 : T26b3.T) (a2 : Int) (k : Nat) (p2 p3 : Bool) : Option R :=
 if p3 = true then
 some (p2, ())
else
 (f_control_Tick.f k a1).bind fun y7 =>
  (f_ref21_Tick.f k a1).bind fun y8 =>
   (f_ref21_Same.f k y7.1 y8.1).bind fun y9 =>
    (f_control_Sends.f k a1).bind fun y13 =>
     (f_ref21_Sends.f k a1).bind fun y14 =>
      (f_ref14_Same.f k y13.1 y14.1).bind fun y15 =>
       (f_control_Live.f k a1 a2).bind fun y19 =>
        (f_ref21_Live.f k a1 a2).bind fun y21 =>
         (f_ref09_Same.f k y19.1 y21.1).bind fun y23 =>
          if y9.1 = true then
           if y15.1 = true then
            if y23.1 = true then
             some ((y19.2.1 == y21.2.1), ())
            else
             some (false, ())
           else
            some (false, ())
          else
           some (false, ())
theorem j1_ok {r a1 a2} {k p2 p3} (H : j1 a1 a2 k p2 p3 = some r) : Gw P 0 (Q r) (Px c0 55 []) (s1 a1 a2 p2 p3) := by
 unfold j1 at H
 rcases of_ite H with ⟨hb6, H⟩ | ⟨hb6, H⟩
 ·refine C1 hb6 ?_
  refine Ra ?_
  exact Le H
 ·refine C0 hb6 ?_
  obtain ⟨y7, e10, H⟩ := of_bind H
  obtain ⟨y8, e11, H⟩ := of_bind H
  obtain ⟨y9, e12, H⟩ := of_bind H
  refine Rg V_ok 0 [(1, hr f_control_Tick.S y7), (3, hr f_ref21_Tick.S y8), (4, hr f_ref21_Same.S y9)] (ac (f_control_Tick.rl e10) (ac (f_ref21_Tick.rl e11) (ac (f_ref21_Same.rl e12) az))) ?_
  obtain ⟨y13, e16, H⟩ := of_bind H
  obtain ⟨y14, e17, H⟩ := of_bind H
  obtain ⟨y15, e18, H⟩ := of_bind H
  refine Rg V_ok 0 [(1, hr f_control_Sends.S y13), (3, hr f_ref21_Sends.S y14), (4, hr f_ref14_Same.S y15)] (ac (f_control_Sends.rl e16) (ac (f_ref21_Sends.rl e17) (ac (f_ref14_Same.rl e18) az))) ?_
  obtain ⟨y19, e20, H⟩ := of_bind H
  refine Rg V_ok 0 [(2, hr f_control_Live.S y19)] (ac (f_control_Live.rl e20) az) ?_
  obtain ⟨y21, e22, H⟩ := of_bind H
  refine Rg V_ok 0 [(2, hr f_ref21_Live.S y21)] (ac (f_ref21_Live.rl e22) az) ?_
  obtain ⟨y23, e24, H⟩ := of_bind H
  refine Rg V_ok 0 [(2, hr f_ref09_Same.S y23)] (ac (f_ref09_Same.rl e24) az) ?_
  rcases of_ite H with ⟨hb25, H⟩ | ⟨hb25, H⟩
  ·rcases of_ite H with ⟨hb26, H⟩ | ⟨hb26, H⟩
   ·rcases of_ite H with ⟨hb27, H⟩ | ⟨hb27, H⟩
    ·refine Rg V_ok 0 [(0, {bv := some true}), (3, {bv := some true}), (6, {bv := some true})] (ac hb25 (ac hb26 (ac hb27 az))) ?_
     exact Le H
    ·refine Rg V_ok 0 [(0, {bv := some true}), (3, {bv := some true}), (6, {bv := some false})] (ac hb25 (ac hb26 (ac hb27 az))) ?_
     exact Le H
   ·refine Rg V_ok 0 [(0, {bv := some true}), (3, {bv := some false})] (ac hb25 (ac hb26 az)) ?_
    exact Le H
  ·refine Rg V_ok 0 [(0, {bv := some false})] (ac hb25 az) ?_
   exact Le H
noncomputable def f (k : Nat) (a1 : T26b3.T) (a2 : Int) : Option R :=
 (f_law21_awake.f k).bind fun y1 =>
  (f_law21_Few.f k a1).bind fun y3 =>
   if (!y1.1) = true then
    j1 a1 a2 k y1.1 true
   else
    j1 a1 a2 k y1.1 (!y3.1)
noncomputable def S : Spec := ⟨ps, rs, .any, none, fun x r => ∃ k, f k x.1 x.2.1 = some r⟩
theorem rl {k a1 a2 r} (e : f k a1 a2 = some r) : S.rel (a1, a2, ()) r := ⟨k, e⟩
theorem f_ok {r k a1 a2} (H : f k a1 a2 = some r) : Gw P 0 (Q r) (Px c0 1 []) (⟨61, [(0, .cv (.agg (encC .any T26b3 a1))), (1, .cv (.one (.i a2)))], []⟩) := by
 unfold f at H
 refine Rg V_ok 1 [(0, hb 0)] az ?_
 obtain ⟨y1, e2, H⟩ := of_bind H
 refine Rg V_ok 0 [(0, hr f_law21_awake.S y1)] (ac (f_law21_awake.rl e2) az) ?_
 obtain ⟨y3, e4, H⟩ := of_bind H
 refine Rg V_ok 0 [(1, hr f_law21_Few.S y3)] (ac (f_law21_Few.rl e4) az) ?_
 rcases of_ite H with ⟨hb5, H⟩ | ⟨hb5, H⟩
 ·refine Rg V_ok 0 [(1, {bv := some true})] (ac hb5 az) ?_
  exact Jm (tn [1, 2, 5, 22] 1) (j1_ok H)
 ·refine Rg V_ok 0 [(1, {bv := some false})] (ac hb5 az) ?_
  exact Jm (tn [1, 2, 5, 22] 1) (j1_ok H)
theorem fits : Fits P 5 S := fitsA V_ok func5 fun x r ⟨k, H⟩ => of_G (f_ok H)
end f_law21_ControlTicks

end Go.Proofs.YtkhjemahenkdiaaGreatDoor.V
