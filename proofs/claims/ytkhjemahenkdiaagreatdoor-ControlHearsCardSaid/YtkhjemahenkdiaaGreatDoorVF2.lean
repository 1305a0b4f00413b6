/- Functions of the program, as Lean functions, and that the code answers so. Printed by vgen.py. -/
import Derived.Test.YtkhjemahenkdiaaGreatDoorVF1
namespace Go.Proofs.YtkhjemahenkdiaaGreatDoor.V
open Go Go.RowKit
set_option linter.unusedVariables false
set_option linter.unusedSimpArgs false
set_option maxRecDepth 100000
set_option maxHeartbeats 4000000
/-! ### function 155, wayfinder/wayfinderref02.Get -/
namespace f_ref02_Get
noncomputable def c0 : Code := (Go.Proofs.Tryz.f155.body).getD .skip
abbrev ps : Sg := [(false, (.slice (.int .u8))), (false, (.int .i64))]
abbrev rs : Sg := [(false, (.int .i64)), (false, (.int .i64))]
noncomputable def V : Env := { tt := tt, Γ := slk [] }
theorem V_ok : EnvOk P V := { ck := tt_ck, fits := slk_nil, mixed := mixed }
abbrev R := Tup rs
noncomputable abbrev Q (r : R) : Exit → St → Prop := Qr tt Go.Proofs.Tryz.f155.results ⟨ps, rs, .any, none, fun _ _ => True⟩ r
noncomputable def s1 (p1 : List Int) (p2 : Int) (p3 : Bool) : St := ⟨32, [(0, .cv (.one (.sl (.int .u8) p1 .any))), (1, .cv (.one (.i p2))), (13, .cv (.one (.bool p3)))], []⟩
noncomputable def s2 (p1 : List Int) (p2 p3 p4 : Int) : St := ⟨32, [(0, .cv (.one (.sl (.int .u8) p1 .any))), (1, .cv (.one (.i p2))), (6, .cv (.one (.i p3))), (7, .cv (.one (.i p4)))], []⟩
noncomputable def b2 (L2 : List Int → Int → Int → Int → Option R) (k : Nat) (p1 : List Int) (p2 p3 p4 : Int) : Option R :=
  if (decide (p4 < p2)) = true then
  if 0 ≤ p4 then
    if p4 < (p1.length : Int) then
      L2 p1 p2 (IntKind.i64.wrap ((IntKind.i64.wrap (p3 * 256)) + (IntKind.i64.wrap (att (.int .u8) p1 p4)))) (IntKind.i64.wrap (p4 + 1))
    else none
  else none
else
  some (p3, ((0 : Int), ()))
theorem b2_ok {r} {L2 : List Int → Int → Int → Int → Option R} {m2 : Nat} (hL2 : ∀ p1 p2 p3 p4, L2 p1 p2 p3 p4 = some r → Gw P 0 (Q r) (Pb c0 175 [] m2) (s2 p1 p2 p3 p4)) {k p1 p2 p3 p4} (H : b2 L2 k p1 p2 p3 p4 = some r) : Gw P 0 (Q r) (Px c0 303 [m2]) (s2 p1 p2 p3 p4) := by
  unfold b2 at H
  refine Rg V_ok 0 [] az ?_
  rcases of_ite H with ⟨hb4, H⟩ | ⟨hb4, H⟩
  · refine C1 hb4 ?_
    obtain ⟨n5, H⟩ := of_if H
    obtain ⟨n6, H⟩ := of_if H
    refine Rg V_ok 0 [] (ac n5 (ac n6 az)) ?_
    refine Rg V_ok 0 [] az ?_
    exact Jm (tn [0, 1, 6, 7] 0) (hL2 p1 p2 (IntKind.i64.wrap ((IntKind.i64.wrap (p3 * 256)) + (IntKind.i64.wrap (att (.int .u8) p1 p4)))) (IntKind.i64.wrap (p4 + 1)) H)
  · refine C0 hb4 ?_
    refine Rg V_ok 0 [] az ?_
    exact Lf (Eq.trans (by kernel_rfl) H)
noncomputable def l2 (k : Nat) : Nat → List Int → Int → Int → Int → Option R
  | 0, _, _, _, _ => none
  | m + 1, p1, p2, p3, p4 => b2 (l2 k m) k p1 p2 p3 p4
theorem l2_ok {r} (k : Nat) : ∀ (m2 : Nat) (p1 : List Int) (p2 p3 : Int) (p4 : Int), l2 k m2 p1 p2 p3 p4 = some r → Gw P 0 (Q r) (Pb c0 175 [] m2) (s2 p1 p2 p3 p4)
  | 0, _, _, _, _, H => by cases H
  | m2 + 1, p1, p2, p3, p4, H => SU (by kernel_rfl) (b2_ok (l2_ok k m2) H)
noncomputable def j1 (k : Nat) (p1 : List Int) (p2 : Int) (p3 : Bool) : Option R :=
  if p3 = true then
  some ((0 : Int), ((1 : Int), ()))
else
  if (decide ((p1.length : Int) < p2)) = true then
    some ((0 : Int), ((3 : Int), ()))
  else
    l2 k k p1 p2 0 0
theorem j1_ok {r} {k p1 p2 p3} (H : j1 k p1 p2 p3 = some r) : Gw P 0 (Q r) (Px c0 13 []) (s1 p1 p2 p3) := by
  unfold j1 at H
  rcases of_ite H with ⟨hb2, H⟩ | ⟨hb2, H⟩
  · refine C1 hb2 ?_
    refine Rg V_ok 0 [] az ?_
    exact Lf (Eq.trans (by kernel_rfl) H)
  · refine C0 hb2 ?_
    refine Rg V_ok 0 [] az ?_
    rcases of_ite H with ⟨hb3, H⟩ | ⟨hb3, H⟩
    · refine C1 hb3 ?_
      refine Rg V_ok 0 [] az ?_
      exact Lf (Eq.trans (by kernel_rfl) H)
    · refine C0 hb3 ?_
      refine Rg V_ok 0 [] az ?_
      refine Rg V_ok 0 [] az ?_
      exact LP k (Jm (tn [0, 1, 6, 7] 0) (l2_ok k k p1 p2 0 0 H))
noncomputable def f (k : Nat) (a1 : List Int) (a2 : Int) : Option R :=
  if (decide (a2 < (1 : Int))) = true then
    j1 k a1 a2 true
  else
    j1 k a1 a2 (decide (a2 > (4 : Int)))
noncomputable def S : Spec := ⟨ps, rs, .any, none, fun x r => ∃ k, f k x.1 x.2.1 = some r⟩
theorem rl {k a1 a2 r} (e : f k a1 a2 = some r) : S.rel (a1, a2, ()) r := ⟨k, e⟩
theorem f_ok {r k a1 a2} (H : f k a1 a2 = some r) : Gw P 0 (Q r) (Px c0 1 []) (⟨32, [(0, .cv (.one (.sl (.int .u8) a1 .any))), (1, .cv (.one (.i a2)))], []⟩) := by
  unfold f at H
  refine Rg V_ok 0 [] az ?_
  rcases of_ite H with ⟨hb1, H⟩ | ⟨hb1, H⟩
  · refine Rg V_ok 0 [(1, {bv := some true})] (ac hb1 az) ?_
    exact Jm (tn [0, 1, 13] 0) (j1_ok H)
  · refine Rg V_ok 0 [(1, {bv := some false})] (ac hb1 az) ?_
    exact Jm (tn [0, 1, 13] 0) (j1_ok H)
theorem fits : Fits P 155 S := fits_of V_ok Go.Proofs.Tryz.func155 (by kernel_rfl) (by decide) (by decide) rfl (fun x r ⟨k, H⟩ => of_G (f_ok H))
end f_ref02_Get
/-! ### function 127, wayfinder/wayfinderref02.GetAll -/
namespace f_ref02_GetAll
noncomputable def c0 : Code := (Go.Proofs.Tryz.f127.body).getD .skip
abbrev ps : Sg := [(false, (.slice (.int .u8))), (false, (.slice (.int .i64)))]
abbrev rs : Sg := [(false, (.slice (.int .i64))), (false, (.int .i64)), (false, (.int .i64))]
noncomputable def V : Env := { tt := tt, Γ := slk [(155, f_ref02_Get.S)] }
theorem V_ok : EnvOk P V := { ck := tt_ck, fits := slk_cons f_ref02_Get.fits (slk_nil), mixed := mixed }
abbrev R := Tup rs
noncomputable abbrev Q (r : R) : Exit → St → Prop := Qr tt Go.Proofs.Tryz.f127.results ⟨ps, rs, .any, none, fun _ _ => True⟩ r
noncomputable def s1 (p1 p2 : List Int) (p3 p4 : Int) (p5 : List Int) : St := ⟨44, [(0, .cv (.one (.sl (.int .u8) p1 .any))), (1, .cv (.one (.sl (.int .i64) p2 .any))), (7, .cv (.one (.own 0))), (8, .cv (.one (.i p3))), (9, .cv (.one (.i p4)))], [(.buf 3 (.int .i64) p5, [])]⟩
noncomputable def b1 (L1 : List Int → List Int → Int → Int → List Int → Option R) (k : Nat) (p1 p2 : List Int) (p3 p4 : Int) (p5 : List Int) : Option R :=
  if (decide (p4 < (p2.length : Int))) = true then
  if 0 ≤ p3 ∧ p3 ≤ (p1.length : Int) ∧ (p1.length : Int) ≤ (p1.length : Int) then
    if 0 ≤ p4 then
      if p4 < (p2.length : Int) then
        (f_ref02_Get.f k ((p1.take (p1.length : Int).toNat).drop p3.toNat) (att (.int .i64) p2 p4)).bind fun y2 =>
          if (y2.2.1 != (0 : Int)) = true then
            some ([], ((0 : Int), (y2.2.1, ())))
          else
            if (p5.length + 1) * 8 ≤ 140737488355328 then
              L1 p1 p2 (IntKind.i64.wrap (p3 + (att (.int .i64) p2 p4))) (IntKind.i64.wrap (p4 + 1)) (p5 ++ [y2.1])
            else none
      else none
    else none
  else none
else
  some (p5, (p3, ((0 : Int), ())))
theorem b1_ok {r} {L1 : List Int → List Int → Int → Int → List Int → Option R} {m1 : Nat} (hL1 : ∀ p1 p2 p3 p4 p5, L1 p1 p2 p3 p4 p5 = some r → Gw P 0 (Q r) (Pb c0 87 [] m1) (s1 p1 p2 p3 p4 p5)) {k p1 p2 p3 p4 p5} (H : b1 L1 k p1 p2 p3 p4 p5 = some r) : Gw P 0 (Q r) (Px c0 151 [m1]) (s1 p1 p2 p3 p4 p5) := by
  unfold b1 at H
  refine Rg V_ok 0 [] az ?_
  rcases of_ite H with ⟨hb1, H⟩ | ⟨hb1, H⟩
  · refine C1 hb1 ?_
    obtain ⟨n3, H⟩ := of_if H
    obtain ⟨n4, H⟩ := of_if H
    obtain ⟨n5, H⟩ := of_if H
    obtain ⟨y2, e6, H⟩ := of_bind H
    refine Rg V_ok 0 [(7, hr f_ref02_Get.S y2)] (ac n3 (ac n4 (ac n5 (ac (f_ref02_Get.rl e6) az)))) ?_
    refine Rg V_ok 0 [] az ?_
    rcases of_ite H with ⟨hb7, H⟩ | ⟨hb7, H⟩
    · refine C1 hb7 ?_
      refine Rg V_ok 0 [] az ?_
      exact Lf (Eq.trans (by kernel_rfl) H)
    · refine C0 hb7 ?_
      obtain ⟨n8, H⟩ := of_if H
      refine Rg V_ok 1 [(3, hb 1)] (ac n8 az) ?_
      refine Rg V_ok 0 [] (ac n4 (ac n5 az)) ?_
      refine Rg V_ok 0 [] az ?_
      exact Jm (tl [0, 1, 7, 8, 9] [1]) (hL1 p1 p2 (IntKind.i64.wrap (p3 + (att (.int .i64) p2 p4))) (IntKind.i64.wrap (p4 + 1)) (p5 ++ [y2.1]) H)
  · refine C0 hb1 ?_
    refine Rg V_ok 0 [] az ?_
    exact Lf (Eq.trans (by kernel_rfl) H)
noncomputable def l1 (k : Nat) : Nat → List Int → List Int → Int → Int → List Int → Option R
  | 0, _, _, _, _, _ => none
  | m + 1, p1, p2, p3, p4, p5 => b1 (l1 k m) k p1 p2 p3 p4 p5
theorem l1_ok {r} (k : Nat) : ∀ (m1 : Nat) (p1 p2 : List Int) (p3 p4 : Int) (p5 : List Int), l1 k m1 p1 p2 p3 p4 p5 = some r → Gw P 0 (Q r) (Pb c0 87 [] m1) (s1 p1 p2 p3 p4 p5)
  | 0, _, _, _, _, _, H => by cases H
  | m1 + 1, p1, p2, p3, p4, p5, H => SU (by kernel_rfl) (b1_ok (l1_ok k m1) H)
noncomputable def f (k : Nat) (a1 a2 : List Int) : Option R :=
  l1 k k a1 a2 0 0 []
noncomputable def S : Spec := ⟨ps, rs, .any, none, fun x r => ∃ k, f k x.1 x.2.1 = some r⟩
theorem rl {k a1 a2 r} (e : f k a1 a2 = some r) : S.rel (a1, a2, ()) r := ⟨k, e⟩
theorem f_ok {r k a1 a2} (H : f k a1 a2 = some r) : Gw P 0 (Q r) (Px c0 1 []) (⟨44, [(0, .cv (.one (.sl (.int .u8) a1 .any))), (1, .cv (.one (.sl (.int .i64) a2 .any)))], []⟩) := by
  unfold f at H
  refine Rg V_ok 0 [] az ?_
  refine Rg V_ok 0 [] az ?_
  refine Rg V_ok 0 [] az ?_
  refine Rg V_ok 0 [] az ?_
  exact LP k (Jm {fz := [], gr := 1, ad := [.ownT 7 0 3 (.int .i64)], live := [0, 1, 7, 8, 9], src := [some 0]} (l1_ok k k a1 a2 0 0 [] H))
theorem fits : Fits P 127 S := fits_of V_ok Go.Proofs.Tryz.func127 (by kernel_rfl) (by decide) (by decide) rfl (fun x r ⟨k, H⟩ => of_G (f_ok H))
end f_ref02_GetAll
/-! ### function 164, wayfinder/wayfinderref01.Bit -/
namespace f_ref01_Bit
noncomputable def c0 : Code := (Go.Proofs.Tryz.f164.body).getD .skip
abbrev ps : Sg := [(false, (.int .i64)), (false, (.int .i64))]
abbrev rs : Sg := [(false, (.int .i64))]
noncomputable def V : Env := { tt := tt, Γ := slk [] }
theorem V_ok : EnvOk P V := { ck := tt_ck, fits := slk_nil, mixed := mixed }
abbrev R := Tup rs
noncomputable abbrev Q (r : R) : Exit → St → Prop := Qr tt Go.Proofs.Tryz.f164.results ⟨ps, rs, .any, none, fun _ _ => True⟩ r
noncomputable def s1 (p1 p2 : Int) (p3 : Bool) : St := ⟨24, [(0, .cv (.one (.i p1))), (1, .cv (.one (.i p2))), (12, .cv (.one (.bool p3)))], []⟩
noncomputable def s2 (p1 p2 p3 : Int) : St := ⟨24, [(1, .cv (.one (.i p1))), (5, .cv (.one (.i p2))), (6, .cv (.one (.i p3)))], []⟩
noncomputable def b2 (L2 : Int → Int → Int → Option R) (k : Nat) (p1 p2 p3 : Int) : Option R :=
  if (decide (p3 > p1)) = true then
  L2 p1 (IntKind.i64.wrap (Int.tdiv p2 2)) (IntKind.i64.wrap (p3 - 1))
else
  some ((Int.tmod p2 2), ())
theorem b2_ok {r} {L2 : Int → Int → Int → Option R} {m2 : Nat} (hL2 : ∀ p1 p2 p3, L2 p1 p2 p3 = some r → Gw P 0 (Q r) (Pb c0 87 [] m2) (s2 p1 p2 p3)) {k p1 p2 p3} (H : b2 L2 k p1 p2 p3 = some r) : Gw P 0 (Q r) (Px c0 151 [m2]) (s2 p1 p2 p3) := by
  unfold b2 at H
  refine Rg V_ok 0 [] az ?_
  rcases of_ite H with ⟨hb3, H⟩ | ⟨hb3, H⟩
  · refine C1 hb3 ?_
    refine Rg V_ok 0 [] (ac (show (2 : Int) ≠ 0 by decide) az) ?_
    refine Rg V_ok 0 [] az ?_
    exact Jm (tn [1, 5, 6] 0) (hL2 p1 (IntKind.i64.wrap (Int.tdiv p2 2)) (IntKind.i64.wrap (p3 - 1)) H)
  · refine C0 hb3 ?_
    refine Rg V_ok 0 [] (ac (show (2 : Int) ≠ 0 by decide) az) ?_
    exact Lf (Eq.trans (by kernel_rfl) H)
noncomputable def l2 (k : Nat) : Nat → Int → Int → Int → Option R
  | 0, _, _, _ => none
  | m + 1, p1, p2, p3 => b2 (l2 k m) k p1 p2 p3
theorem l2_ok {r} (k : Nat) : ∀ (m2 : Nat) (p1 p2 : Int) (p3 : Int), l2 k m2 p1 p2 p3 = some r → Gw P 0 (Q r) (Pb c0 87 [] m2) (s2 p1 p2 p3)
  | 0, _, _, _, H => by cases H
  | m2 + 1, p1, p2, p3, H => SU (by kernel_rfl) (b2_ok (l2_ok k m2) H)
noncomputable def j1 (k : Nat) (p1 p2 : Int) (p3 : Bool) : Option R :=
  if p3 = true then
  some ((0 : Int), ())
else
  l2 k k p2 (IntKind.i64.wrap (((BitVec.ofInt IntKind.i64.bits p1 &&& BitVec.ofInt IntKind.i64.bits 4294967295).toNat : Int))) 31
theorem j1_ok {r} {k p1 p2 p3} (H : j1 k p1 p2 p3 = some r) : Gw P 0 (Q r) (Px c0 13 []) (s1 p1 p2 p3) := by
  unfold j1 at H
  rcases of_ite H with ⟨hb2, H⟩ | ⟨hb2, H⟩
  · refine C1 hb2 ?_
    refine Rg V_ok 0 [] az ?_
    exact Lf (Eq.trans (by kernel_rfl) H)
  · refine C0 hb2 ?_
    refine Rg V_ok 0 [] az ?_
    refine Rg V_ok 0 [] az ?_
    exact LP k (Jm (tn [1, 5, 6] 0) (l2_ok k k p2 (IntKind.i64.wrap (((BitVec.ofInt IntKind.i64.bits p1 &&& BitVec.ofInt IntKind.i64.bits 4294967295).toNat : Int))) 31 H))
noncomputable def f (k : Nat) (a1 a2 : Int) : Option R :=
  if (decide (a2 < (0 : Int))) = true then
    j1 k a1 a2 true
  else
    j1 k a1 a2 (decide (a2 > (31 : Int)))
noncomputable def S : Spec := ⟨ps, rs, .any, none, fun x r => ∃ k, f k x.1 x.2.1 = some r⟩
theorem rl {k a1 a2 r} (e : f k a1 a2 = some r) : S.rel (a1, a2, ()) r := ⟨k, e⟩
theorem f_ok {r k a1 a2} (H : f k a1 a2 = some r) : Gw P 0 (Q r) (Px c0 1 []) (⟨24, [(0, .cv (.one (.i a1))), (1, .cv (.one (.i a2)))], []⟩) := by
  unfold f at H
  refine Rg V_ok 0 [] az ?_
  rcases of_ite H with ⟨hb1, H⟩ | ⟨hb1, H⟩
  · refine Rg V_ok 0 [(1, {bv := some true})] (ac hb1 az) ?_
    exact Jm (tn [0, 1, 12] 0) (j1_ok H)
  · refine Rg V_ok 0 [(1, {bv := some false})] (ac hb1 az) ?_
    exact Jm (tn [0, 1, 12] 0) (j1_ok H)
theorem fits : Fits P 164 S := fits_of V_ok Go.Proofs.Tryz.func164 (by kernel_rfl) (by decide) (by decide) rfl (fun x r ⟨k, H⟩ => of_G (f_ok H))
end f_ref01_Bit
/-! ### function 159, wayfinder/wayfinderref01.May -/
namespace f_ref01_May
noncomputable def c0 : Code := (Go.Proofs.Tryz.f159.body).getD .skip
abbrev ps : Sg := [(true, T713d)]
abbrev rs : Sg := [(false, .bool)]
noncomputable def V : Env := { tt := tt, Γ := slk [(164, f_ref01_Bit.S)] }
theorem V_ok : EnvOk P V := { ck := tt_ck, fits := slk_cons f_ref01_Bit.fits (slk_nil), mixed := mixed }
abbrev R := Tup rs
noncomputable abbrev Q (r : R) : Exit → St → Prop := Qr tt Go.Proofs.Tryz.f159.results ⟨ps, rs, .any, none, fun _ _ => True⟩ r
noncomputable def s1 (p1 : Bool) (p2 : T713d.T) : St := ⟨33, [(1, .cv (.one (.ptr 0 0))), (21, .cv (.one (.bool p1)))], [(.box 2, [.i p2.1, .i p2.2])]⟩
noncomputable def s2 (p1 : Int) (p2 : T713d.T) : St := ⟨33, [(1, .cv (.one (.ptr 0 0))), (3, .cv (.one (.i p1)))], [(.box 2, [.i p2.1, .i p2.2])]⟩
noncomputable def b2 (L2 : Int → T713d.T → Option R) (k : Nat) (p1 : Int) (p2 : T713d.T) : Option R :=
  if (decide (p1 < (32 : Int))) = true then
  (f_ref01_Bit.f k p2.1 p1).bind fun y4 =>
    if (y4.1 == (1 : Int)) = true then
      some (false, ())
    else
      L2 (IntKind.i64.wrap (p1 + 1)) p2
else
  some (true, ())
theorem b2_ok {r} {L2 : Int → T713d.T → Option R} {m2 : Nat} (hL2 : ∀ p1 p2, L2 p1 p2 = some r → Gw P 0 (Q r) (Pb c0 43 [] m2) (s2 p1 p2)) {k p1 p2} (H : b2 L2 k p1 p2 = some r) : Gw P 0 (Q r) (Px c0 75 [m2]) (s2 p1 p2) := by
  unfold b2 at H
  refine Rg V_ok 0 [] az ?_
  rcases of_ite H with ⟨hb3, H⟩ | ⟨hb3, H⟩
  · refine C1 hb3 ?_
    obtain ⟨y4, e5, H⟩ := of_bind H
    refine Rg V_ok 0 [(3, hr f_ref01_Bit.S y4)] (ac (f_ref01_Bit.rl e5) az) ?_
    rcases of_ite H with ⟨hb6, H⟩ | ⟨hb6, H⟩
    · refine C1 hb6 ?_
      refine Rg V_ok 0 [] az ?_
      exact Lf (Eq.trans (by kernel_rfl) H)
    · refine C0 hb6 ?_
      refine Rg V_ok 0 [] az ?_
      exact Jm (tn [1, 3] 1) (hL2 (IntKind.i64.wrap (p1 + 1)) p2 H)
  · refine C0 hb3 ?_
    refine Rg V_ok 0 [] az ?_
    exact Lf (Eq.trans (by kernel_rfl) H)
noncomputable def l2 (k : Nat) : Nat → Int → T713d.T → Option R
  | 0, _, _ => none
  | m + 1, p1, p2 => b2 (l2 k m) k p1 p2
theorem l2_ok {r} (k : Nat) : ∀ (m2 : Nat) (p1 : Int) (p2 : T713d.T), l2 k m2 p1 p2 = some r → Gw P 0 (Q r) (Pb c0 43 [] m2) (s2 p1 p2)
  | 0, _, _, H => by cases H
  | m2 + 1, p1, p2, H => SU (by kernel_rfl) (b2_ok (l2_ok k m2) H)
noncomputable def j1 (k : Nat) (p1 : Bool) (p2 : T713d.T) : Option R :=
  if p1 = true then
  some (false, ())
else
  l2 k k p2.2 p2
theorem j1_ok {r} {k p1 p2} (H : j1 k p1 p2 = some r) : Gw P 0 (Q r) (Px c0 13 []) (s1 p1 p2) := by
  unfold j1 at H
  rcases of_ite H with ⟨hb2, H⟩ | ⟨hb2, H⟩
  · refine C1 hb2 ?_
    refine Rg V_ok 0 [] az ?_
    exact Lf (Eq.trans (by kernel_rfl) H)
  · refine C0 hb2 ?_
    refine Rg V_ok 0 [] az ?_
    exact LP k (Jm (tn [1, 3] 1) (l2_ok k k p2.2 p2 H))
noncomputable def f (k : Nat) (a1 : T713d.T) : Option R :=
  if (decide (a1.2 < (0 : Int))) = true then
    j1 k true a1
  else
    if (decide (a1.2 > (32 : Int))) = true then
      j1 k true a1
    else
      if (decide (a1.1 < (0 : Int))) = true then
        j1 k true a1
      else
        j1 k (decide (a1.1 > (4294967295 : Int))) a1
noncomputable def S : Spec := ⟨ps, rs, .any, none, fun x r => ∃ k, f k x.1 = some r⟩
theorem rl {k a1 r} (e : f k a1 = some r) : S.rel (a1, ()) r := ⟨k, e⟩
theorem f_ok {r k a1} (H : f k a1 = some r) : Gw P 0 (Q r) (Px c0 1 []) (⟨33, [(0, .cv (.agg [.i a1.1, .i a1.2]))], []⟩) := by
  unfold f at H
  refine Rg V_ok 1 [(0, hb 0)] az ?_
  rcases of_ite H with ⟨hb1, H⟩ | ⟨hb1, H⟩
  · refine Rg V_ok 0 [(2, {bv := some true})] (ac hb1 az) ?_
    exact Jm (tn [1, 21] 1) (j1_ok H)
  · rcases of_ite H with ⟨hb7, H⟩ | ⟨hb7, H⟩
    · refine Rg V_ok 0 [(2, {bv := some false}), (7, {bv := some true})] (ac hb1 (ac hb7 az)) ?_
      exact Jm (tn [1, 21] 1) (j1_ok H)
    · rcases of_ite H with ⟨hb8, H⟩ | ⟨hb8, H⟩
      · refine Rg V_ok 0 [(2, {bv := some false}), (7, {bv := some false}), (12, {bv := some true})] (ac hb1 (ac hb7 (ac hb8 az))) ?_
        exact Jm (tn [1, 21] 1) (j1_ok H)
      · refine Rg V_ok 0 [(2, {bv := some false}), (7, {bv := some false}), (12, {bv := some false})] (ac hb1 (ac hb7 (ac hb8 az))) ?_
        exact Jm (tn [1, 21] 1) (j1_ok H)
theorem fits : Fits P 159 S := fits_of V_ok Go.Proofs.Tryz.func159 (by kernel_rfl) (by decide) (by decide) rfl (fun x r ⟨k, H⟩ => of_G (f_ok H))
end f_ref01_May
/-! ### function 137, wayfinder/wayfinderref04.May -/
namespace f_ref04_May
noncomputable def c0 : Code := (Go.Proofs.Tryz.f137.body).getD .skip
abbrev ps : Sg := [(true, T1383)]
abbrev rs : Sg := [(false, .bool)]
noncomputable def V : Env := { tt := tt, Γ := slk [(159, f_ref01_May.S)] }
theorem V_ok : EnvOk P V := { ck := tt_ck, fits := slk_cons f_ref01_May.fits (slk_nil), mixed := mixed }
abbrev R := Tup rs
noncomputable abbrev Q (r : R) : Exit → St → Prop := Qr tt Go.Proofs.Tryz.f137.results ⟨ps, rs, .any, none, fun _ _ => True⟩ r
noncomputable def s1 (p1 : Bool) (p2 : T1383.T) : St := ⟨53, [(1, .cv (.one (.ptr 0 0))), (28, .cv (.one (.bool p1)))], [(.box 6, (encC .any T1383 p2))]⟩
noncomputable def j1 (k : Nat) (p1 : Bool) (p2 : T1383.T) : Option R :=
  if p1 = true then
  some (false, ())
else
  if (p2.2.2.2.1 == (0 : Int)) = true then
    some ((p2.2.2.2.2 == (0 : Int)), ())
  else
    if (p2.2.2.2.1 == (1 : Int)) = true then
      if (decide (p2.2.2.2.2 ≥ (0 : Int))) = true then
        some ((decide (p2.2.2.2.2 ≤ (7 : Int))), ())
      else
        some (false, ())
    else
      some (false, ())
theorem j1_ok {r} {k p1 p2} (H : j1 k p1 p2 = some r) : Gw P 0 (Q r) (Px c0 27 []) (s1 p1 p2) := by
  unfold j1 at H
  rcases of_ite H with ⟨hb4, H⟩ | ⟨hb4, H⟩
  · refine C1 hb4 ?_
    refine Rg V_ok 0 [] az ?_
    exact Lf (Eq.trans (by kernel_rfl) H)
  · refine C0 hb4 ?_
    refine Rg V_ok 0 [] az ?_
    rcases of_ite H with ⟨hb5, H⟩ | ⟨hb5, H⟩
    · refine C1 hb5 ?_
      refine Rg V_ok 0 [] az ?_
      exact Lf (Eq.trans (by kernel_rfl) H)
    · refine C0 hb5 ?_
      rcases of_ite H with ⟨hb6, H⟩ | ⟨hb6, H⟩
      · rcases of_ite H with ⟨hb7, H⟩ | ⟨hb7, H⟩
        · refine Rg V_ok 0 [(3, {bv := some true}), (9, {bv := some true})] (ac hb6 (ac hb7 az)) ?_
          exact Lf (Eq.trans (by kernel_rfl) H)
        · refine Rg V_ok 0 [(3, {bv := some true}), (9, {bv := some false})] (ac hb6 (ac hb7 az)) ?_
          exact Lf (Eq.trans (by kernel_rfl) H)
      · refine Rg V_ok 0 [(3, {bv := some false})] (ac hb6 az) ?_
        exact Lf (Eq.trans (by kernel_rfl) H)
noncomputable def f (k : Nat) (a1 : T1383.T) : Option R :=
  (f_ref01_May.f k a1.1).bind fun y1 =>
    if (!y1.1) = true then
      j1 k true a1
    else
      if (decide (a1.2.1 < (-1 : Int))) = true then
        j1 k true a1
      else
        if (decide (a1.2.1 > (7 : Int))) = true then
          j1 k true a1
        else
          if (decide (a1.2.2.1 < (0 : Int))) = true then
            j1 k true a1
          else
            j1 k (decide (a1.2.2.1 > (255 : Int))) a1
noncomputable def S : Spec := ⟨ps, rs, .any, none, fun x r => ∃ k, f k x.1 = some r⟩
theorem rl {k a1 r} (e : f k a1 = some r) : S.rel (a1, ()) r := ⟨k, e⟩
theorem f_ok {r k a1} (H : f k a1 = some r) : Gw P 0 (Q r) (Px c0 1 []) (⟨53, [(0, .cv (.agg (encC .any T1383 a1)))], []⟩) := by
  unfold f at H
  refine Rg V_ok 1 [(0, hb 0)] az ?_
  obtain ⟨y1, e2, H⟩ := of_bind H
  refine Rg V_ok 0 [(2, hr f_ref01_May.S y1)] (ac (f_ref01_May.rl e2) az) ?_
  rcases of_ite H with ⟨hb3, H⟩ | ⟨hb3, H⟩
  · refine Rg V_ok 0 [(1, {bv := some true})] (ac hb3 az) ?_
    exact Jm (tn [1, 28] 1) (j1_ok H)
  · rcases of_ite H with ⟨hb8, H⟩ | ⟨hb8, H⟩
    · refine Rg V_ok 0 [(1, {bv := some false}), (6, {bv := some true})] (ac hb3 (ac hb8 az)) ?_
      exact Jm (tn [1, 28] 1) (j1_ok H)
    · rcases of_ite H with ⟨hb9, H⟩ | ⟨hb9, H⟩
      · refine Rg V_ok 0 [(1, {bv := some false}), (6, {bv := some false}), (11, {bv := some true})] (ac hb3 (ac hb8 (ac hb9 az))) ?_
        exact Jm (tn [1, 28] 1) (j1_ok H)
      · rcases of_ite H with ⟨hb10, H⟩ | ⟨hb10, H⟩
        · refine Rg V_ok 0 [(1, {bv := some false}), (6, {bv := some false}), (11, {bv := some false}), (16, {bv := some true})] (ac hb3 (ac hb8 (ac hb9 (ac hb10 az)))) ?_
          exact Jm (tn [1, 28] 1) (j1_ok H)
        · refine Rg V_ok 0 [(1, {bv := some false}), (6, {bv := some false}), (11, {bv := some false}), (16, {bv := some false})] (ac hb3 (ac hb8 (ac hb9 (ac hb10 az)))) ?_
          exact Jm (tn [1, 28] 1) (j1_ok H)
theorem fits : Fits P 137 S := fits_of V_ok Go.Proofs.Tryz.func137 (by kernel_rfl) (by decide) (by decide) rfl (fun x r ⟨k, H⟩ => of_G (f_ok H))
end f_ref04_May
/-! ### function 128, wayfinder/wayfinderref04.Get -/
namespace f_ref04_Get
noncomputable def c0 : Code := (Go.Proofs.Tryz.f128.body).getD .skip
abbrev ps : Sg := [(false, (.slice (.int .u8)))]
abbrev rs : Sg := [(true, T1383), (false, (.int .i64))]
noncomputable def V : Env := { tt := tt, Γ := slk [(127, f_ref02_GetAll.S), (137, f_ref04_May.S)] }
theorem V_ok : EnvOk P V := { ck := tt_ck, fits := slk_cons f_ref02_GetAll.fits (slk_cons f_ref04_May.fits (slk_nil)), mixed := mixed }
abbrev R := Tup rs
noncomputable abbrev Q (r : R) : Exit → St → Prop := Qr tt Go.Proofs.Tryz.f128.results ⟨ps, rs, .any, none, fun _ _ => True⟩ r
noncomputable def f (k : Nat) (a1 : List Int) : Option R :=
  (f_ref02_GetAll.f k a1 [4, 1, 1, 1, 1, 1]).bind fun y1 =>
    if (y1.2.2.1 != (0 : Int)) = true then
      some (((0, 0), (0, (0, (0, 0)))), (y1.2.2.1, ()))
    else
      if (0 : Int) < (y1.1.length : Int) then
        if (1 : Int) < (y1.1.length : Int) then
          if (2 : Int) < (y1.1.length : Int) then
            if (3 : Int) < (y1.1.length : Int) then
              if (4 : Int) < (y1.1.length : Int) then
                if (5 : Int) < (y1.1.length : Int) then
                  (f_ref04_May.f k (((att (.int .i64) y1.1 0), (att (.int .i64) y1.1 1)), ((IntKind.i64.wrap ((att (.int .i64) y1.1 2) - 1)), ((att (.int .i64) y1.1 3), ((att (.int .i64) y1.1 4), (att (.int .i64) y1.1 5)))))).bind fun y10 =>
                    if (!y10.1) = true then
                      some (((0, 0), (0, (0, (0, 0)))), ((2 : Int), ()))
                    else
                      some ((((att (.int .i64) y1.1 0), (att (.int .i64) y1.1 1)), ((IntKind.i64.wrap ((att (.int .i64) y1.1 2) - 1)), ((att (.int .i64) y1.1 3), ((att (.int .i64) y1.1 4), (att (.int .i64) y1.1 5))))), ((0 : Int), ()))
                else none
              else none
            else none
          else none
        else none
      else none
noncomputable def S : Spec := ⟨ps, rs, .any, none, fun x r => ∃ k, f k x.1 = some r⟩
theorem rl {k a1 r} (e : f k a1 = some r) : S.rel (a1, ()) r := ⟨k, e⟩
theorem f_ok {r k a1} (H : f k a1 = some r) : Gw P 0 (Q r) (Px c0 1 []) (⟨48, [(0, .cv (.one (.sl (.int .u8) a1 .any)))], []⟩) := by
  unfold f at H
  refine Rg V_ok 1 [(0, hb 0)] az ?_
  obtain ⟨y1, e2, H⟩ := of_bind H
  refine Rg V_ok 0 [(2, hr f_ref02_GetAll.S y1)] (ac (f_ref02_GetAll.rl e2) az) ?_
  refine Rg V_ok 0 [] az ?_
  rcases of_ite H with ⟨hb3, H⟩ | ⟨hb3, H⟩
  · refine C1 hb3 ?_
    refine Rg V_ok 0 [] az ?_
    exact Lf (Eq.trans (by kernel_rfl) H)
  · refine C0 hb3 ?_
    obtain ⟨n4, H⟩ := of_if H
    obtain ⟨n5, H⟩ := of_if H
    obtain ⟨n6, H⟩ := of_if H
    obtain ⟨n7, H⟩ := of_if H
    obtain ⟨n8, H⟩ := of_if H
    obtain ⟨n9, H⟩ := of_if H
    refine Rg V_ok 1 [(22, hb 1)] (ac (show 0 ≤ (0 : Int) by decide) (ac n4 (ac (show 0 ≤ (1 : Int) by decide) (ac n5 (ac (show 0 ≤ (2 : Int) by decide) (ac n6 (ac (show 0 ≤ (3 : Int) by decide) (ac n7 (ac (show 0 ≤ (4 : Int) by decide) (ac n8 (ac (show 0 ≤ (5 : Int) by decide) (ac n9 az)))))))))))) ?_
    obtain ⟨y10, e11, H⟩ := of_bind H
    refine Rg V_ok 0 [(1, hr f_ref04_May.S y10)] (ac (f_ref04_May.rl e11) az) ?_
    refine Rg V_ok 0 [] az ?_
    rcases of_ite H with ⟨hb12, H⟩ | ⟨hb12, H⟩
    · refine C1 hb12 ?_
      refine Rg V_ok 0 [] az ?_
      exact Lf (Eq.trans (by kernel_rfl) H)
    · refine C0 hb12 ?_
      refine Rg V_ok 0 [] az ?_
      exact Lf (Eq.trans (by kernel_rfl) H)
theorem fits : Fits P 128 S := fits_of V_ok Go.Proofs.Tryz.func128 (by kernel_rfl) (by decide) (by decide) rfl (fun x r ⟨k, H⟩ => of_G (f_ok H))
end f_ref04_Get
/-! ### function 129, wayfinder/wayfinderref05.May -/
namespace f_ref05_May
noncomputable def c0 : Code := (Go.Proofs.Tryz.f129.body).getD .skip
abbrev ps : Sg := [(true, T4414)]
abbrev rs : Sg := [(false, .bool)]
noncomputable def V : Env := { tt := tt, Γ := slk [(137, f_ref04_May.S)] }
theorem V_ok : EnvOk P V := { ck := tt_ck, fits := slk_cons f_ref04_May.fits (slk_nil), mixed := mixed }
abbrev R := Tup rs
noncomputable abbrev Q (r : R) : Exit → St → Prop := Qr tt Go.Proofs.Tryz.f129.results ⟨ps, rs, .any, none, fun _ _ => True⟩ r
noncomputable def s1 (p1 : Bool) (p2 : T4414.T) : St := ⟨96, [(1, .cv (.one (.ptr 0 0))), (41, .cv (.one (.bool p1)))], [(.box 10, (encC .any T4414 p2))]⟩
noncomputable def s2 (p1 : Int) (p2 : Bool) (p3 : T4414.T) : St := ⟨96, [(1, .cv (.one (.ptr 0 0))), (64, .cv (.one (.i p1))), (75, .cv (.one (.bool p2)))], [(.box 10, (encC .any T4414 p3))]⟩
noncomputable def j2 (k : Nat) (p1 : Int) (p2 : Bool) (p3 : T4414.T) : Option R :=
  if p2 = true then
  if (decide (p3.2.2.1 ≥ (1 : Int))) = true then
    some ((decide (p3.2.2.2.1 ≥ (1 : Int))), ())
  else
    some (false, ())
else
  if (p1 == (5 : Int)) = true then
    if (decide (p3.2.2.1 ≥ (1 : Int))) = true then
      some ((p3.2.2.2.1 == (0 : Int)), ())
    else
      some (false, ())
  else
    some (true, ())
theorem j2_ok {r} {k p1 p2 p3} (H : j2 k p1 p2 p3 = some r) : Gw P 0 (Q r) (Px c0 1967 []) (s2 p1 p2 p3) := by
  unfold j2 at H
  rcases of_ite H with ⟨hb12, H⟩ | ⟨hb12, H⟩
  · refine C1 hb12 ?_
    rcases of_ite H with ⟨hb13, H⟩ | ⟨hb13, H⟩
    · refine Rg V_ok 0 [(2, {bv := some true})] (ac hb13 az) ?_
      exact Lf (Eq.trans (by kernel_rfl) H)
    · refine Rg V_ok 0 [(2, {bv := some false})] (ac hb13 az) ?_
      exact Lf (Eq.trans (by kernel_rfl) H)
  · refine C0 hb12 ?_
    refine Rg V_ok 0 [] az ?_
    rcases of_ite H with ⟨hb14, H⟩ | ⟨hb14, H⟩
    · refine C1 hb14 ?_
      rcases of_ite H with ⟨hb15, H⟩ | ⟨hb15, H⟩
      · refine Rg V_ok 0 [(2, {bv := some true})] (ac hb15 az) ?_
        exact Lf (Eq.trans (by kernel_rfl) H)
      · refine Rg V_ok 0 [(2, {bv := some false})] (ac hb15 az) ?_
        exact Lf (Eq.trans (by kernel_rfl) H)
    · refine C0 hb14 ?_
      refine Rg V_ok 0 [] az ?_
      exact Lf (Eq.trans (by kernel_rfl) H)
noncomputable def j1 (k : Nat) (p1 : Bool) (p2 : T4414.T) : Option R :=
  if p1 = true then
  some (false, ())
else
  if (p2.1 == (2 : Int)) = true then
    (f_ref04_May.f k p2.2.2.2.2).bind fun y4 =>
      if y4.1 = true then
        if (decide (p2.2.2.1 ≥ (1 : Int))) = true then
          some ((decide (p2.2.2.2.1 ≥ (1 : Int))), ())
        else
          some (false, ())
      else
        some (false, ())
  else
    if (!((p2.2.2.2.2.1.1 == (0 : Int)) && ((p2.2.2.2.2.1.2 == (0 : Int)) && ((p2.2.2.2.2.2.1 == (0 : Int)) && ((p2.2.2.2.2.2.2.1 == (0 : Int)) && ((p2.2.2.2.2.2.2.2.1 == (0 : Int)) && ((p2.2.2.2.2.2.2.2.2 == (0 : Int)) && true))))))) = true then
      some (false, ())
    else
      if (p2.1 == (0 : Int)) = true then
        if (p2.2.2.1 == (0 : Int)) = true then
          some ((p2.2.2.2.1 == (0 : Int)), ())
        else
          some (false, ())
      else
        if (p2.1 == (3 : Int)) = true then
          j2 k p2.1 (p2.1 == (3 : Int)) p2
        else
          j2 k p2.1 (p2.1 == (4 : Int)) p2
theorem j1_ok {r} {k p1 p2} (H : j1 k p1 p2 = some r) : Gw P 0 (Q r) (Px c0 13 []) (s1 p1 p2) := by
  unfold j1 at H
  rcases of_ite H with ⟨hb2, H⟩ | ⟨hb2, H⟩
  · refine C1 hb2 ?_
    refine Rg V_ok 0 [] az ?_
    exact Lf (Eq.trans (by kernel_rfl) H)
  · refine C0 hb2 ?_
    refine Rg V_ok 0 [] az ?_
    rcases of_ite H with ⟨hb3, H⟩ | ⟨hb3, H⟩
    · refine C1 hb3 ?_
      obtain ⟨y4, e5, H⟩ := of_bind H
      refine Rg V_ok 0 [(2, hr f_ref04_May.S y4)] (ac (f_ref04_May.rl e5) az) ?_
      rcases of_ite H with ⟨hb6, H⟩ | ⟨hb6, H⟩
      · rcases of_ite H with ⟨hb7, H⟩ | ⟨hb7, H⟩
        · refine Rg V_ok 0 [(0, {bv := some true}), (5, {bv := some true})] (ac hb6 (ac hb7 az)) ?_
          exact Lf (Eq.trans (by kernel_rfl) H)
        · refine Rg V_ok 0 [(0, {bv := some true}), (5, {bv := some false})] (ac hb6 (ac hb7 az)) ?_
          exact Lf (Eq.trans (by kernel_rfl) H)
      · refine Rg V_ok 0 [(0, {bv := some false})] (ac hb6 az) ?_
        exact Lf (Eq.trans (by kernel_rfl) H)
    · refine C0 hb3 ?_
      refine Rg V_ok 0 [] az ?_
      rcases of_ite H with ⟨hb8, H⟩ | ⟨hb8, H⟩
      · refine C1 hb8 ?_
        refine Rg V_ok 0 [] az ?_
        exact Lf (Eq.trans (by kernel_rfl) H)
      · refine C0 hb8 ?_
        refine Rg V_ok 0 [] az ?_
        refine Rg V_ok 0 [] az ?_
        rcases of_ite H with ⟨hb9, H⟩ | ⟨hb9, H⟩
        · refine C1 hb9 ?_
          rcases of_ite H with ⟨hb10, H⟩ | ⟨hb10, H⟩
          · refine Rg V_ok 0 [(2, {bv := some true})] (ac hb10 az) ?_
            exact Lf (Eq.trans (by kernel_rfl) H)
          · refine Rg V_ok 0 [(2, {bv := some false})] (ac hb10 az) ?_
            exact Lf (Eq.trans (by kernel_rfl) H)
        · refine C0 hb9 ?_
          refine Rg V_ok 0 [] az ?_
          rcases of_ite H with ⟨hb11, H⟩ | ⟨hb11, H⟩
          · refine C1 hb11 ?_
            exact Jm (tn [1, 64, 75] 1) (j2_ok H)
          · refine C0 hb11 ?_
            refine Rg V_ok 0 [] az ?_
            exact Jm (tn [1, 64, 75] 1) (j2_ok H)
noncomputable def f (k : Nat) (a1 : T4414.T) : Option R :=
  if (decide (a1.1 < (0 : Int))) = true then
    j1 k true a1
  else
    if (decide (a1.1 ≥ (6 : Int))) = true then
      j1 k true a1
    else
      if (decide (a1.2.1 < (1 : Int))) = true then
        j1 k true a1
      else
        if (decide (a1.2.1 > (1048576 : Int))) = true then
          j1 k true a1
        else
          if (decide (a1.2.2.1 < (0 : Int))) = true then
            j1 k true a1
          else
            if (decide (a1.2.2.1 > (1048576 : Int))) = true then
              j1 k true a1
            else
              if (decide (a1.2.2.2.1 < (0 : Int))) = true then
                j1 k true a1
              else
                j1 k (decide (a1.2.2.2.1 > (4095 : Int))) a1
noncomputable def S : Spec := ⟨ps, rs, .any, none, fun x r => ∃ k, f k x.1 = some r⟩
theorem rl {k a1 r} (e : f k a1 = some r) : S.rel (a1, ()) r := ⟨k, e⟩
theorem f_ok {r k a1} (H : f k a1 = some r) : Gw P 0 (Q r) (Px c0 1 []) (⟨96, [(0, .cv (.agg (encC .any T4414 a1)))], []⟩) := by
  unfold f at H
  refine Rg V_ok 1 [(0, hb 0)] az ?_
  rcases of_ite H with ⟨hb1, H⟩ | ⟨hb1, H⟩
  · refine Rg V_ok 0 [(2, {bv := some true})] (ac hb1 az) ?_
    exact Jm (tn [1, 41] 1) (j1_ok H)
  · rcases of_ite H with ⟨hb16, H⟩ | ⟨hb16, H⟩
    · refine Rg V_ok 0 [(2, {bv := some false}), (7, {bv := some true})] (ac hb1 (ac hb16 az)) ?_
      exact Jm (tn [1, 41] 1) (j1_ok H)
    · rcases of_ite H with ⟨hb17, H⟩ | ⟨hb17, H⟩
      · refine Rg V_ok 0 [(2, {bv := some false}), (7, {bv := some false}), (12, {bv := some true})] (ac hb1 (ac hb16 (ac hb17 az))) ?_
        exact Jm (tn [1, 41] 1) (j1_ok H)
      · rcases of_ite H with ⟨hb18, H⟩ | ⟨hb18, H⟩
        · refine Rg V_ok 0 [(2, {bv := some false}), (7, {bv := some false}), (12, {bv := some false}), (17, {bv := some true})] (ac hb1 (ac hb16 (ac hb17 (ac hb18 az)))) ?_
          exact Jm (tn [1, 41] 1) (j1_ok H)
        · rcases of_ite H with ⟨hb19, H⟩ | ⟨hb19, H⟩
          · refine Rg V_ok 0 [(2, {bv := some false}), (7, {bv := some false}), (12, {bv := some false}), (17, {bv := some false}), (22, {bv := some true})] (ac hb1 (ac hb16 (ac hb17 (ac hb18 (ac hb19 az))))) ?_
            exact Jm (tn [1, 41] 1) (j1_ok H)
          · rcases of_ite H with ⟨hb20, H⟩ | ⟨hb20, H⟩
            · refine Rg V_ok 0 [(2, {bv := some false}), (7, {bv := some false}), (12, {bv := some false}), (17, {bv := some false}), (22, {bv := some false}), (27, {bv := some true})] (ac hb1 (ac hb16 (ac hb17 (ac hb18 (ac hb19 (ac hb20 az)))))) ?_
              exact Jm (tn [1, 41] 1) (j1_ok H)
            · rcases of_ite H with ⟨hb21, H⟩ | ⟨hb21, H⟩
              · refine Rg V_ok 0 [(2, {bv := some false}), (7, {bv := some false}), (12, {bv := some false}), (17, {bv := some false}), (22, {bv := some false}), (27, {bv := some false}), (32, {bv := some true})] (ac hb1 (ac hb16 (ac hb17 (ac hb18 (ac hb19 (ac hb20 (ac hb21 az))))))) ?_
                exact Jm (tn [1, 41] 1) (j1_ok H)
              · refine Rg V_ok 0 [(2, {bv := some false}), (7, {bv := some false}), (12, {bv := some false}), (17, {bv := some false}), (22, {bv := some false}), (27, {bv := some false}), (32, {bv := some false})] (ac hb1 (ac hb16 (ac hb17 (ac hb18 (ac hb19 (ac hb20 (ac hb21 az))))))) ?_
                exact Jm (tn [1, 41] 1) (j1_ok H)
theorem fits : Fits P 129 S := fits_of V_ok Go.Proofs.Tryz.func129 (by kernel_rfl) (by decide) (by decide) rfl (fun x r ⟨k, H⟩ => of_G (f_ok H))
end f_ref05_May
/-! ### function 90, wayfinder/wayfinderref05.Get -/
namespace f_ref05_Get
noncomputable def c0 : Code := (Go.Proofs.Tryz.f90.body).getD .skip
abbrev ps : Sg := [(false, (.slice (.int .u8)))]
abbrev rs : Sg := [(true, T4414), (false, (.int .i64))]
noncomputable def V : Env := { tt := tt, Γ := slk [(127, f_ref02_GetAll.S), (128, f_ref04_Get.S), (129, f_ref05_May.S)] }
theorem V_ok : EnvOk P V := { ck := tt_ck, fits := slk_cons f_ref02_GetAll.fits (slk_cons f_ref04_Get.fits (slk_cons f_ref05_May.fits (slk_nil))), mixed := mixed }
abbrev R := Tup rs
noncomputable abbrev Q (r : R) : Exit → St → Prop := Qr tt Go.Proofs.Tryz.f90.results ⟨ps, rs, .any, none, fun _ _ => True⟩ r
noncomputable def s1 (p1 : List Int) (p2 p3 : Int) (p4 p5 p6 : T4414.T) : St := ⟨75, [(0, .cv (.one (.sl (.int .u8) p1 .any))), (2, .cv (.one (.ptr 0 0))), (4, .cv (.one (.ptr 1 0))), (6, .cv (.one (.i p2))), (8, .cv (.one (.ptr 2 0))), (9, .cv (.one (.i p3)))], [(.box 10, (encC .any T4414 p4)), (.box 10, (encC .any T4414 p5)), (.box 10, (encC .any T4414 p6))]⟩
noncomputable def s2 (p1 p2 p3 : T4414.T) : St := ⟨75, [(2, .cv (.one (.ptr 0 0))), (4, .cv (.one (.ptr 1 0))), (8, .cv (.one (.ptr 2 0)))], [(.box 10, (encC .any T4414 p1)), (.box 10, (encC .any T4414 p2)), (.box 10, (encC .any T4414 p3))]⟩
noncomputable def j2 (k : Nat) (p1 p2 p3 : T4414.T) : Option R :=
  (f_ref05_May.f k p3).bind fun y16 =>
  if (!y16.1) = true then
    some (p2, ((2 : Int), ()))
  else
    some (p3, ((0 : Int), ()))
theorem j2_ok {r} {k p1 p2 p3} (H : j2 k p1 p2 p3 = some r) : Gw P 0 (Q r) (Px c0 2047 []) (s2 p1 p2 p3) := by
  unfold j2 at H
  obtain ⟨y16, e17, H⟩ := of_bind H
  refine Rg V_ok 0 [(1, hr f_ref05_May.S y16)] (ac (f_ref05_May.rl e17) az) ?_
  refine Rg V_ok 0 [] az ?_
  rcases of_ite H with ⟨hb18, H⟩ | ⟨hb18, H⟩
  · refine C1 hb18 ?_
    refine Rg V_ok 0 [] az ?_
    exact Lf (Eq.trans (by kernel_rfl) H)
  · refine C0 hb18 ?_
    refine Rg V_ok 0 [] az ?_
    exact Lf (Eq.trans (by kernel_rfl) H)
noncomputable def j1 (k : Nat) (p1 : List Int) (p2 p3 : Int) (p4 p5 p6 : T4414.T) : Option R :=
  if (decide ((p1.length : Int) < p3)) = true then
  some (p5, ((3 : Int), ()))
else
  if (decide ((p1.length : Int) > p3)) = true then
    some (p5, ((2 : Int), ()))
  else
    if (p6.1 == (2 : Int)) = true then
      if 0 ≤ p2 ∧ p2 ≤ (p1.length : Int) ∧ (p1.length : Int) ≤ (p1.length : Int) then
        (f_ref04_Get.f k ((p1.take (p1.length : Int).toNat).drop p2.toNat)).bind fun y12 =>
          if (y12.2.1 != (0 : Int)) = true then
            some (p5, ((2 : Int), ()))
          else
            j2 k p4 p5 (p6.1, (p6.2.1, (p6.2.2.1, (p6.2.2.2.1, y12.1))))
      else none
    else
      j2 k p4 p5 p6
theorem j1_ok {r} {k p1 p2 p3 p4 p5 p6} (H : j1 k p1 p2 p3 p4 p5 p6 = some r) : Gw P 0 (Q r) (Px c0 255 []) (s1 p1 p2 p3 p4 p5 p6) := by
  unfold j1 at H
  refine Rg V_ok 0 [] az ?_
  rcases of_ite H with ⟨hb9, H⟩ | ⟨hb9, H⟩
  · refine C1 hb9 ?_
    refine Rg V_ok 0 [] az ?_
    exact Lf (Eq.trans (by kernel_rfl) H)
  · refine C0 hb9 ?_
    refine Rg V_ok 0 [] az ?_
    rcases of_ite H with ⟨hb10, H⟩ | ⟨hb10, H⟩
    · refine C1 hb10 ?_
      refine Rg V_ok 0 [] az ?_
      exact Lf (Eq.trans (by kernel_rfl) H)
    · refine C0 hb10 ?_
      refine Rg V_ok 0 [] az ?_
      rcases of_ite H with ⟨hb11, H⟩ | ⟨hb11, H⟩
      · refine C1 hb11 ?_
        obtain ⟨n13, H⟩ := of_if H
        obtain ⟨y12, e14, H⟩ := of_bind H
        refine Rg V_ok 1 [(3, hr f_ref04_Get.S y12), (7, hb 3)] (ac n13 (ac (f_ref04_Get.rl e14) az)) ?_
        refine Rg V_ok 0 [] az ?_
        rcases of_ite H with ⟨hb15, H⟩ | ⟨hb15, H⟩
        · refine C1 hb15 ?_
          refine Rg V_ok 0 [] az ?_
          exact Lf (Eq.trans (by kernel_rfl) H)
        · refine C0 hb15 ?_
          refine Rg V_ok 0 [] az ?_
          exact Jm (tn [2, 4, 8] 3) (j2_ok H)
      · refine C0 hb11 ?_
        exact Jm (tn [2, 4, 8] 3) (j2_ok H)
noncomputable def f (k : Nat) (a1 : List Int) : Option R :=
  (f_ref02_GetAll.f k a1 [1, 3, 3, 2]).bind fun y1 =>
    if (y1.2.2.1 != (0 : Int)) = true then
      some ((0, (0, (0, (0, ((0, 0), (0, (0, (0, 0)))))))), (y1.2.2.1, ()))
    else
      if (0 : Int) < (y1.1.length : Int) then
        if (1 : Int) < (y1.1.length : Int) then
          if (2 : Int) < (y1.1.length : Int) then
            if (3 : Int) < (y1.1.length : Int) then
              if ((att (.int .i64) y1.1 0) == (2 : Int)) = true then
                j1 k a1 y1.2.1 (IntKind.i64.wrap (y1.2.1 + 9)) (0, (0, (0, (0, ((0, 0), (0, (0, (0, 0)))))))) (0, (0, (0, (0, ((0, 0), (0, (0, (0, 0)))))))) ((att (.int .i64) y1.1 0), ((att (.int .i64) y1.1 1), ((att (.int .i64) y1.1 2), ((att (.int .i64) y1.1 3), ((0, 0), (0, (0, (0, 0))))))))
              else
                j1 k a1 y1.2.1 y1.2.1 (0, (0, (0, (0, ((0, 0), (0, (0, (0, 0)))))))) (0, (0, (0, (0, ((0, 0), (0, (0, (0, 0)))))))) ((att (.int .i64) y1.1 0), ((att (.int .i64) y1.1 1), ((att (.int .i64) y1.1 2), ((att (.int .i64) y1.1 3), ((0, 0), (0, (0, (0, 0))))))))
            else none
          else none
        else none
      else none
noncomputable def S : Spec := ⟨ps, rs, .any, none, fun x r => ∃ k, f k x.1 = some r⟩
theorem rl {k a1 r} (e : f k a1 = some r) : S.rel (a1, ()) r := ⟨k, e⟩
theorem f_ok {r k a1} (H : f k a1 = some r) : Gw P 0 (Q r) (Px c0 1 []) (⟨75, [(0, .cv (.one (.sl (.int .u8) a1 .any)))], []⟩) := by
  unfold f at H
  refine Rg V_ok 1 [(0, hb 0)] az ?_
  refine Rg V_ok 1 [(1, hb 1)] az ?_
  obtain ⟨y1, e2, H⟩ := of_bind H
  refine Rg V_ok 0 [(2, hr f_ref02_GetAll.S y1)] (ac (f_ref02_GetAll.rl e2) az) ?_
  refine Rg V_ok 0 [] az ?_
  rcases of_ite H with ⟨hb3, H⟩ | ⟨hb3, H⟩
  · refine C1 hb3 ?_
    refine Rg V_ok 0 [] az ?_
    exact Lf (Eq.trans (by kernel_rfl) H)
  · refine C0 hb3 ?_
    obtain ⟨n4, H⟩ := of_if H
    obtain ⟨n5, H⟩ := of_if H
    obtain ⟨n6, H⟩ := of_if H
    obtain ⟨n7, H⟩ := of_if H
    refine Rg V_ok 1 [(13, hb 2)] (ac (show 0 ≤ (0 : Int) by decide) (ac n4 (ac (show 0 ≤ (1 : Int) by decide) (ac n5 (ac (show 0 ≤ (2 : Int) by decide) (ac n6 (ac (show 0 ≤ (3 : Int) by decide) (ac n7 az)))))))) ?_
    refine Rg V_ok 0 [] az ?_
    refine Rg V_ok 0 [] az ?_
    rcases of_ite H with ⟨hb8, H⟩ | ⟨hb8, H⟩
    · refine C1 hb8 ?_
      refine Rg V_ok 0 [] az ?_
      exact Jm (tn [0, 2, 4, 6, 8, 9] 3) (j1_ok H)
    · refine C0 hb8 ?_
      exact Jm (tn [0, 2, 4, 6, 8, 9] 3) (j1_ok H)
theorem fits : Fits P 90 S := fits_of V_ok Go.Proofs.Tryz.func90 (by kernel_rfl) (by decide) (by decide) rfl (fun x r ⟨k, H⟩ => of_G (f_ok H))
end f_ref05_Get
/-! ### function 37, wayfinder/wayfinderref06.Open -/
namespace f_ref06_Open
noncomputable def c0 : Code := (Go.Proofs.Tryz.f37.body).getD .skip
abbrev ps : Sg := [(false, (.slice (.int .u8)))]
abbrev rs : Sg := [(true, T4414), (false, (.int .i64))]
noncomputable def V : Env := { tt := tt, Γ := slk [(89, f_ref02_Sum.S), (90, f_ref05_Get.S)] }
theorem V_ok : EnvOk P V := { ck := tt_ck, fits := slk_cons f_ref02_Sum.fits (slk_cons f_ref05_Get.fits (slk_nil)), mixed := mixed }
abbrev R := Tup rs
noncomputable abbrev Q (r : R) : Exit → St → Prop := Qr tt Go.Proofs.Tryz.f37.results ⟨ps, rs, .any, none, fun _ _ => True⟩ r
noncomputable def s1 (p1 : List Int) (p2 : Int) (p3 : Bool) (p4 p5 : T4414.T) : St := ⟨64, [(0, .cv (.one (.sl (.int .u8) p1 .any))), (2, .cv (.one (.ptr 0 0))), (4, .cv (.one (.ptr 1 0))), (5, .cv (.one (.i p2))), (52, .cv (.one (.bool p3)))], [(.box 10, (encC .any T4414 p4)), (.box 10, (encC .any T4414 p5))]⟩
noncomputable def j1 (k : Nat) (p1 : List Int) (p2 : Int) (p3 : Bool) (p4 p5 : T4414.T) : Option R :=
  if p3 = true then
  some (p5, ((2 : Int), ()))
else
  if 0 ≤ (2 : Int) ∧ (2 : Int) ≤ (IntKind.i64.wrap (2 + p2)) ∧ (IntKind.i64.wrap (2 + p2)) ≤ (p1.length : Int) then
    (f_ref05_Get.f k ((p1.take (IntKind.i64.wrap (2 + p2)).toNat).drop (2 : Int).toNat)).bind fun y14 =>
      some (y14.1, (y14.2.1, ()))
  else none
theorem j1_ok {r} {k p1 p2 p3 p4 p5} (H : j1 k p1 p2 p3 p4 p5 = some r) : Gw P 0 (Q r) (Px c0 3583 []) (s1 p1 p2 p3 p4 p5) := by
  unfold j1 at H
  rcases of_ite H with ⟨hb13, H⟩ | ⟨hb13, H⟩
  · refine C1 hb13 ?_
    refine Rg V_ok 0 [] az ?_
    exact Lf (Eq.trans (by kernel_rfl) H)
  · refine C0 hb13 ?_
    obtain ⟨n15, H⟩ := of_if H
    obtain ⟨y14, e16, H⟩ := of_bind H
    refine Rg V_ok 1 [(4, hr f_ref05_Get.S y14), (8, hb 2)] (ac n15 (ac (f_ref05_Get.rl e16) az)) ?_
    refine Rg V_ok 0 [] az ?_
    exact Lf (Eq.trans (by kernel_rfl) H)
noncomputable def f (k : Nat) (a1 : List Int) : Option R :=
  if (decide ((a1.length : Int) < (4 : Int))) = true then
    some ((0, (0, (0, (0, ((0, 0), (0, (0, (0, 0)))))))), ((3 : Int), ()))
  else
    if (0 : Int) < (a1.length : Int) then
      if ((att (.int .u8) a1 0) != (197 : Int)) = true then
        some ((0, (0, (0, (0, ((0, 0), (0, (0, (0, 0)))))))), ((2 : Int), ()))
      else
        if (1 : Int) < (a1.length : Int) then
          if (decide ((a1.length : Int) < (IntKind.i64.wrap ((IntKind.i64.wrap ((IntKind.i64.wrap (att (.int .u8) a1 1)) + (Int.tmod (IntKind.i64.wrap (att (.int .u8) a1 1)) 2))) + 4)))) = true then
            some ((0, (0, (0, (0, ((0, 0), (0, (0, (0, 0)))))))), ((3 : Int), ()))
          else
            if (decide ((a1.length : Int) > (IntKind.i64.wrap ((IntKind.i64.wrap ((IntKind.i64.wrap (att (.int .u8) a1 1)) + (Int.tmod (IntKind.i64.wrap (att (.int .u8) a1 1)) 2))) + 4)))) = true then
              some ((0, (0, (0, (0, ((0, 0), (0, (0, (0, 0)))))))), ((2 : Int), ()))
            else
              (f_ref02_Sum.f k a1).bind fun y7 =>
                if (y7.1 != (0 : Int)) = true then
                  some ((0, (0, (0, (0, ((0, 0), (0, (0, (0, 0)))))))), ((4 : Int), ()))
                else
                  if ((Int.tmod (IntKind.i64.wrap (att (.int .u8) a1 1)) 2) == (1 : Int)) = true then
                    if 0 ≤ (IntKind.i64.wrap (2 + (IntKind.i64.wrap (att (.int .u8) a1 1)))) then
                      if (IntKind.i64.wrap (2 + (IntKind.i64.wrap (att (.int .u8) a1 1)))) < (a1.length : Int) then
                        j1 k a1 (IntKind.i64.wrap (att (.int .u8) a1 1)) ((att (.int .u8) a1 (IntKind.i64.wrap (2 + (IntKind.i64.wrap (att (.int .u8) a1 1))))) != (0 : Int)) (0, (0, (0, (0, ((0, 0), (0, (0, (0, 0)))))))) (0, (0, (0, (0, ((0, 0), (0, (0, (0, 0))))))))
                      else none
                    else none
                  else
                    j1 k a1 (IntKind.i64.wrap (att (.int .u8) a1 1)) false (0, (0, (0, (0, ((0, 0), (0, (0, (0, 0)))))))) (0, (0, (0, (0, ((0, 0), (0, (0, (0, 0))))))))
        else none
    else none
noncomputable def S : Spec := ⟨ps, rs, .any, none, fun x r => ∃ k, f k x.1 = some r⟩
theorem rl {k a1 r} (e : f k a1 = some r) : S.rel (a1, ()) r := ⟨k, e⟩
theorem f_ok {r k a1} (H : f k a1 = some r) : Gw P 0 (Q r) (Px c0 1 []) (⟨64, [(0, .cv (.one (.sl (.int .u8) a1 .any)))], []⟩) := by
  unfold f at H
  refine Rg V_ok 1 [(0, hb 0)] az ?_
  refine Rg V_ok 1 [(1, hb 1)] az ?_
  refine Rg V_ok 0 [] az ?_
  rcases of_ite H with ⟨hb1, H⟩ | ⟨hb1, H⟩
  · refine C1 hb1 ?_
    refine Rg V_ok 0 [] az ?_
    exact Lf (Eq.trans (by kernel_rfl) H)
  · refine C0 hb1 ?_
    obtain ⟨n2, H⟩ := of_if H
    refine Rg V_ok 0 [] (ac (show 0 ≤ (0 : Int) by decide) (ac n2 az)) ?_
    rcases of_ite H with ⟨hb3, H⟩ | ⟨hb3, H⟩
    · refine C1 hb3 ?_
      refine Rg V_ok 0 [] az ?_
      exact Lf (Eq.trans (by kernel_rfl) H)
    · refine C0 hb3 ?_
      obtain ⟨n4, H⟩ := of_if H
      refine Rg V_ok 0 [] (ac (show 0 ≤ (1 : Int) by decide) (ac n4 az)) ?_
      refine Rg V_ok 0 [] (ac (show (2 : Int) ≠ 0 by decide) az) ?_
      refine Rg V_ok 0 [] az ?_
      rcases of_ite H with ⟨hb5, H⟩ | ⟨hb5, H⟩
      · refine C1 hb5 ?_
        refine Rg V_ok 0 [] az ?_
        exact Lf (Eq.trans (by kernel_rfl) H)
      · refine C0 hb5 ?_
        refine Rg V_ok 0 [] az ?_
        rcases of_ite H with ⟨hb6, H⟩ | ⟨hb6, H⟩
        · refine C1 hb6 ?_
          refine Rg V_ok 0 [] az ?_
          exact Lf (Eq.trans (by kernel_rfl) H)
        · refine C0 hb6 ?_
          obtain ⟨y7, e8, H⟩ := of_bind H
          refine Rg V_ok 0 [(1, hr f_ref02_Sum.S y7)] (ac (f_ref02_Sum.rl e8) az) ?_
          rcases of_ite H with ⟨hb9, H⟩ | ⟨hb9, H⟩
          · refine C1 hb9 ?_
            refine Rg V_ok 0 [] az ?_
            exact Lf (Eq.trans (by kernel_rfl) H)
          · refine C0 hb9 ?_
            rcases of_ite H with ⟨hb10, H⟩ | ⟨hb10, H⟩
            · obtain ⟨n11, H⟩ := of_if H
              obtain ⟨n12, H⟩ := of_if H
              refine Rg V_ok 0 [(2, {bv := some true})] (ac (show (2 : Int) ≠ 0 by decide) (ac hb10 (ac n11 (ac n12 az)))) ?_
              exact Jm (tn [0, 2, 4, 5, 52] 2) (j1_ok H)
            · refine Rg V_ok 0 [(2, {bv := some false})] (ac (show (2 : Int) ≠ 0 by decide) (ac hb10 az)) ?_
              exact Jm (tn [0, 2, 4, 5, 52] 2) (j1_ok H)
theorem fits : Fits P 37 S := fits_of V_ok Go.Proofs.Tryz.func37 (by kernel_rfl) (by decide) (by decide) rfl (fun x r ⟨k, H⟩ => of_G (f_ok H))
end f_ref06_Open
/-! ### function 60, wayfinder/wayfinderref12.At -/
namespace f_ref12_At
noncomputable def c0 : Code := (Go.Proofs.Tryz.f60.body).getD .skip
abbrev ps : Sg := [(false, (.slice (.slice T1383))), (false, (.int .i64))]
abbrev rs : Sg := [(false, (.slice T1383))]
noncomputable def V : Env := { tt := tt, Γ := slk [] }
theorem V_ok : EnvOk P V := { ck := tt_ck, fits := slk_nil, mixed := mixed }
abbrev R := Tup rs
noncomputable abbrev Q (r : R) : Exit → St → Prop := Qr tt Go.Proofs.Tryz.f60.results ⟨ps, rs, .any, none, fun _ _ => True⟩ r
noncomputable def s1 (a1 : List (List T1383.T)) (a2 : Int) (p3 : Bool) : St := ⟨18, [(0, .cv (.one (.sl (.slice T1383) a1 .any))), (1, .cv (.one (.i a2))), (12, .cv (.one (.bool p3)))], []⟩
noncomputable def j1 (a1 : List (List T1383.T)) (a2 : Int) (k : Nat) (p3 : Bool) : Option R :=
  if p3 = true then
  some ([], ())
else
  if 0 ≤ a2 then
    if a2 < (a1.length : Int) then
      if (att (.slice T1383) a1 a2).length * 48 ≤ 140737488355328 then
        some ((att (.slice T1383) a1 a2), ())
      else none
    else none
  else none
theorem j1_ok {r a1 a2} {k p3} (H : j1 a1 a2 k p3 = some r) : Gw P 0 (Q r) (Px c0 13 []) (s1 a1 a2 p3) := by
  unfold j1 at H
  rcases of_ite H with ⟨hb2, H⟩ | ⟨hb2, H⟩
  · refine C1 hb2 ?_
    refine Rg V_ok 0 [] az ?_
    exact Lf (Eq.trans (by kernel_rfl) H)
  · refine C0 hb2 ?_
    obtain ⟨n3, H⟩ := of_if H
    obtain ⟨n4, H⟩ := of_if H
    obtain ⟨n5, H⟩ := of_if H
    refine Rg V_ok 1 [(4, hb 0)] (ac n3 (ac n4 (ac n5 az))) ?_
    exact Lf (Eq.trans (by kernel_rfl) H)
noncomputable def f (k : Nat) (a1 : List (List T1383.T)) (a2 : Int) : Option R :=
  if (decide (a2 < (0 : Int))) = true then
    j1 a1 a2 k true
  else
    j1 a1 a2 k (decide (a2 ≥ (a1.length : Int)))
noncomputable def S : Spec := ⟨ps, rs, .any, none, fun x r => ∃ k, f k x.1 x.2.1 = some r⟩
theorem rl {k a1 a2 r} (e : f k a1 a2 = some r) : S.rel (a1, a2, ()) r := ⟨k, e⟩
theorem f_ok {r k a1 a2} (H : f k a1 a2 = some r) : Gw P 0 (Q r) (Px c0 1 []) (⟨18, [(0, .cv (.one (.sl (.slice T1383) a1 .any))), (1, .cv (.one (.i a2)))], []⟩) := by
  unfold f at H
  refine Rg V_ok 0 [] az ?_
  rcases of_ite H with ⟨hb1, H⟩ | ⟨hb1, H⟩
  · refine Rg V_ok 0 [(1, {bv := some true})] (ac hb1 az) ?_
    exact Jm (tn [0, 1, 12] 0) (j1_ok H)
  · refine Rg V_ok 0 [(1, {bv := some false})] (ac hb1 az) ?_
    exact Jm (tn [0, 1, 12] 0) (j1_ok H)
theorem fits : Fits P 60 S := fits_of V_ok Go.Proofs.Tryz.func60 (by kernel_rfl) (by decide) (by decide) rfl (fun x r ⟨k, H⟩ => of_G (f_ok H))
end f_ref12_At
/-! ### function 23, wayfinder/wayfinderref21.Live -/
namespace f_ref21_Live
noncomputable def c0 : Code := (Go.Proofs.Tryz.f23.body).getD .skip
abbrev ps : Sg := [(true, T26b3), (false, (.int .i64))]
abbrev rs : Sg := [(false, (.slice T814c)), (false, (.int .i64))]
noncomputable def V : Env := { tt := tt, Γ := slk [(36, f_ref21_May.S), (60, f_ref12_At.S), (61, f_ref21_two.S)] }
theorem V_ok : EnvOk P V := { ck := tt_ck, fits := slk_cons f_ref21_May.fits (slk_cons f_ref12_At.fits (slk_cons f_ref21_two.fits (slk_nil))), mixed := mixed }
abbrev R := Tup rs
noncomputable abbrev Q (r : R) : Exit → St → Prop := Qr tt Go.Proofs.Tryz.f23.results ⟨ps, rs, .any, none, fun _ _ => True⟩ r
noncomputable def s2 (a1 : T26b3.T) (p1 : List T814c.T) : St := ⟨68, [(2, .cv (.one (.ptr 0 0))), (7, .cv (.one (.sl T814c p1 .full)))], [(.box 13, (encC .any T26b3 a1))]⟩
noncomputable def s1 (a1 : T26b3.T) (p1 : List T814c.T) (p2 : Bool) : St := ⟨68, [(2, .cv (.one (.ptr 0 0))), (7, .cv (.one (.sl T814c p1 .full))), (61, .cv (.one (.bool p2)))], [(.box 13, (encC .any T26b3 a1))]⟩
noncomputable def s5 (a1 : T26b3.T) (p1 : List T814c.T) : St := ⟨68, [(2, .cv (.one (.ptr 0 0))), (7, .cv (.one (.sl T814c p1 .full)))], [(.box 13, (encC .any T26b3 a1))]⟩
noncomputable def j5 (a1 : T26b3.T) (k : Nat) (p1 : List T814c.T) : Option R :=
  some (p1, (a1.2.2.2.2.1, ()))
theorem j5_ok {r a1} {k p1} (H : j5 a1 k p1 = some r) : Gw P 0 (Q r) (Px c0 703 []) (s5 a1 p1) := by
  unfold j5 at H
  refine Rg V_ok 0 [] az ?_
  exact Lf (Eq.trans (by kernel_rfl) H)
noncomputable def s7 (a1 : T26b3.T) (p1 : List T814c.T) : St := ⟨68, [(2, .cv (.one (.ptr 0 0))), (7, .cv (.one (.sl T814c p1 .full)))], [(.box 13, (encC .any T26b3 a1))]⟩
noncomputable def j7 (a1 : T26b3.T) (k : Nat) (p1 : List T814c.T) : Option R :=
  some (p1, (a1.2.2.2.1, ()))
theorem j7_ok {r a1} {k p1} (H : j7 a1 k p1 = some r) : Gw P 0 (Q r) (Px c0 255 []) (s7 a1 p1) := by
  unfold j7 at H
  refine Rg V_ok 0 [] az ?_
  exact Lf (Eq.trans (by kernel_rfl) H)
noncomputable def j1 (a1 : T26b3.T) (k : Nat) (p1 : List T814c.T) (p2 : Bool) : Option R :=
  if p2 = true then
  j5 a1 k p1
else
  j7 a1 k p1
theorem j1_ok {r a1} {k p1 p2} (H : j1 a1 k p1 p2 = some r) : Gw P 0 (Q r) (Px c0 447 []) (s1 a1 p1 p2) := by
  unfold j1 at H
  rcases of_ite H with ⟨hb17, H⟩ | ⟨hb17, H⟩
  · refine C1 hb17 ?_
    exact Jm (tn [2, 7] 1) (j5_ok H)
  · refine C0 hb17 ?_
    exact Jm (tn [2, 7] 1) (j7_ok H)
noncomputable def j2 (a1 : T26b3.T) (k : Nat) (p1 : List T814c.T) : Option R :=
  if (a1.2.2.2.2.2.1 == (2 : Int)) = true then
  j1 a1 k p1 true
else
  j1 a1 k p1 (a1.2.2.2.2.2.1 == (3 : Int))
theorem j2_ok {r a1} {k p1} (H : j2 a1 k p1 = some r) : Gw P 0 (Q r) (Px c0 127 []) (s2 a1 p1) := by
  unfold j2 at H
  rcases of_ite H with ⟨hb16, H⟩ | ⟨hb16, H⟩
  · refine Rg V_ok 0 [(2, {bv := some true})] (ac hb16 az) ?_
    exact Jm (tn [2, 7, 61] 1) (j1_ok H)
  · refine Rg V_ok 0 [(2, {bv := some false})] (ac hb16 az) ?_
    exact Jm (tn [2, 7, 61] 1) (j1_ok H)
noncomputable def s3 (a1 : T26b3.T) (p2 : List T814c.T) : St := ⟨68, [(2, .cv (.one (.ptr 0 0))), (7, .cv (.one (.own 1)))], [(.box 13, (encC .any T26b3 a1)), (.buf 100 T814c p2, [])]⟩
noncomputable def s4 (a1 : T26b3.T) (p1 : Bool) (p3 : List T814c.T) : St := ⟨68, [(2, .cv (.one (.ptr 0 0))), (7, .cv (.one (.own 1))), (61, .cv (.one (.bool p1)))], [(.box 13, (encC .any T26b3 a1)), (.buf 100 T814c p3, [])]⟩
noncomputable def s6 (a1 : T26b3.T) (p2 : List T814c.T) : St := ⟨68, [(2, .cv (.one (.ptr 0 0))), (7, .cv (.one (.own 1)))], [(.box 13, (encC .any T26b3 a1)), (.buf 100 T814c p2, [])]⟩
noncomputable def j6 (a1 : T26b3.T) (k : Nat) (p2 : List T814c.T) : Option R :=
  some (p2, (a1.2.2.2.2.1, ()))
theorem j6_ok {r a1} {k p2} (H : j6 a1 k p2 = some r) : Gw P 0 (Q r) (Px c0 703 []) (s6 a1 p2) := by
  unfold j6 at H
  refine Rg V_ok 0 [] az ?_
  exact Lf (Eq.trans (by kernel_rfl) H)
noncomputable def s8 (a1 : T26b3.T) (p2 : List T814c.T) : St := ⟨68, [(2, .cv (.one (.ptr 0 0))), (7, .cv (.one (.own 1)))], [(.box 13, (encC .any T26b3 a1)), (.buf 100 T814c p2, [])]⟩
noncomputable def j8 (a1 : T26b3.T) (k : Nat) (p2 : List T814c.T) : Option R :=
  some (p2, (a1.2.2.2.1, ()))
theorem j8_ok {r a1} {k p2} (H : j8 a1 k p2 = some r) : Gw P 0 (Q r) (Px c0 255 []) (s8 a1 p2) := by
  unfold j8 at H
  refine Rg V_ok 0 [] az ?_
  exact Lf (Eq.trans (by kernel_rfl) H)
noncomputable def j4 (a1 : T26b3.T) (k : Nat) (p1 : Bool) (p3 : List T814c.T) : Option R :=
  if p1 = true then
  j6 a1 k p3
else
  j8 a1 k p3
theorem j4_ok {r a1} {k p1 p3} (H : j4 a1 k p1 p3 = some r) : Gw P 0 (Q r) (Px c0 447 []) (s4 a1 p1 p3) := by
  unfold j4 at H
  rcases of_ite H with ⟨hb19, H⟩ | ⟨hb19, H⟩
  · refine C1 hb19 ?_
    exact Jm (tn [2, 7] 2) (j6_ok H)
  · refine C0 hb19 ?_
    exact Jm (tn [2, 7] 2) (j8_ok H)
noncomputable def j3 (a1 : T26b3.T) (k : Nat) (p2 : List T814c.T) : Option R :=
  if (a1.2.2.2.2.2.1 == (2 : Int)) = true then
  j4 a1 k true p2
else
  j4 a1 k (a1.2.2.2.2.2.1 == (3 : Int)) p2
theorem j3_ok {r a1} {k p2} (H : j3 a1 k p2 = some r) : Gw P 0 (Q r) (Px c0 127 []) (s3 a1 p2) := by
  unfold j3 at H
  rcases of_ite H with ⟨hb18, H⟩ | ⟨hb18, H⟩
  · refine Rg V_ok 0 [(2, {bv := some true})] (ac hb18 az) ?_
    exact Jm (tn [2, 7, 61] 2) (j4_ok H)
  · refine Rg V_ok 0 [(2, {bv := some false})] (ac hb18 az) ?_
    exact Jm (tn [2, 7, 61] 2) (j4_ok H)
noncomputable def f (k : Nat) (a1 : T26b3.T) (a2 : Int) : Option R :=
  (f_ref21_May.f k a1).bind fun y1 =>
    if (!y1.1) = true then
      some ([], ((0 : Int), ()))
    else
      if 0 ≤ a1.2.1 then
        if a1.2.1 < (a1.1.length : Int) then
          (f_ref12_At.f k (att (.slice (.slice T1383)) a1.1 a1.2.1) a2).bind fun y4 =>
            (f_ref21_two.f k a1).bind fun y8 =>
              if y8.1 = true then
                if 0 ≤ a1.2.2.1 then
                  if a1.2.2.1 < (a1.1.length : Int) then
                    (f_ref12_At.f k (att (.slice (.slice T1383)) a1.1 a1.2.2.1) a2).bind fun y11 =>
                      if (decide (a1.2.2.2.2.1 < a1.2.2.2.1)) = true then
                        j2 a1 k [(a1.2.2.2.2.1, y11.1), (att T814c [(a1.2.2.2.1, y4.1)] 0)]
                      else
                        j3 a1 k [(a1.2.2.2.1, y4.1), (a1.2.2.2.2.1, y11.1)]
                  else none
                else none
              else
                j2 a1 k [(a1.2.2.2.1, y4.1)]
        else none
      else none
noncomputable def S : Spec := ⟨ps, rs, .any, none, fun x r => ∃ k, f k x.1 x.2.1 = some r⟩
theorem rl {k a1 a2 r} (e : f k a1 a2 = some r) : S.rel (a1, a2, ()) r := ⟨k, e⟩
theorem f_ok {r k a1 a2} (H : f k a1 a2 = some r) : Gw P 0 (Q r) (Px c0 1 []) (⟨68, [(0, .cv (.agg (encC .any T26b3 a1))), (1, .cv (.one (.i a2)))], []⟩) := by
  unfold f at H
  refine Rg V_ok 1 [(0, hb 0)] az ?_
  obtain ⟨y1, e2, H⟩ := of_bind H
  refine Rg V_ok 0 [(1, hr f_ref21_May.S y1)] (ac (f_ref21_May.rl e2) az) ?_
  refine Rg V_ok 0 [] az ?_
  rcases of_ite H with ⟨hb3, H⟩ | ⟨hb3, H⟩
  · refine C1 hb3 ?_
    refine Rg V_ok 0 [] az ?_
    exact Lf (Eq.trans (by kernel_rfl) H)
  · refine C0 hb3 ?_
    obtain ⟨n5, H⟩ := of_if H
    obtain ⟨n6, H⟩ := of_if H
    obtain ⟨y4, e7, H⟩ := of_bind H
    refine Rg V_ok 0 [(9, hr f_ref12_At.S y4)] (ac n5 (ac n6 (ac (f_ref12_At.rl e7) az))) ?_
    obtain ⟨y8, e9, H⟩ := of_bind H
    refine Rg V_ok 0 [(1, hr f_ref21_two.S y8)] (ac (f_ref21_two.rl e9) az) ?_
    refine Rg V_ok 0 [] az ?_
    rcases of_ite H with ⟨hb10, H⟩ | ⟨hb10, H⟩
    · refine C1 hb10 ?_
      obtain ⟨n12, H⟩ := of_if H
      obtain ⟨n13, H⟩ := of_if H
      obtain ⟨y11, e14, H⟩ := of_bind H
      refine Rg V_ok 1 [(9, hr f_ref12_At.S y11), (11, hb 1)] (ac n12 (ac n13 (ac (f_ref12_At.rl e14) az))) ?_
      refine Rg V_ok 0 [] az ?_
      rcases of_ite H with ⟨hb15, H⟩ | ⟨hb15, H⟩
      · refine C1 hb15 ?_
        refine Rg V_ok 0 [] (ac (show 0 ≤ (0 : Int) by decide) (ac (show (0 : Int) < (1 : Int) by decide) az)) ?_
        exact Jm (tn [2, 7] 1) (j2_ok H)
      · refine C0 hb15 ?_
        refine Rg V_ok 1 [(3, hb 2)] (ac (show (1 + 1) * 32 ≤ 140737488355328 by decide) (ac (show 1 = 0 ∨ 0 < 1 by decide) az)) ?_
        exact Jm (tl [2, 7] [0, 2]) (j3_ok H)
    · refine C0 hb10 ?_
      exact Jm (tn [2, 7] 1) (j2_ok H)
theorem fits : Fits P 23 S := fits_of V_ok Go.Proofs.Tryz.func23 (by kernel_rfl) (by decide) (by decide) rfl (fun x r ⟨k, H⟩ => of_G (f_ok H))
end f_ref21_Live
/-! ### function 39, wayfinder/wayfinderref15.New -/
namespace f_ref15_New
noncomputable def c0 : Code := (Go.Proofs.Tryz.f39.body).getD .skip
abbrev ps : Sg := [(false, (.int .i64))]
abbrev rs : Sg := [(true, Tb104)]
noncomputable def V : Env := { tt := tt, Γ := slk [] }
theorem V_ok : EnvOk P V := { ck := tt_ck, fits := slk_nil, mixed := mixed }
abbrev R := Tup rs
noncomputable abbrev Q (r : R) : Exit → St → Prop := Qr tt Go.Proofs.Tryz.f39.results ⟨ps, rs, .any, none, fun _ _ => True⟩ r
noncomputable def f (k : Nat) (a1 : Int) : Option R :=
  some ((a1, (1, [])), ())
noncomputable def S : Spec := ⟨ps, rs, .any, none, fun x r => ∃ k, f k x.1 = some r⟩
theorem rl {k a1 r} (e : f k a1 = some r) : S.rel (a1, ()) r := ⟨k, e⟩
theorem f_ok {r k a1} (H : f k a1 = some r) : Gw P 0 (Q r) (Px c0 1 []) (⟨5, [(0, .cv (.one (.i a1)))], []⟩) := by
  unfold f at H
  refine Rg V_ok 1 [(0, hb 0)] az ?_
  refine Rg V_ok 0 [] az ?_
  exact Lf (Eq.trans (by kernel_rfl) H)
theorem fits : Fits P 39 S := fits_of V_ok Go.Proofs.Tryz.func39 (by kernel_rfl) (by decide) (by decide) rfl (fun x r ⟨k, H⟩ => of_G (f_ok H))
end f_ref15_New
/-! ### function 92, wayfinder/wayfinderref20.Adds -/
namespace f_ref20_Adds
noncomputable def c0 : Code := (Go.Proofs.Tryz.f92.body).getD .skip
abbrev ps : Sg := [(false, (.int .i64)), (false, (.slice T1383))]
abbrev rs : Sg := [(false, (.slice T4414))]
noncomputable def V : Env := { tt := tt, Γ := slk [] }
theorem V_ok : EnvOk P V := { ck := tt_ck, fits := slk_nil, mixed := mixed }
abbrev R := Tup rs
noncomputable abbrev Q (r : R) : Exit → St → Prop := Qr tt Go.Proofs.Tryz.f92.results ⟨ps, rs, .any, none, fun _ _ => True⟩ r
noncomputable def s1 (p1 : Int) (p2 : List T1383.T) (p3 : Int) (p4 : List T4414.T) : St := ⟨23, [(0, .cv (.one (.i p1))), (1, .cv (.one (.sl T1383 p2 .any))), (5, .cv (.one (.own 0))), (6, .cv (.one (.i p3)))], [(.buf 66 T4414 p4, [])]⟩
noncomputable def b1 (L1 : Int → List T1383.T → Int → List T4414.T → Option R) (k : Nat) (p1 : Int) (p2 : List T1383.T) (p3 : Int) (p4 : List T4414.T) : Option R :=
  if (decide (p3 < (p2.length : Int))) = true then
  if 0 ≤ p3 then
    if p3 < (p2.length : Int) then
      if (p4.length + 1) * 80 ≤ 140737488355328 then
        L1 p1 p2 (IntKind.i64.wrap (p3 + 1)) (p4 ++ [(2, (0, (0, (p1, (att T1383 p2 p3)))))])
      else none
    else none
  else none
else
  some (p4, ())
theorem b1_ok {r} {L1 : Int → List T1383.T → Int → List T4414.T → Option R} {m1 : Nat} (hL1 : ∀ p1 p2 p3 p4, L1 p1 p2 p3 p4 = some r → Gw P 0 (Q r) (Pb c0 43 [] m1) (s1 p1 p2 p3 p4)) {k p1 p2 p3 p4} (H : b1 L1 k p1 p2 p3 p4 = some r) : Gw P 0 (Q r) (Px c0 75 [m1]) (s1 p1 p2 p3 p4) := by
  unfold b1 at H
  refine Rg V_ok 0 [] az ?_
  rcases of_ite H with ⟨hb1, H⟩ | ⟨hb1, H⟩
  · refine C1 hb1 ?_
    obtain ⟨n2, H⟩ := of_if H
    obtain ⟨n3, H⟩ := of_if H
    obtain ⟨n4, H⟩ := of_if H
    refine Rg V_ok 1 [(8, hb 1)] (ac n2 (ac n3 (ac n4 az))) ?_
    refine Rg V_ok 0 [] az ?_
    exact Jm (tl [0, 1, 5, 6] [1]) (hL1 p1 p2 (IntKind.i64.wrap (p3 + 1)) (p4 ++ [(2, (0, (0, (p1, (att T1383 p2 p3)))))]) H)
  · refine C0 hb1 ?_
    refine Rg V_ok 0 [] az ?_
    exact Lf (Eq.trans (by kernel_rfl) H)
noncomputable def l1 (k : Nat) : Nat → Int → List T1383.T → Int → List T4414.T → Option R
  | 0, _, _, _, _ => none
  | m + 1, p1, p2, p3, p4 => b1 (l1 k m) k p1 p2 p3 p4
theorem l1_ok {r} (k : Nat) : ∀ (m1 : Nat) (p1 : Int) (p2 : List T1383.T) (p3 : Int) (p4 : List T4414.T), l1 k m1 p1 p2 p3 p4 = some r → Gw P 0 (Q r) (Pb c0 43 [] m1) (s1 p1 p2 p3 p4)
  | 0, _, _, _, _, H => by cases H
  | m1 + 1, p1, p2, p3, p4, H => SU (by kernel_rfl) (b1_ok (l1_ok k m1) H)
noncomputable def f (k : Nat) (a1 : Int) (a2 : List T1383.T) : Option R :=
  l1 k k a1 a2 0 []
noncomputable def S : Spec := ⟨ps, rs, .any, none, fun x r => ∃ k, f k x.1 x.2.1 = some r⟩
theorem rl {k a1 a2 r} (e : f k a1 a2 = some r) : S.rel (a1, a2, ()) r := ⟨k, e⟩
theorem f_ok {r k a1 a2} (H : f k a1 a2 = some r) : Gw P 0 (Q r) (Px c0 1 []) (⟨23, [(0, .cv (.one (.i a1))), (1, .cv (.one (.sl T1383 a2 .any)))], []⟩) := by
  unfold f at H
  refine Rg V_ok 0 [] az ?_
  refine Rg V_ok 0 [] az ?_
  refine Rg V_ok 0 [] az ?_
  exact LP k (Jm {fz := [], gr := 1, ad := [.ownT 5 0 66 T4414], live := [0, 1, 5, 6], src := [some 0]} (l1_ok k k a1 a2 0 [] H))
theorem fits : Fits P 92 S := fits_of V_ok Go.Proofs.Tryz.func92 (by kernel_rfl) (by decide) (by decide) rfl (fun x r ⟨k, H⟩ => of_G (f_ok H))
end f_ref20_Adds
/-! ### function 40, wayfinder/wayfinderref20.Sync -/
namespace f_ref20_Sync
noncomputable def c0 : Code := (Go.Proofs.Tryz.f40.body).getD .skip
abbrev ps : Sg := [(false, (.slice T814c)), (false, (.int .i64))]
abbrev rs : Sg := [(false, (.slice T4414))]
noncomputable def V : Env := { tt := tt, Γ := slk [(92, f_ref20_Adds.S)] }
theorem V_ok : EnvOk P V := { ck := tt_ck, fits := slk_cons f_ref20_Adds.fits (slk_nil), mixed := mixed }
abbrev R := Tup rs
noncomputable abbrev Q (r : R) : Exit → St → Prop := Qr tt Go.Proofs.Tryz.f40.results ⟨ps, rs, .any, none, fun _ _ => True⟩ r
noncomputable def s1 (p1 : List T814c.T) (p2 p3 : Int) (p4 : List T4414.T) : St := ⟨32, [(0, .cv (.one (.sl T814c p1 .any))), (1, .cv (.one (.i p2))), (5, .cv (.one (.own 0))), (6, .cv (.one (.i p3)))], [(.buf 66 T4414 p4, [])]⟩
noncomputable def b1 (L1 : List T814c.T → Int → Int → List T4414.T → Option R) (k : Nat) (p1 : List T814c.T) (p2 p3 : Int) (p4 : List T4414.T) : Option R :=
  if (decide (p3 < (p1.length : Int))) = true then
  if 0 ≤ p3 then
    if p3 < (p1.length : Int) then
      (f_ref20_Adds.f k ((att T814c p1 p3).1) ((att T814c p1 p3).2)).bind fun y2 =>
        if (p4.length + y2.1.length) * 80 ≤ 140737488355328 then
          L1 p1 p2 (IntKind.i64.wrap (p3 + 1)) (p4 ++ y2.1)
        else none
    else none
  else none
else
  if (p4.length + 2) * 80 ≤ 140737488355328 then
    some ((p4 ++ [(3, (0, (0, (p2, ((0, 0), (0, (0, (0, 0)))))))), (5, (0, (0, (0, ((0, 0), (0, (0, (0, 0))))))))]), ())
  else none
theorem b1_ok {r} {L1 : List T814c.T → Int → Int → List T4414.T → Option R} {m1 : Nat} (hL1 : ∀ p1 p2 p3 p4, L1 p1 p2 p3 p4 = some r → Gw P 0 (Q r) (Pb c0 43 [] m1) (s1 p1 p2 p3 p4)) {k p1 p2 p3 p4} (H : b1 L1 k p1 p2 p3 p4 = some r) : Gw P 0 (Q r) (Px c0 75 [m1]) (s1 p1 p2 p3 p4) := by
  unfold b1 at H
  refine Rg V_ok 0 [] az ?_
  rcases of_ite H with ⟨hb1, H⟩ | ⟨hb1, H⟩
  · refine C1 hb1 ?_
    obtain ⟨n3, H⟩ := of_if H
    obtain ⟨n4, H⟩ := of_if H
    obtain ⟨y2, e5, H⟩ := of_bind H
    obtain ⟨n6, H⟩ := of_if H
    refine Rg V_ok 1 [(11, hr f_ref20_Adds.S y2), (12, hb 1)] (ac n3 (ac n4 (ac n3 (ac n4 (ac (f_ref20_Adds.rl e5) (ac n6 az)))))) ?_
    refine Rg V_ok 0 [] az ?_
    exact Jm (tl [0, 1, 5, 6] [1]) (hL1 p1 p2 (IntKind.i64.wrap (p3 + 1)) (p4 ++ y2.1) H)
  · refine C0 hb1 ?_
    obtain ⟨n7, H⟩ := of_if H
    refine Rg V_ok 1 [(5, hb 1)] (ac n7 az) ?_
    exact Lf (Eq.trans (by kernel_rfl) H)
noncomputable def l1 (k : Nat) : Nat → List T814c.T → Int → Int → List T4414.T → Option R
  | 0, _, _, _, _ => none
  | m + 1, p1, p2, p3, p4 => b1 (l1 k m) k p1 p2 p3 p4
theorem l1_ok {r} (k : Nat) : ∀ (m1 : Nat) (p1 : List T814c.T) (p2 p3 : Int) (p4 : List T4414.T), l1 k m1 p1 p2 p3 p4 = some r → Gw P 0 (Q r) (Pb c0 43 [] m1) (s1 p1 p2 p3 p4)
  | 0, _, _, _, _, H => by cases H
  | m1 + 1, p1, p2, p3, p4, H => SU (by kernel_rfl) (b1_ok (l1_ok k m1) H)
noncomputable def f (k : Nat) (a1 : List T814c.T) (a2 : Int) : Option R :=
  l1 k k a1 a2 0 []
noncomputable def S : Spec := ⟨ps, rs, .any, none, fun x r => ∃ k, f k x.1 x.2.1 = some r⟩
theorem rl {k a1 a2 r} (e : f k a1 a2 = some r) : S.rel (a1, a2, ()) r := ⟨k, e⟩
theorem f_ok {r k a1 a2} (H : f k a1 a2 = some r) : Gw P 0 (Q r) (Px c0 1 []) (⟨32, [(0, .cv (.one (.sl T814c a1 .any))), (1, .cv (.one (.i a2)))], []⟩) := by
  unfold f at H
  refine Rg V_ok 0 [] az ?_
  refine Rg V_ok 0 [] az ?_
  refine Rg V_ok 0 [] az ?_
  exact LP k (Jm {fz := [], gr := 1, ad := [.ownT 5 0 66 T4414], live := [0, 1, 5, 6], src := [some 0]} (l1_ok k k a1 a2 0 [] H))
theorem fits : Fits P 40 S := fits_of V_ok Go.Proofs.Tryz.func40 (by kernel_rfl) (by decide) (by decide) rfl (fun x r ⟨k, H⟩ => of_G (f_ok H))
end f_ref20_Sync
/-! ### function 91, wayfinder/wayfinderref15.Push -/
namespace f_ref15_Push
noncomputable def c0 : Code := (Go.Proofs.Tryz.f91.body).getD .skip
abbrev ps : Sg := [(true, Tb104), (true, T4414)]
abbrev rs : Sg := [(true, Tb104), (false, (.int .i64))]
noncomputable def V : Env := { tt := tt, Γ := slk [] }
theorem V_ok : EnvOk P V := { ck := tt_ck, fits := slk_nil, mixed := mixed }
abbrev R := Tup rs
noncomputable abbrev Q (r : R) : Exit → St → Prop := Qr tt Go.Proofs.Tryz.f91.results ⟨ps, rs, .any, none, fun _ _ => True⟩ r
noncomputable def f (k : Nat) (a1 : Tb104.T) (a2 : T4414.T) : Option R :=
  if (decide (a1.2.1 > (1048576 : Int))) = true then
    some (a1, ((7 : Int), ()))
  else
    if a1.2.2.length * 80 ≤ 140737488355328 then
      if (a1.2.2.length + 1) * 80 ≤ 140737488355328 then
        some ((a1.1, ((IntKind.i64.wrap (a1.2.1 + 1)), (a1.2.2 ++ [(a2.1, (a1.1, (a1.2.1, a2.2.2.2)))]))), ((0 : Int), ()))
      else none
    else none
noncomputable def S : Spec := ⟨ps, rs, .any, none, fun x r => ∃ k, f k x.1 x.2.1 = some r⟩
theorem rl {k a1 a2 r} (e : f k a1 a2 = some r) : S.rel (a1, a2, ()) r := ⟨k, e⟩
theorem f_ok {r k a1 a2} (H : f k a1 a2 = some r) : Gw P 0 (Q r) (Px c0 1 []) (⟨28, [(0, .cv (.agg (encC .any Tb104 a1))), (1, .cv (.agg (encC .any T4414 a2)))], []⟩) := by
  unfold f at H
  refine Rg V_ok 3 [(0, hb 0), (1, hb 1), (2, hb 2)] az ?_
  refine Rg V_ok 0 [] az ?_
  rcases of_ite H with ⟨hb1, H⟩ | ⟨hb1, H⟩
  · refine C1 hb1 ?_
    refine Rg V_ok 0 [] az ?_
    exact Lf (Eq.trans (by kernel_rfl) H)
  · refine C0 hb1 ?_
    refine Rg V_ok 0 [] az ?_
    refine Rg V_ok 0 [] az ?_
    obtain ⟨n2, H⟩ := of_if H
    obtain ⟨n3, H⟩ := of_if H
    refine Rg V_ok 2 [(2, hb 3), (5, hb 4)] (ac n2 (ac n3 az)) ?_
    refine Rg V_ok 0 [] az ?_
    refine Rg V_ok 0 [] az ?_
    exact Lf (Eq.trans (by kernel_rfl) H)
theorem fits : Fits P 91 S := fits_of V_ok Go.Proofs.Tryz.func91 (by kernel_rfl) (by decide) (by decide) rfl (fun x r ⟨k, H⟩ => of_G (f_ok H))
end f_ref15_Push
/-! ### function 38, wayfinder/wayfinderref20.Push -/
namespace f_ref20_Push
noncomputable def c0 : Code := (Go.Proofs.Tryz.f38.body).getD .skip
abbrev ps : Sg := [(true, Tb104), (false, (.slice T4414))]
abbrev rs : Sg := [(true, Tb104)]
noncomputable def V : Env := { tt := tt, Γ := slk [(91, f_ref15_Push.S)] }
theorem V_ok : EnvOk P V := { ck := tt_ck, fits := slk_cons f_ref15_Push.fits (slk_nil), mixed := mixed }
abbrev R := Tup rs
noncomputable abbrev Q (r : R) : Exit → St → Prop := Qr tt Go.Proofs.Tryz.f38.results ⟨ps, rs, .any, none, fun _ _ => True⟩ r
noncomputable def s1 (p1 : List T4414.T) (p2 : Int) (p3 : Tb104.T) (p4 p5 : Int) : St := ⟨28, [(1, .cv (.one (.sl T4414 p1 .any))), (2, .cv (.one (.ptr 0 0))), (4, .cv (.one (.ptr 1 0))), (5, .cv (.one (.i p2)))], [(.box 3, (encC .any Tb104 p3)), (.box 3, [.i p4, .i p5, .nils])]⟩
noncomputable def b1 (L1 : List T4414.T → Int → Tb104.T → Int → Int → Option R) (k : Nat) (p1 : List T4414.T) (p2 : Int) (p3 : Tb104.T) (p4 p5 : Int) : Option R :=
  if (decide (p2 < (p1.length : Int))) = true then
  if 0 ≤ p2 then
    if p2 < (p1.length : Int) then
      (f_ref15_Push.f k p3 (att T4414 p1 p2)).bind fun y2 =>
        if (y2.2.1 != (0 : Int)) = true then
          some (p3, ())
        else
          L1 p1 (IntKind.i64.wrap (p2 + 1)) y2.1 p4 p5
    else none
  else none
else
  some (p3, ())
theorem b1_ok {r} {L1 : List T4414.T → Int → Tb104.T → Int → Int → Option R} {m1 : Nat} (hL1 : ∀ p1 p2 p3 p4 p5, L1 p1 p2 p3 p4 p5 = some r → Gw P 0 (Q r) (Pb c0 21 [] m1) (s1 p1 p2 p3 p4 p5)) {k p1 p2 p3 p4 p5} (H : b1 L1 k p1 p2 p3 p4 p5 = some r) : Gw P 0 (Q r) (Px c0 37 [m1]) (s1 p1 p2 p3 p4 p5) := by
  unfold b1 at H
  refine Rg V_ok 0 [] az ?_
  rcases of_ite H with ⟨hb1, H⟩ | ⟨hb1, H⟩
  · refine C1 hb1 ?_
    obtain ⟨n3, H⟩ := of_if H
    obtain ⟨n4, H⟩ := of_if H
    obtain ⟨y2, e5, H⟩ := of_bind H
    refine Rg V_ok 1 [(5, hr f_ref15_Push.S y2), (9, hb 2)] (ac n3 (ac n4 (ac (f_ref15_Push.rl e5) az))) ?_
    refine Rg V_ok 0 [] az ?_
    rcases of_ite H with ⟨hb6, H⟩ | ⟨hb6, H⟩
    · refine C1 hb6 ?_
      refine Rg V_ok 0 [] az ?_
      exact Lf (Eq.trans (by kernel_rfl) H)
    · refine C0 hb6 ?_
      refine Rg V_ok 0 [] az ?_
      refine Rg V_ok 0 [] az ?_
      exact Jm (tn [1, 2, 4, 5] 2) (hL1 p1 (IntKind.i64.wrap (p2 + 1)) y2.1 p4 p5 H)
  · refine C0 hb1 ?_
    refine Rg V_ok 0 [] az ?_
    exact Lf (Eq.trans (by kernel_rfl) H)
noncomputable def l1 (k : Nat) : Nat → List T4414.T → Int → Tb104.T → Int → Int → Option R
  | 0, _, _, _, _, _ => none
  | m + 1, p1, p2, p3, p4, p5 => b1 (l1 k m) k p1 p2 p3 p4 p5
theorem l1_ok {r} (k : Nat) : ∀ (m1 : Nat) (p1 : List T4414.T) (p2 : Int) (p3 : Tb104.T) (p4 : Int) (p5 : Int), l1 k m1 p1 p2 p3 p4 p5 = some r → Gw P 0 (Q r) (Pb c0 21 [] m1) (s1 p1 p2 p3 p4 p5)
  | 0, _, _, _, _, _, H => by cases H
  | m1 + 1, p1, p2, p3, p4, p5, H => SU (by kernel_rfl) (b1_ok (l1_ok k m1) H)
noncomputable def f (k : Nat) (a1 : Tb104.T) (a2 : List T4414.T) : Option R :=
  l1 k k a2 0 a1 0 0
noncomputable def S : Spec := ⟨ps, rs, .any, none, fun x r => ∃ k, f k x.1 x.2.1 = some r⟩
theorem rl {k a1 a2 r} (e : f k a1 a2 = some r) : S.rel (a1, a2, ()) r := ⟨k, e⟩
theorem f_ok {r k a1 a2} (H : f k a1 a2 = some r) : Gw P 0 (Q r) (Px c0 1 []) (⟨28, [(0, .cv (.agg (encC .any Tb104 a1))), (1, .cv (.one (.sl T4414 a2 .any)))], []⟩) := by
  unfold f at H
  refine Rg V_ok 2 [(0, hb 0), (1, hb 1)] az ?_
  refine Rg V_ok 0 [] az ?_
  exact LP k (Jm (tn [1, 2, 4, 5] 2) (l1_ok k k a2 0 a1 0 0 H))
theorem fits : Fits P 38 S := fits_of V_ok Go.Proofs.Tryz.func38 (by kernel_rfl) (by decide) (by decide) rfl (fun x r ⟨k, H⟩ => of_G (f_ok H))
end f_ref20_Push
/-! ### function 41, wayfinder/wayfinderref21.peer -/
namespace f_ref21_peer
noncomputable def c0 : Code := (Go.Proofs.Tryz.f41.body).getD .skip
abbrev ps : Sg := [(true, T26b3), (false, (.int .i64)), (true, T23b6)]
abbrev rs : Sg := [(true, T26b3)]
noncomputable def V : Env := { tt := tt, Γ := slk [] }
theorem V_ok : EnvOk P V := { ck := tt_ck, fits := slk_nil, mixed := mixed }
abbrev R := Tup rs
noncomputable abbrev Q (r : R) : Exit → St → Prop := Qr tt Go.Proofs.Tryz.f41.results ⟨ps, rs, .any, none, fun _ _ => True⟩ r
noncomputable def f (k : Nat) (a1 : T26b3.T) (a2 : Int) (a3 : T23b6.T) : Option R :=
  if a1.2.2.2.2.2.2.2.2.1.length * 56 ≤ 140737488355328 then
    if 0 ≤ a2 then
      if a2 < (a1.2.2.2.2.2.2.2.2.1.length : Int) then
        some ((a1.1, (a1.2.1, (a1.2.2.1, (a1.2.2.2.1, (a1.2.2.2.2.1, (a1.2.2.2.2.2.1, (a1.2.2.2.2.2.2.1, (a1.2.2.2.2.2.2.2.1, ((a1.2.2.2.2.2.2.2.2.1.set a2.toNat a3), a1.2.2.2.2.2.2.2.2.2))))))))), ())
      else none
    else none
  else none
noncomputable def S : Spec := ⟨ps, rs, .any, none, fun x r => ∃ k, f k x.1 x.2.1 x.2.2.1 = some r⟩
theorem rl {k a1 a2 a3 r} (e : f k a1 a2 a3 = some r) : S.rel (a1, a2, a3, ()) r := ⟨k, e⟩
theorem f_ok {r k a1 a2 a3} (H : f k a1 a2 a3 = some r) : Gw P 0 (Q r) (Px c0 1 []) (⟨18, [(0, .cv (.agg (encC .any T26b3 a1))), (1, .cv (.one (.i a2))), (2, .cv (.agg (encC .any T23b6 a3)))], []⟩) := by
  unfold f at H
  refine Rg V_ok 3 [(0, hb 0), (1, hb 1), (2, hb 2)] az ?_
  obtain ⟨n1, H⟩ := of_if H
  refine Rg V_ok 1 [(2, hb 3)] (ac n1 az) ?_
  obtain ⟨n2, H⟩ := of_if H
  obtain ⟨n3, H⟩ := of_if H
  refine Rg V_ok 0 [] (ac n2 (ac n3 az)) ?_
  refine Rg V_ok 0 [] az ?_
  refine Rg V_ok 0 [] az ?_
  exact Lf (Eq.trans (by kernel_rfl) H)
theorem fits : Fits P 41 S := fits_of V_ok Go.Proofs.Tryz.func41 (by kernel_rfl) (by decide) (by decide) rfl (fun x r ⟨k, H⟩ => of_G (f_ok H))
end f_ref21_peer
/-! ### function 42, wayfinder/wayfinderref15.Done -/
namespace f_ref15_Done
noncomputable def c0 : Code := (Go.Proofs.Tryz.f42.body).getD .skip
abbrev ps : Sg := [(true, Tb104), (false, (.int .i64)), (false, (.int .i64))]
abbrev rs : Sg := [(true, Tb104)]
noncomputable def V : Env := { tt := tt, Γ := slk [] }
theorem V_ok : EnvOk P V := { ck := tt_ck, fits := slk_nil, mixed := mixed }
abbrev R := Tup rs
noncomputable abbrev Q (r : R) : Exit → St → Prop := Qr tt Go.Proofs.Tryz.f42.results ⟨ps, rs, .any, none, fun _ _ => True⟩ r
noncomputable def s1 (p1 p2 : Int) (p3 : Tb104.T) (p4 p5 : Int) (p6 : List T4414.T) : St := ⟨40, [(2, .cv (.one (.i p1))), (3, .cv (.one (.ptr 0 0))), (6, .cv (.one (.ptr 1 0))), (7, .cv (.one (.own 2))), (8, .cv (.one (.i p2)))], [(.box 3, (encC .any Tb104 p3)), (.box 3, [.i p4, .i p5, .nils]), (.buf 66 T4414 p6, [])]⟩
noncomputable def s2 (p1 p2 : Int) (p3 : Tb104.T) (p4 p5 : Int) (p6 : List T4414.T) : St := ⟨40, [(2, .cv (.one (.i p1))), (3, .cv (.one (.ptr 0 0))), (6, .cv (.one (.ptr 1 0))), (7, .cv (.one (.own 2))), (8, .cv (.one (.i p2)))], [(.box 3, (encC .any Tb104 p3)), (.box 3, [.i p4, .i p5, .nils]), (.buf 66 T4414 p6, [])]⟩
noncomputable def j2 (L1 : Int → Int → Tb104.T → Int → Int → List T4414.T → Option R) (k : Nat) (p1 p2 : Int) (p3 : Tb104.T) (p4 p5 : Int) (p6 : List T4414.T) : Option R :=
  L1 p1 (IntKind.i64.wrap (p2 + 1)) p3 p4 p5 p6
theorem j2_ok {r} {L1 : Int → Int → Tb104.T → Int → Int → List T4414.T → Option R} {m1 : Nat} (hL1 : ∀ p1 p2 p3 p4 p5 p6, L1 p1 p2 p3 p4 p5 p6 = some r → Gw P 0 (Q r) (Pb c0 87 [] m1) (s1 p1 p2 p3 p4 p5 p6)) {k p1 p2 p3 p4 p5 p6} (H : j2 L1 k p1 p2 p3 p4 p5 p6 = some r) : Gw P 0 (Q r) (Px c0 919 [m1]) (s2 p1 p2 p3 p4 p5 p6) := by
  unfold j2 at H
  refine Rg V_ok 0 [] az ?_
  exact Jm (tn [2, 3, 6, 7, 8] 3) (hL1 p1 (IntKind.i64.wrap (p2 + 1)) p3 p4 p5 p6 H)
noncomputable def b1 (L1 : Int → Int → Tb104.T → Int → Int → List T4414.T → Option R) (k : Nat) (p1 p2 : Int) (p3 : Tb104.T) (p4 p5 : Int) (p6 : List T4414.T) : Option R :=
  if (decide (p2 < (p3.2.2.length : Int))) = true then
  if 0 ≤ p2 then
    if p2 < (p3.2.2.length : Int) then
      if (decide (((((att T4414 p3.2.2 p2).2).2).1) > p1)) = true then
        if (p6.length + 1) * 80 ≤ 140737488355328 then
          j2 L1 k p1 p2 p3 p4 p5 (p6 ++ [(att T4414 p3.2.2 p2)])
        else none
      else
        j2 L1 k p1 p2 p3 p4 p5 p6
    else none
  else none
else
  some ((p3.1, (p3.2.1, p6)), ())
theorem b1_ok {r} {L1 : Int → Int → Tb104.T → Int → Int → List T4414.T → Option R} {m1 : Nat} (hL1 : ∀ p1 p2 p3 p4 p5 p6, L1 p1 p2 p3 p4 p5 p6 = some r → Gw P 0 (Q r) (Pb c0 87 [] m1) (s1 p1 p2 p3 p4 p5 p6)) {k p1 p2 p3 p4 p5 p6} (H : b1 L1 k p1 p2 p3 p4 p5 p6 = some r) : Gw P 0 (Q r) (Px c0 151 [m1]) (s1 p1 p2 p3 p4 p5 p6) := by
  unfold b1 at H
  refine Rg V_ok 0 [] az ?_
  rcases of_ite H with ⟨hb2, H⟩ | ⟨hb2, H⟩
  · refine C1 hb2 ?_
    obtain ⟨n3, H⟩ := of_if H
    obtain ⟨n4, H⟩ := of_if H
    refine Rg V_ok 0 [] (ac n3 (ac n4 az)) ?_
    rcases of_ite H with ⟨hb5, H⟩ | ⟨hb5, H⟩
    · refine C1 hb5 ?_
      obtain ⟨n6, H⟩ := of_if H
      refine Rg V_ok 1 [(7, hb 3)] (ac n3 (ac n4 (ac n6 az))) ?_
      exact Jm (tl [2, 3, 6, 7, 8] [0, 1, 3]) (j2_ok hL1 H)
    · refine C0 hb5 ?_
      exact Jm (tn [2, 3, 6, 7, 8] 3) (j2_ok hL1 H)
  · refine C0 hb2 ?_
    refine Rg V_ok 0 [] az ?_
    refine Rg V_ok 0 [] az ?_
    exact Lf (Eq.trans (by kernel_rfl) H)
noncomputable def l1 (k : Nat) : Nat → Int → Int → Tb104.T → Int → Int → List T4414.T → Option R
  | 0, _, _, _, _, _, _ => none
  | m + 1, p1, p2, p3, p4, p5, p6 => b1 (l1 k m) k p1 p2 p3 p4 p5 p6
theorem l1_ok {r} (k : Nat) : ∀ (m1 : Nat) (p1 p2 : Int) (p3 : Tb104.T) (p4 p5 : Int) (p6 : List T4414.T), l1 k m1 p1 p2 p3 p4 p5 p6 = some r → Gw P 0 (Q r) (Pb c0 87 [] m1) (s1 p1 p2 p3 p4 p5 p6)
  | 0, _, _, _, _, _, _, H => by cases H
  | m1 + 1, p1, p2, p3, p4, p5, p6, H => SU (by kernel_rfl) (b1_ok (l1_ok k m1) H)
noncomputable def f (k : Nat) (a1 : Tb104.T) (a2 a3 : Int) : Option R :=
  if (a2 != a1.1) = true then
    some (a1, ())
  else
    l1 k k a3 0 a1 0 0 []
noncomputable def S : Spec := ⟨ps, rs, .any, none, fun x r => ∃ k, f k x.1 x.2.1 x.2.2.1 = some r⟩
theorem rl {k a1 a2 a3 r} (e : f k a1 a2 a3 = some r) : S.rel (a1, a2, a3, ()) r := ⟨k, e⟩
theorem f_ok {r k a1 a2 a3} (H : f k a1 a2 a3 = some r) : Gw P 0 (Q r) (Px c0 1 []) (⟨40, [(0, .cv (.agg (encC .any Tb104 a1))), (1, .cv (.one (.i a2))), (2, .cv (.one (.i a3)))], []⟩) := by
  unfold f at H
  refine Rg V_ok 2 [(0, hb 0), (1, hb 1)] az ?_
  refine Rg V_ok 0 [] az ?_
  rcases of_ite H with ⟨hb1, H⟩ | ⟨hb1, H⟩
  · refine C1 hb1 ?_
    refine Rg V_ok 0 [] az ?_
    exact Lf (Eq.trans (by kernel_rfl) H)
  · refine C0 hb1 ?_
    refine Rg V_ok 0 [] az ?_
    refine Rg V_ok 0 [] az ?_
    exact LP k (Jm {fz := [], gr := 1, ad := [.ownT 7 2 66 T4414], live := [2, 3, 6, 7, 8], src := [some 0, some 1, some 2]} (l1_ok k k a3 0 a1 0 0 [] H))
theorem fits : Fits P 42 S := fits_of V_ok Go.Proofs.Tryz.func42 (by kernel_rfl) (by decide) (by decide) rfl (fun x r ⟨k, H⟩ => of_G (f_ok H))
end f_ref15_Done
/-! ### function 11, wayfinder/wayfinderref21.Heard -/
namespace f_ref21_Heard
noncomputable def c0 : Code := (Go.Proofs.Tryz.f11.body).getD .skip
abbrev ps : Sg := [(true, T26b3), (false, (.int .i64)), (false, (.slice (.int .u8)))]
abbrev rs : Sg := [(true, T26b3)]
noncomputable def V : Env := { tt := tt, Γ := slk [(23, f_ref21_Live.S), (36, f_ref21_May.S), (37, f_ref06_Open.S), (38, f_ref20_Push.S), (39, f_ref15_New.S), (40, f_ref20_Sync.S), (41, f_ref21_peer.S), (42, f_ref15_Done.S)] }
theorem V_ok : EnvOk P V := { ck := tt_ck, fits := slk_cons f_ref21_Live.fits (slk_cons f_ref21_May.fits (slk_cons f_ref06_Open.fits (slk_cons f_ref20_Push.fits (slk_cons f_ref15_New.fits (slk_cons f_ref20_Sync.fits (slk_cons f_ref21_peer.fits (slk_cons f_ref15_Done.fits (slk_nil)))))))), mixed := mixed }
abbrev R := Tup rs
noncomputable abbrev Q (r : R) : Exit → St → Prop := Qr tt Go.Proofs.Tryz.f11.results ⟨ps, rs, .any, none, fun _ _ => True⟩ r
noncomputable def s1 (a1 : T26b3.T) (a2 : Int) (a3 : List Int) (p3 : Bool) (p5 p6 p7 p8 p9 p10 p11 : Int) : St := ⟨129, [(1, .cv (.one (.i a2))), (2, .cv (.one (.sl (.int .u8) a3 .any))), (3, .cv (.one (.ptr 0 0))), (6, .cv (.one (.ptr 1 0))), (28, .cv (.one (.bool p3)))], [(.box 13, (encC .any T26b3 a1)), (.box 13, [.nils, .i p5, .i p6, .i p7, .i p8, .i p9, .i p10, .nils, .nils, .nils, .nils, .nils, .i p11])]⟩
noncomputable def s2 (a1 : T26b3.T) (a2 : Int) (p2 : Bool) (p4 p5 p6 p7 p8 p9 p10 : Int) (p11 : T4414.T) : St := ⟨129, [(1, .cv (.one (.i a2))), (3, .cv (.one (.ptr 0 0))), (6, .cv (.one (.ptr 1 0))), (8, .cv (.one (.ptr 2 0))), (46, .cv (.one (.bool p2)))], [(.box 13, (encC .any T26b3 a1)), (.box 13, [.nils, .i p4, .i p5, .i p6, .i p7, .i p8, .i p9, .nils, .nils, .nils, .nils, .nils, .i p10]), (.box 10, (encC .any T4414 p11))]⟩
noncomputable def s3 (a1 : T26b3.T) (a2 : Int) (p2 : Bool) (p4 p5 p6 p7 p8 p9 p10 : Int) (p11 : T4414.T) (p12 : T23b6.T) : St := ⟨129, [(1, .cv (.one (.i a2))), (3, .cv (.one (.ptr 0 0))), (6, .cv (.one (.ptr 1 0))), (8, .cv (.one (.ptr 2 0))), (10, .cv (.one (.ptr 3 0))), (112, .cv (.one (.bool p2)))], [(.box 13, (encC .any T26b3 a1)), (.box 13, [.nils, .i p4, .i p5, .i p6, .i p7, .i p8, .i p9, .nils, .nils, .nils, .nils, .nils, .i p10]), (.box 10, (encC .any T4414 p11)), (.box 5, (encC .any T23b6 p12))]⟩
noncomputable def j3 (a1 : T26b3.T) (a2 : Int) (k : Nat) (p2 : Bool) (p4 p5 p6 p7 p8 p9 p10 : Int) (p11 : T4414.T) (p12 : T23b6.T) : Option R :=
  if p2 = true then
  some (a1, ())
else
  (f_ref15_Done.f k p12.2.2 p11.2.1 p11.2.2.1).bind fun y25 =>
    (f_ref21_peer.f k a1 a2 (p12.1, (p11.2.2.2.1, y25.1))).bind fun y27 =>
      some (y27.1, ())
theorem j3_ok {r a1 a2} {k p2 p4 p5 p6 p7 p8 p9 p10 p11 p12} (H : j3 a1 a2 k p2 p4 p5 p6 p7 p8 p9 p10 p11 p12 = some r) : Gw P 0 (Q r) (Px c0 895 []) (s3 a1 a2 p2 p4 p5 p6 p7 p8 p9 p10 p11 p12) := by
  unfold j3 at H
  rcases of_ite H with ⟨hb24, H⟩ | ⟨hb24, H⟩
  · refine C1 hb24 ?_
    refine Rg V_ok 0 [] az ?_
    exact Lf (Eq.trans (by kernel_rfl) H)
  · refine C0 hb24 ?_
    obtain ⟨y25, e26, H⟩ := of_bind H
    refine Rg V_ok 0 [(6, hr f_ref15_Done.S y25)] (ac (f_ref15_Done.rl e26) az) ?_
    refine Rg V_ok 0 [] az ?_
    obtain ⟨y27, e28, H⟩ := of_bind H
    refine Rg V_ok 0 [(3, hr f_ref21_peer.S y27)] (ac (f_ref21_peer.rl e28) az) ?_
    exact Lf (Eq.trans (by kernel_rfl) H)
noncomputable def j2 (a1 : T26b3.T) (a2 : Int) (k : Nat) (p2 : Bool) (p4 p5 p6 p7 p8 p9 p10 : Int) (p11 : T4414.T) : Option R :=
  if p2 = true then
  some ((a1.1, (a1.2.1, (a1.2.2.1, (a1.2.2.2.1, (a1.2.2.2.2.1, (a1.2.2.2.2.2.1, (a1.2.2.2.2.2.2.1, (a1.2.2.2.2.2.2.2.1, (a1.2.2.2.2.2.2.2.2.1, (a1.2.2.2.2.2.2.2.2.2.1, (a1.2.2.2.2.2.2.2.2.2.2.1, (a1.2.2.2.2.2.2.2.2.2.2.2.1, (IntKind.i64.wrap (a1.2.2.2.2.2.2.2.2.2.2.2.2 + 1)))))))))))))), ())
else
  if 0 ≤ a2 then
    if a2 < (a1.2.2.2.2.2.2.2.2.1.length : Int) then
      if (p11.1 == (0 : Int)) = true then
        if (decide (p11.2.1 ≤ ((att T23b6 a1.2.2.2.2.2.2.2.2.1 a2).1))) = true then
          some (a1, ())
        else
          (f_ref21_Live.f k a1 a2).bind fun y13 =>
            (f_ref15_New.f k p11.2.1).bind fun y15 =>
              (f_ref20_Sync.f k y13.1 y13.2.1).bind fun y16 =>
                (f_ref20_Push.f k y15.1 y16.1).bind fun y17 =>
                  (f_ref21_peer.f k a1 a2 (p11.2.1, (0, y17.1))).bind fun y21 =>
                    some (y21.1, ())
      else
        if (p11.2.1 != ((att T23b6 a1.2.2.2.2.2.2.2.2.1 a2).1)) = true then
          j3 a1 a2 k true p4 p5 p6 p7 p8 p9 p10 p11 (att T23b6 a1.2.2.2.2.2.2.2.2.1 a2)
        else
          if (decide (p11.2.2.1 < (IntKind.i64.wrap ((IntKind.i64.wrap ((((((att T23b6 a1.2.2.2.2.2.2.2.2.1 a2).2).2).2).1) - 1)) - ((((((att T23b6 a1.2.2.2.2.2.2.2.2.1 a2).2).2).2).2).length : Int))))) = true then
            j3 a1 a2 k true p4 p5 p6 p7 p8 p9 p10 p11 (att T23b6 a1.2.2.2.2.2.2.2.2.1 a2)
          else
            j3 a1 a2 k (decide (p11.2.2.1 ≥ (((((att T23b6 a1.2.2.2.2.2.2.2.2.1 a2).2).2).2).1))) p4 p5 p6 p7 p8 p9 p10 p11 (att T23b6 a1.2.2.2.2.2.2.2.2.1 a2)
    else none
  else none
theorem j2_ok {r a1 a2} {k p2 p4 p5 p6 p7 p8 p9 p10 p11} (H : j2 a1 a2 k p2 p4 p5 p6 p7 p8 p9 p10 p11 = some r) : Gw P 0 (Q r) (Px c0 111 []) (s2 a1 a2 p2 p4 p5 p6 p7 p8 p9 p10 p11) := by
  unfold j2 at H
  rcases of_ite H with ⟨hb8, H⟩ | ⟨hb8, H⟩
  · refine C1 hb8 ?_
    refine Rg V_ok 0 [] az ?_
    refine Rg V_ok 0 [] az ?_
    exact Lf (Eq.trans (by kernel_rfl) H)
  · refine C0 hb8 ?_
    obtain ⟨n9, H⟩ := of_if H
    obtain ⟨n10, H⟩ := of_if H
    refine Rg V_ok 1 [(5, hb 3)] (ac n9 (ac n10 az)) ?_
    refine Rg V_ok 0 [] az ?_
    rcases of_ite H with ⟨hb11, H⟩ | ⟨hb11, H⟩
    · refine C1 hb11 ?_
      refine Rg V_ok 0 [] az ?_
      rcases of_ite H with ⟨hb12, H⟩ | ⟨hb12, H⟩
      · refine C1 hb12 ?_
        refine Rg V_ok 0 [] az ?_
        exact Lf (Eq.trans (by kernel_rfl) H)
      · refine C0 hb12 ?_
        obtain ⟨y13, e14, H⟩ := of_bind H
        refine Rg V_ok 0 [(2, hr f_ref21_Live.S y13)] (ac (f_ref21_Live.rl e14) az) ?_
        obtain ⟨y15, e18, H⟩ := of_bind H
        obtain ⟨y16, e19, H⟩ := of_bind H
        obtain ⟨y17, e20, H⟩ := of_bind H
        refine Rg V_ok 1 [(2, hr f_ref15_New.S y15), (5, hr f_ref20_Sync.S y16), (6, hr f_ref20_Push.S y17), (7, hb 4)] (ac (f_ref15_New.rl e18) (ac (f_ref20_Sync.rl e19) (ac (f_ref20_Push.rl e20) az))) ?_
        obtain ⟨y21, e22, H⟩ := of_bind H
        refine Rg V_ok 0 [(6, hr f_ref21_peer.S y21)] (ac (f_ref21_peer.rl e22) az) ?_
        exact Lf (Eq.trans (by kernel_rfl) H)
    · refine C0 hb11 ?_
      rcases of_ite H with ⟨hb23, H⟩ | ⟨hb23, H⟩
      · refine Rg V_ok 0 [(4, {bv := some true})] (ac hb23 az) ?_
        exact Jm (tn [1, 3, 6, 8, 10, 112] 4) (j3_ok H)
      · rcases of_ite H with ⟨hb29, H⟩ | ⟨hb29, H⟩
        · refine Rg V_ok 0 [(4, {bv := some false}), (18, {bv := some true})] (ac hb23 (ac hb29 az)) ?_
          exact Jm (tn [1, 3, 6, 8, 10, 112] 4) (j3_ok H)
        · refine Rg V_ok 0 [(4, {bv := some false}), (18, {bv := some false})] (ac hb23 (ac hb29 az)) ?_
          exact Jm (tn [1, 3, 6, 8, 10, 112] 4) (j3_ok H)
noncomputable def j1 (a1 : T26b3.T) (a2 : Int) (a3 : List Int) (k : Nat) (p3 : Bool) (p5 p6 p7 p8 p9 p10 p11 : Int) : Option R :=
  if p3 = true then
  some (a1, ())
else
  (f_ref06_Open.f k a3).bind fun y5 =>
    if (y5.2.1 != (0 : Int)) = true then
      j2 a1 a2 k true p5 p6 p7 p8 p9 p10 p11 y5.1
    else
      if (y5.1.1 != (0 : Int)) = true then
        j2 a1 a2 k (y5.1.1 != (1 : Int)) p5 p6 p7 p8 p9 p10 p11 y5.1
      else
        j2 a1 a2 k false p5 p6 p7 p8 p9 p10 p11 y5.1
theorem j1_ok {r a1 a2 a3} {k p3 p5 p6 p7 p8 p9 p10 p11} (H : j1 a1 a2 a3 k p3 p5 p6 p7 p8 p9 p10 p11 = some r) : Gw P 0 (Q r) (Px c0 27 []) (s1 a1 a2 a3 p3 p5 p6 p7 p8 p9 p10 p11) := by
  unfold j1 at H
  rcases of_ite H with ⟨hb4, H⟩ | ⟨hb4, H⟩
  · refine C1 hb4 ?_
    refine Rg V_ok 0 [] az ?_
    exact Lf (Eq.trans (by kernel_rfl) H)
  · refine C0 hb4 ?_
    obtain ⟨y5, e6, H⟩ := of_bind H
    refine Rg V_ok 1 [(1, hr f_ref06_Open.S y5), (5, hb 2)] (ac (f_ref06_Open.rl e6) az) ?_
    rcases of_ite H with ⟨hb7, H⟩ | ⟨hb7, H⟩
    · refine Rg V_ok 0 [(1, {bv := some true})] (ac hb7 az) ?_
      exact Jm (tn [1, 3, 6, 8, 46] 3) (j2_ok H)
    · rcases of_ite H with ⟨hb30, H⟩ | ⟨hb30, H⟩
      · refine Rg V_ok 0 [(1, {bv := some false}), (5, {bv := some true})] (ac hb7 (ac hb30 az)) ?_
        exact Jm (tn [1, 3, 6, 8, 46] 3) (j2_ok H)
      · refine Rg V_ok 0 [(1, {bv := some false}), (5, {bv := some false})] (ac hb7 (ac hb30 az)) ?_
        exact Jm (tn [1, 3, 6, 8, 46] 3) (j2_ok H)
noncomputable def f (k : Nat) (a1 : T26b3.T) (a2 : Int) (a3 : List Int) : Option R :=
  (f_ref21_May.f k a1).bind fun y1 =>
    if (!y1.1) = true then
      j1 a1 a2 a3 k true 0 0 0 0 0 0 0
    else
      if (decide (a2 < (0 : Int))) = true then
        j1 a1 a2 a3 k true 0 0 0 0 0 0 0
      else
        j1 a1 a2 a3 k (decide (a2 ≥ (a1.2.2.2.2.2.2.2.2.1.length : Int))) 0 0 0 0 0 0 0
noncomputable def S : Spec := ⟨ps, rs, .any, none, fun x r => ∃ k, f k x.1 x.2.1 x.2.2.1 = some r⟩
theorem rl {k a1 a2 a3 r} (e : f k a1 a2 a3 = some r) : S.rel (a1, a2, a3, ()) r := ⟨k, e⟩
theorem f_ok {r k a1 a2 a3} (H : f k a1 a2 a3 = some r) : Gw P 0 (Q r) (Px c0 1 []) (⟨129, [(0, .cv (.agg (encC .any T26b3 a1))), (1, .cv (.one (.i a2))), (2, .cv (.one (.sl (.int .u8) a3 .any)))], []⟩) := by
  unfold f at H
  refine Rg V_ok 2 [(0, hb 0), (1, hb 1)] az ?_
  obtain ⟨y1, e2, H⟩ := of_bind H
  refine Rg V_ok 0 [(1, hr f_ref21_May.S y1)] (ac (f_ref21_May.rl e2) az) ?_
  rcases of_ite H with ⟨hb3, H⟩ | ⟨hb3, H⟩
  · refine Rg V_ok 0 [(1, {bv := some true})] (ac hb3 az) ?_
    exact Jm (tn [1, 2, 3, 6, 28] 2) (j1_ok H)
  · rcases of_ite H with ⟨hb31, H⟩ | ⟨hb31, H⟩
    · refine Rg V_ok 0 [(1, {bv := some false}), (5, {bv := some true})] (ac hb3 (ac hb31 az)) ?_
      exact Jm (tn [1, 2, 3, 6, 28] 2) (j1_ok H)
    · refine Rg V_ok 0 [(1, {bv := some false}), (5, {bv := some false})] (ac hb3 (ac hb31 az)) ?_
      exact Jm (tn [1, 2, 3, 6, 28] 2) (j1_ok H)
theorem fits : Fits P 11 S := fits_of V_ok Go.Proofs.Tryz.func11 (by kernel_rfl) (by decide) (by decide) rfl (fun x r ⟨k, H⟩ => of_G (f_ok H))
end f_ref21_Heard
/-! ### function 62, wayfinder/wayfinderref08.Same -/
namespace f_ref08_Same
noncomputable def c0 : Code := (Go.Proofs.Tryz.f62.body).getD .skip
abbrev ps : Sg := [(false, (.slice T1383)), (false, (.slice T1383))]
abbrev rs : Sg := [(false, .bool)]
noncomputable def V : Env := { tt := tt, Γ := slk [] }
theorem V_ok : EnvOk P V := { ck := tt_ck, fits := slk_nil, mixed := mixed }
abbrev R := Tup rs
noncomputable abbrev Q (r : R) : Exit → St → Prop := Qr tt Go.Proofs.Tryz.f62.results ⟨ps, rs, .any, none, fun _ _ => True⟩ r
noncomputable def s1 (p1 p2 : List T1383.T) (p3 : Int) : St := ⟨26, [(0, .cv (.one (.sl T1383 p1 .any))), (1, .cv (.one (.sl T1383 p2 .any))), (5, .cv (.one (.i p3)))], []⟩
noncomputable def b1 (L1 : List T1383.T → List T1383.T → Int → Option R) (k : Nat) (p1 p2 : List T1383.T) (p3 : Int) : Option R :=
  if (decide (p3 < (p1.length : Int))) = true then
  if 0 ≤ p3 then
    if p3 < (p1.length : Int) then
      if p3 < (p2.length : Int) then
        if (!(((((att T1383 p1 p3).1).1) == (((att T1383 p2 p3).1).1)) && (((((att T1383 p1 p3).1).2) == (((att T1383 p2 p3).1).2)) && (((((att T1383 p1 p3).2).1) == (((att T1383 p2 p3).2).1)) && ((((((att T1383 p1 p3).2).2).1) == ((((att T1383 p2 p3).2).2).1)) && (((((((att T1383 p1 p3).2).2).2).1) == (((((att T1383 p2 p3).2).2).2).1)) && (((((((att T1383 p1 p3).2).2).2).2) == (((((att T1383 p2 p3).2).2).2).2)) && true))))))) = true then
          some (false, ())
        else
          L1 p1 p2 (IntKind.i64.wrap (p3 + 1))
      else none
    else none
  else none
else
  some (true, ())
theorem b1_ok {r} {L1 : List T1383.T → List T1383.T → Int → Option R} {m1 : Nat} (hL1 : ∀ p1 p2 p3, L1 p1 p2 p3 = some r → Gw P 0 (Q r) (Pb c0 43 [] m1) (s1 p1 p2 p3)) {k p1 p2 p3} (H : b1 L1 k p1 p2 p3 = some r) : Gw P 0 (Q r) (Px c0 75 [m1]) (s1 p1 p2 p3) := by
  unfold b1 at H
  refine Rg V_ok 0 [] az ?_
  rcases of_ite H with ⟨hb2, H⟩ | ⟨hb2, H⟩
  · refine C1 hb2 ?_
    obtain ⟨n3, H⟩ := of_if H
    obtain ⟨n4, H⟩ := of_if H
    obtain ⟨n5, H⟩ := of_if H
    refine Rg V_ok 0 [] (ac n3 (ac n4 (ac n3 (ac n5 az)))) ?_
    rcases of_ite H with ⟨hb6, H⟩ | ⟨hb6, H⟩
    · refine C1 hb6 ?_
      refine Rg V_ok 0 [] az ?_
      exact Lf (Eq.trans (by kernel_rfl) H)
    · refine C0 hb6 ?_
      refine Rg V_ok 0 [] az ?_
      exact Jm (tn [0, 1, 5] 0) (hL1 p1 p2 (IntKind.i64.wrap (p3 + 1)) H)
  · refine C0 hb2 ?_
    refine Rg V_ok 0 [] az ?_
    exact Lf (Eq.trans (by kernel_rfl) H)
noncomputable def l1 (k : Nat) : Nat → List T1383.T → List T1383.T → Int → Option R
  | 0, _, _, _ => none
  | m + 1, p1, p2, p3 => b1 (l1 k m) k p1 p2 p3
theorem l1_ok {r} (k : Nat) : ∀ (m1 : Nat) (p1 p2 : List T1383.T) (p3 : Int), l1 k m1 p1 p2 p3 = some r → Gw P 0 (Q r) (Pb c0 43 [] m1) (s1 p1 p2 p3)
  | 0, _, _, _, H => by cases H
  | m1 + 1, p1, p2, p3, H => SU (by kernel_rfl) (b1_ok (l1_ok k m1) H)
noncomputable def f (k : Nat) (a1 a2 : List T1383.T) : Option R :=
  if ((a1.length : Int) != (a2.length : Int)) = true then
    some (false, ())
  else
    l1 k k a1 a2 0
noncomputable def S : Spec := ⟨ps, rs, .any, none, fun x r => ∃ k, f k x.1 x.2.1 = some r⟩
theorem rl {k a1 a2 r} (e : f k a1 a2 = some r) : S.rel (a1, a2, ()) r := ⟨k, e⟩
theorem f_ok {r k a1 a2} (H : f k a1 a2 = some r) : Gw P 0 (Q r) (Px c0 1 []) (⟨26, [(0, .cv (.one (.sl T1383 a1 .any))), (1, .cv (.one (.sl T1383 a2 .any)))], []⟩) := by
  unfold f at H
  refine Rg V_ok 0 [] az ?_
  refine Rg V_ok 0 [] az ?_
  rcases of_ite H with ⟨hb1, H⟩ | ⟨hb1, H⟩
  · refine C1 hb1 ?_
    refine Rg V_ok 0 [] az ?_
    exact Lf (Eq.trans (by kernel_rfl) H)
  · refine C0 hb1 ?_
    refine Rg V_ok 0 [] az ?_
    exact LP k (Jm (tn [0, 1, 5] 0) (l1_ok k k a1 a2 0 H))
theorem fits : Fits P 62 S := fits_of V_ok Go.Proofs.Tryz.func62 (by kernel_rfl) (by decide) (by decide) rfl (fun x r ⟨k, H⟩ => of_G (f_ok H))
end f_ref08_Same
/-! ### function 28, wayfinder/wayfinderref21.Confs -/
namespace f_ref21_Confs
noncomputable def c0 : Code := (Go.Proofs.Tryz.f28.body).getD .skip
abbrev ps : Sg := [(false, (.slice (.slice (.slice T1383)))), (false, (.slice (.slice (.slice T1383))))]
abbrev rs : Sg := [(false, .bool)]
noncomputable def V : Env := { tt := tt, Γ := slk [(62, f_ref08_Same.S)] }
theorem V_ok : EnvOk P V := { ck := tt_ck, fits := slk_cons f_ref08_Same.fits (slk_nil), mixed := mixed }
abbrev R := Tup rs
noncomputable abbrev Q (r : R) : Exit → St → Prop := Qr tt Go.Proofs.Tryz.f28.results ⟨ps, rs, .any, none, fun _ _ => True⟩ r
noncomputable def s1 (a1 a2 : List (List (List T1383.T))) (p3 : Int) : St := ⟨56, [(0, .cv (.one (.sl (.slice (.slice T1383)) a1 .any))), (1, .cv (.one (.sl (.slice (.slice T1383)) a2 .any))), (5, .cv (.one (.i p3)))], []⟩
noncomputable def s2 (a1 a2 : List (List (List T1383.T))) (p3 p4 : Int) : St := ⟨56, [(0, .cv (.one (.sl (.slice (.slice T1383)) a1 .any))), (1, .cv (.one (.sl (.slice (.slice T1383)) a2 .any))), (5, .cv (.one (.i p3))), (6, .cv (.one (.i p4)))], []⟩
noncomputable def b2 (a1 a2 : List (List (List T1383.T))) (L1 : Int → Option R) (L2 : Int → Int → Option R) (k : Nat) (p3 p4 : Int) : Option R :=
  if 0 ≤ p3 then
  if p3 < (a1.length : Int) then
    if (decide (p4 < ((att (.slice (.slice T1383)) a1 p3).length : Int))) = true then
      if 0 ≤ p4 then
        if p4 < ((att (.slice (.slice T1383)) a1 p3).length : Int) then
          if p3 < (a2.length : Int) then
            if p4 < ((att (.slice (.slice T1383)) a2 p3).length : Int) then
              (f_ref08_Same.f k (att (.slice T1383) (att (.slice (.slice T1383)) a1 p3) p4) (att (.slice T1383) (att (.slice (.slice T1383)) a2 p3) p4)).bind fun y10 =>
                if (!y10.1) = true then
                  some (false, ())
                else
                  L2 p3 (IntKind.i64.wrap (p4 + 1))
            else none
          else none
        else none
      else none
    else
      L1 (IntKind.i64.wrap (p3 + 1))
  else none
else none
theorem b2_ok {r a1 a2} {L1 : Int → Option R} {m1 : Nat} (hL1 : ∀ p3, L1 p3 = some r → Gw P 0 (Q r) (Pb c0 43 [] m1) (s1 a1 a2 p3)) {L2 : Int → Int → Option R} {m2 : Nat} (hL2 : ∀ p3 p4, L2 p3 p4 = some r → Gw P 0 (Q r) (Pb c0 5707 [m1] m2) (s2 a1 a2 p3 p4)) {k p3 p4} (H : b2 a1 a2 L1 L2 k p3 p4 = some r) : Gw P 0 (Q r) (Px c0 9803 [m1, m2]) (s2 a1 a2 p3 p4) := by
  unfold b2 at H
  obtain ⟨n7, H⟩ := of_if H
  obtain ⟨n8, H⟩ := of_if H
  refine Rg V_ok 0 [] (ac n7 (ac n8 az)) ?_
  rcases of_ite H with ⟨hb9, H⟩ | ⟨hb9, H⟩
  · refine C1 hb9 ?_
    obtain ⟨n11, H⟩ := of_if H
    obtain ⟨n12, H⟩ := of_if H
    obtain ⟨n13, H⟩ := of_if H
    obtain ⟨n14, H⟩ := of_if H
    obtain ⟨y10, e15, H⟩ := of_bind H
    refine Rg V_ok 0 [(14, hr f_ref08_Same.S y10)] (ac n7 (ac n8 (ac n11 (ac n12 (ac n7 (ac n13 (ac n11 (ac n14 (ac (f_ref08_Same.rl e15) az))))))))) ?_
    refine Rg V_ok 0 [] az ?_
    rcases of_ite H with ⟨hb16, H⟩ | ⟨hb16, H⟩
    · refine C1 hb16 ?_
      refine Rg V_ok 0 [] az ?_
      exact Lf (Eq.trans (by kernel_rfl) H)
    · refine C0 hb16 ?_
      refine Rg V_ok 0 [] az ?_
      exact Jm (tn [0, 1, 5, 6] 0) (hL2 p3 (IntKind.i64.wrap (p4 + 1)) H)
  · refine C0 hb9 ?_
    refine Rg V_ok 0 [] az ?_
    exact Jm (tn [0, 1, 5] 0) (hL1 (IntKind.i64.wrap (p3 + 1)) H)
noncomputable def l2 (a1 a2 : List (List (List T1383.T))) (L1 : Int → Option R) (k : Nat) : Nat → Int → Int → Option R
  | 0, _, _ => none
  | m + 1, p3, p4 => b2 a1 a2 L1 (l2 a1 a2 L1 k m) k p3 p4
theorem l2_ok {r a1 a2} {L1 : Int → Option R} {m1 : Nat} (hL1 : ∀ p3, L1 p3 = some r → Gw P 0 (Q r) (Pb c0 43 [] m1) (s1 a1 a2 p3)) (k : Nat) : ∀ (m2 : Nat) (p3 : Int) (p4 : Int), l2 a1 a2 L1 k m2 p3 p4 = some r → Gw P 0 (Q r) (Pb c0 5707 [m1] m2) (s2 a1 a2 p3 p4)
  | 0, _, _, H => by cases H
  | m2 + 1, p3, p4, H => SU (by kernel_rfl) (b2_ok hL1 (l2_ok hL1 k m2) H)
noncomputable def b1 (a1 a2 : List (List (List T1383.T))) (L1 : Int → Option R) (k : Nat) (p3 : Int) : Option R :=
  if (decide (p3 < (a1.length : Int))) = true then
  if 0 ≤ p3 then
    if p3 < (a1.length : Int) then
      if p3 < (a2.length : Int) then
        if (((att (.slice (.slice T1383)) a1 p3).length : Int) != ((att (.slice (.slice T1383)) a2 p3).length : Int)) = true then
          some (false, ())
        else
          l2 a1 a2 L1 k k p3 0
      else none
    else none
  else none
else
  some (true, ())
theorem b1_ok {r a1 a2} {L1 : Int → Option R} {m1 : Nat} (hL1 : ∀ p3, L1 p3 = some r → Gw P 0 (Q r) (Pb c0 43 [] m1) (s1 a1 a2 p3)) {k p3} (H : b1 a1 a2 L1 k p3 = some r) : Gw P 0 (Q r) (Px c0 75 [m1]) (s1 a1 a2 p3) := by
  unfold b1 at H
  refine Rg V_ok 0 [] az ?_
  rcases of_ite H with ⟨hb2, H⟩ | ⟨hb2, H⟩
  · refine C1 hb2 ?_
    obtain ⟨n3, H⟩ := of_if H
    obtain ⟨n4, H⟩ := of_if H
    obtain ⟨n5, H⟩ := of_if H
    refine Rg V_ok 0 [] (ac n3 (ac n4 (ac n3 (ac n5 az)))) ?_
    rcases of_ite H with ⟨hb6, H⟩ | ⟨hb6, H⟩
    · refine C1 hb6 ?_
      refine Rg V_ok 0 [] az ?_
      exact Lf (Eq.trans (by kernel_rfl) H)
    · refine C0 hb6 ?_
      refine Rg V_ok 0 [] az ?_
      exact LP k (Jm (tn [0, 1, 5, 6] 0) (l2_ok hL1 k k p3 0 H))
  · refine C0 hb2 ?_
    refine Rg V_ok 0 [] az ?_
    exact Lf (Eq.trans (by kernel_rfl) H)
noncomputable def l1 (a1 a2 : List (List (List T1383.T))) (k : Nat) : Nat → Int → Option R
  | 0, _ => none
  | m + 1, p3 => b1 a1 a2 (l1 a1 a2 k m) k p3
theorem l1_ok {r a1 a2} (k : Nat) : ∀ (m1 : Nat) (p3 : Int), l1 a1 a2 k m1 p3 = some r → Gw P 0 (Q r) (Pb c0 43 [] m1) (s1 a1 a2 p3)
  | 0, _, H => by cases H
  | m1 + 1, p3, H => SU (by kernel_rfl) (b1_ok (l1_ok k m1) H)
noncomputable def f (k : Nat) (a1 a2 : List (List (List T1383.T))) : Option R :=
  if ((a1.length : Int) != (a2.length : Int)) = true then
    some (false, ())
  else
    l1 a1 a2 k k 0
noncomputable def S : Spec := ⟨ps, rs, .any, none, fun x r => ∃ k, f k x.1 x.2.1 = some r⟩
theorem rl {k a1 a2 r} (e : f k a1 a2 = some r) : S.rel (a1, a2, ()) r := ⟨k, e⟩
theorem f_ok {r k a1 a2} (H : f k a1 a2 = some r) : Gw P 0 (Q r) (Px c0 1 []) (⟨56, [(0, .cv (.one (.sl (.slice (.slice T1383)) a1 .any))), (1, .cv (.one (.sl (.slice (.slice T1383)) a2 .any)))], []⟩) := by
  unfold f at H
  refine Rg V_ok 0 [] az ?_
  refine Rg V_ok 0 [] az ?_
  rcases of_ite H with ⟨hb1, H⟩ | ⟨hb1, H⟩
  · refine C1 hb1 ?_
    refine Rg V_ok 0 [] az ?_
    exact Lf (Eq.trans (by kernel_rfl) H)
  · refine C0 hb1 ?_
    refine Rg V_ok 0 [] az ?_
    exact LP k (Jm (tn [0, 1, 5] 0) (l1_ok k k 0 H))
theorem fits : Fits P 28 S := fits_of V_ok Go.Proofs.Tryz.func28 (by kernel_rfl) (by decide) (by decide) rfl (fun x r ⟨k, H⟩ => of_G (f_ok H))
end f_ref21_Confs
/-! ### function 118, wayfinder/wayfinderref15.Msgs -/
namespace f_ref15_Msgs
noncomputable def c0 : Code := (Go.Proofs.Tryz.f118.body).getD .skip
abbrev ps : Sg := [(false, (.slice T4414)), (false, (.slice T4414))]
abbrev rs : Sg := [(false, .bool)]
noncomputable def V : Env := { tt := tt, Γ := slk [] }
theorem V_ok : EnvOk P V := { ck := tt_ck, fits := slk_nil, mixed := mixed }
abbrev R := Tup rs
noncomputable abbrev Q (r : R) : Exit → St → Prop := Qr tt Go.Proofs.Tryz.f118.results ⟨ps, rs, .any, none, fun _ _ => True⟩ r
noncomputable def s1 (p1 p2 : List T4414.T) (p3 : Int) : St := ⟨26, [(0, .cv (.one (.sl T4414 p1 .any))), (1, .cv (.one (.sl T4414 p2 .any))), (5, .cv (.one (.i p3)))], []⟩
noncomputable def b1 (L1 : List T4414.T → List T4414.T → Int → Option R) (k : Nat) (p1 p2 : List T4414.T) (p3 : Int) : Option R :=
  if (decide (p3 < (p1.length : Int))) = true then
  if 0 ≤ p3 then
    if p3 < (p1.length : Int) then
      if p3 < (p2.length : Int) then
        if (!((((att T4414 p1 p3).1) == ((att T4414 p2 p3).1)) && (((((att T4414 p1 p3).2).1) == (((att T4414 p2 p3).2).1)) && ((((((att T4414 p1 p3).2).2).1) == ((((att T4414 p2 p3).2).2).1)) && (((((((att T4414 p1 p3).2).2).2).1) == (((((att T4414 p2 p3).2).2).2).1)) && (((((((((att T4414 p1 p3).2).2).2).2).1).1) == (((((((att T4414 p2 p3).2).2).2).2).1).1)) && (((((((((att T4414 p1 p3).2).2).2).2).1).2) == (((((((att T4414 p2 p3).2).2).2).2).1).2)) && (((((((((att T4414 p1 p3).2).2).2).2).2).1) == (((((((att T4414 p2 p3).2).2).2).2).2).1)) && ((((((((((att T4414 p1 p3).2).2).2).2).2).2).1) == ((((((((att T4414 p2 p3).2).2).2).2).2).2).1)) && (((((((((((att T4414 p1 p3).2).2).2).2).2).2).2).1) == (((((((((att T4414 p2 p3).2).2).2).2).2).2).2).1)) && (((((((((((att T4414 p1 p3).2).2).2).2).2).2).2).2) == (((((((((att T4414 p2 p3).2).2).2).2).2).2).2).2)) && true))))))))))) = true then
          some (false, ())
        else
          L1 p1 p2 (IntKind.i64.wrap (p3 + 1))
      else none
    else none
  else none
else
  some (true, ())
theorem b1_ok {r} {L1 : List T4414.T → List T4414.T → Int → Option R} {m1 : Nat} (hL1 : ∀ p1 p2 p3, L1 p1 p2 p3 = some r → Gw P 0 (Q r) (Pb c0 43 [] m1) (s1 p1 p2 p3)) {k p1 p2 p3} (H : b1 L1 k p1 p2 p3 = some r) : Gw P 0 (Q r) (Px c0 75 [m1]) (s1 p1 p2 p3) := by
  unfold b1 at H
  refine Rg V_ok 0 [] az ?_
  rcases of_ite H with ⟨hb2, H⟩ | ⟨hb2, H⟩
  · refine C1 hb2 ?_
    obtain ⟨n3, H⟩ := of_if H
    obtain ⟨n4, H⟩ := of_if H
    obtain ⟨n5, H⟩ := of_if H
    refine Rg V_ok 0 [] (ac n3 (ac n4 (ac n3 (ac n5 az)))) ?_
    rcases of_ite H with ⟨hb6, H⟩ | ⟨hb6, H⟩
    · refine C1 hb6 ?_
      refine Rg V_ok 0 [] az ?_
      exact Lf (Eq.trans (by kernel_rfl) H)
    · refine C0 hb6 ?_
      refine Rg V_ok 0 [] az ?_
      exact Jm (tn [0, 1, 5] 0) (hL1 p1 p2 (IntKind.i64.wrap (p3 + 1)) H)
  · refine C0 hb2 ?_
    refine Rg V_ok 0 [] az ?_
    exact Lf (Eq.trans (by kernel_rfl) H)
noncomputable def l1 (k : Nat) : Nat → List T4414.T → List T4414.T → Int → Option R
  | 0, _, _, _ => none
  | m + 1, p1, p2, p3 => b1 (l1 k m) k p1 p2 p3
theorem l1_ok {r} (k : Nat) : ∀ (m1 : Nat) (p1 p2 : List T4414.T) (p3 : Int), l1 k m1 p1 p2 p3 = some r → Gw P 0 (Q r) (Pb c0 43 [] m1) (s1 p1 p2 p3)
  | 0, _, _, _, H => by cases H
  | m1 + 1, p1, p2, p3, H => SU (by kernel_rfl) (b1_ok (l1_ok k m1) H)
noncomputable def f (k : Nat) (a1 a2 : List T4414.T) : Option R :=
  if ((a1.length : Int) != (a2.length : Int)) = true then
    some (false, ())
  else
    l1 k k a1 a2 0
noncomputable def S : Spec := ⟨ps, rs, .any, none, fun x r => ∃ k, f k x.1 x.2.1 = some r⟩
theorem rl {k a1 a2 r} (e : f k a1 a2 = some r) : S.rel (a1, a2, ()) r := ⟨k, e⟩
theorem f_ok {r k a1 a2} (H : f k a1 a2 = some r) : Gw P 0 (Q r) (Px c0 1 []) (⟨26, [(0, .cv (.one (.sl T4414 a1 .any))), (1, .cv (.one (.sl T4414 a2 .any)))], []⟩) := by
  unfold f at H
  refine Rg V_ok 0 [] az ?_
  refine Rg V_ok 0 [] az ?_
  rcases of_ite H with ⟨hb1, H⟩ | ⟨hb1, H⟩
  · refine C1 hb1 ?_
    refine Rg V_ok 0 [] az ?_
    exact Lf (Eq.trans (by kernel_rfl) H)
  · refine C0 hb1 ?_
    refine Rg V_ok 0 [] az ?_
    exact LP k (Jm (tn [0, 1, 5] 0) (l1_ok k k a1 a2 0 H))
theorem fits : Fits P 118 S := fits_of V_ok Go.Proofs.Tryz.func118 (by kernel_rfl) (by decide) (by decide) rfl (fun x r ⟨k, H⟩ => of_G (f_ok H))
end f_ref15_Msgs
/-! ### function 74, wayfinder/wayfinderref15.Same -/
namespace f_ref15_Same
noncomputable def c0 : Code := (Go.Proofs.Tryz.f74.body).getD .skip
abbrev ps : Sg := [(true, Tb104), (true, Tb104)]
abbrev rs : Sg := [(false, .bool)]
noncomputable def V : Env := { tt := tt, Γ := slk [(118, f_ref15_Msgs.S)] }
theorem V_ok : EnvOk P V := { ck := tt_ck, fits := slk_cons f_ref15_Msgs.fits (slk_nil), mixed := mixed }
abbrev R := Tup rs
noncomputable abbrev Q (r : R) : Exit → St → Prop := Qr tt Go.Proofs.Tryz.f74.results ⟨ps, rs, .any, none, fun _ _ => True⟩ r
noncomputable def f (k : Nat) (a1 a2 : Tb104.T) : Option R :=
  (f_ref15_Msgs.f k a1.2.2 a2.2.2).bind fun y1 =>
    if y1.1 = true then
      if (a1.1 == a2.1) = true then
        some ((a1.2.1 == a2.2.1), ())
      else
        some (false, ())
    else
      some (false, ())
noncomputable def S : Spec := ⟨ps, rs, .any, none, fun x r => ∃ k, f k x.1 x.2.1 = some r⟩
theorem rl {k a1 a2 r} (e : f k a1 a2 = some r) : S.rel (a1, a2, ()) r := ⟨k, e⟩
theorem f_ok {r k a1 a2} (H : f k a1 a2 = some r) : Gw P 0 (Q r) (Px c0 1 []) (⟨26, [(0, .cv (.agg (encC .any Tb104 a1))), (1, .cv (.agg (encC .any Tb104 a2)))], []⟩) := by
  unfold f at H
  refine Rg V_ok 2 [(0, hb 0), (1, hb 1)] az ?_
  obtain ⟨y1, e2, H⟩ := of_bind H
  refine Rg V_ok 0 [(4, hr f_ref15_Msgs.S y1)] (ac (f_ref15_Msgs.rl e2) az) ?_
  rcases of_ite H with ⟨hb3, H⟩ | ⟨hb3, H⟩
  · rcases of_ite H with ⟨hb4, H⟩ | ⟨hb4, H⟩
    · refine Rg V_ok 0 [(0, {bv := some true}), (7, {bv := some true})] (ac hb3 (ac hb4 az)) ?_
      exact Lf (Eq.trans (by kernel_rfl) H)
    · refine Rg V_ok 0 [(0, {bv := some true}), (7, {bv := some false})] (ac hb3 (ac hb4 az)) ?_
      exact Lf (Eq.trans (by kernel_rfl) H)
  · refine Rg V_ok 0 [(0, {bv := some false})] (ac hb3 az) ?_
    exact Lf (Eq.trans (by kernel_rfl) H)
theorem fits : Fits P 74 S := fits_of V_ok Go.Proofs.Tryz.func74 (by kernel_rfl) (by decide) (by decide) rfl (fun x r ⟨k, H⟩ => of_G (f_ok H))
end f_ref15_Same
/-! ### function 29, wayfinder/wayfinderref21.peers -/
namespace f_ref21_peers
noncomputable def c0 : Code := (Go.Proofs.Tryz.f29.body).getD .skip
abbrev ps : Sg := [(false, (.slice T23b6)), (false, (.slice T23b6))]
abbrev rs : Sg := [(false, .bool)]
noncomputable def V : Env := { tt := tt, Γ := slk [(74, f_ref15_Same.S)] }
theorem V_ok : EnvOk P V := { ck := tt_ck, fits := slk_cons f_ref15_Same.fits (slk_nil), mixed := mixed }
abbrev R := Tup rs
noncomputable abbrev Q (r : R) : Exit → St → Prop := Qr tt Go.Proofs.Tryz.f29.results ⟨ps, rs, .any, none, fun _ _ => True⟩ r
noncomputable def s1 (a1 a2 : List T23b6.T) (p3 : Int) : St := ⟨57, [(0, .cv (.one (.sl T23b6 a1 .any))), (1, .cv (.one (.sl T23b6 a2 .any))), (5, .cv (.one (.i p3)))], []⟩
noncomputable def s2 (a1 a2 : List T23b6.T) (p3 : Int) (p4 : Bool) : St := ⟨57, [(0, .cv (.one (.sl T23b6 a1 .any))), (1, .cv (.one (.sl T23b6 a2 .any))), (5, .cv (.one (.i p3))), (56, .cv (.one (.bool p4)))], []⟩
noncomputable def j2 (a1 a2 : List T23b6.T) (L1 : Int → Option R) (k : Nat) (p3 : Int) (p4 : Bool) : Option R :=
  if p4 = true then
  some (false, ())
else
  L1 (IntKind.i64.wrap (p3 + 1))
theorem j2_ok {r a1 a2} {L1 : Int → Option R} {m1 : Nat} (hL1 : ∀ p3, L1 p3 = some r → Gw P 0 (Q r) (Pb c0 43 [] m1) (s1 a1 a2 p3)) {k p3 p4} (H : j2 a1 a2 L1 k p3 p4 = some r) : Gw P 0 (Q r) (Px c0 3659 [m1]) (s2 a1 a2 p3 p4) := by
  unfold j2 at H
  rcases of_ite H with ⟨hb9, H⟩ | ⟨hb9, H⟩
  · refine C1 hb9 ?_
    refine Rg V_ok 0 [] az ?_
    exact Lf (Eq.trans (by kernel_rfl) H)
  · refine C0 hb9 ?_
    refine Rg V_ok 0 [] az ?_
    exact Jm (tn [0, 1, 5] 0) (hL1 (IntKind.i64.wrap (p3 + 1)) H)
noncomputable def b1 (a1 a2 : List T23b6.T) (L1 : Int → Option R) (k : Nat) (p3 : Int) : Option R :=
  if (decide (p3 < (a1.length : Int))) = true then
  if 0 ≤ p3 then
    if p3 < (a1.length : Int) then
      if p3 < (a2.length : Int) then
        (f_ref15_Same.f k (((att T23b6 a1 p3).2).2) (((att T23b6 a2 p3).2).2)).bind fun y3 =>
          if (!y3.1) = true then
            j2 a1 a2 L1 k p3 true
          else
            if (((att T23b6 a1 p3).1) != ((att T23b6 a2 p3).1)) = true then
              j2 a1 a2 L1 k p3 true
            else
              j2 a1 a2 L1 k p3 ((((att T23b6 a1 p3).2).1) != (((att T23b6 a2 p3).2).1))
      else none
    else none
  else none
else
  some (true, ())
theorem b1_ok {r a1 a2} {L1 : Int → Option R} {m1 : Nat} (hL1 : ∀ p3, L1 p3 = some r → Gw P 0 (Q r) (Pb c0 43 [] m1) (s1 a1 a2 p3)) {k p3} (H : b1 a1 a2 L1 k p3 = some r) : Gw P 0 (Q r) (Px c0 75 [m1]) (s1 a1 a2 p3) := by
  unfold b1 at H
  refine Rg V_ok 0 [] az ?_
  rcases of_ite H with ⟨hb2, H⟩ | ⟨hb2, H⟩
  · refine C1 hb2 ?_
    obtain ⟨n4, H⟩ := of_if H
    obtain ⟨n5, H⟩ := of_if H
    obtain ⟨n6, H⟩ := of_if H
    obtain ⟨y3, e7, H⟩ := of_bind H
    refine Rg V_ok 0 [(10, hr f_ref15_Same.S y3)] (ac n4 (ac n5 (ac n4 (ac n6 (ac (f_ref15_Same.rl e7) az))))) ?_
    rcases of_ite H with ⟨hb8, H⟩ | ⟨hb8, H⟩
    · refine Rg V_ok 0 [(1, {bv := some true})] (ac hb8 az) ?_
      exact Jm (tn [0, 1, 5, 56] 0) (j2_ok hL1 H)
    · rcases of_ite H with ⟨hb10, H⟩ | ⟨hb10, H⟩
      · refine Rg V_ok 0 [(1, {bv := some false}), (14, {bv := some true})] (ac hb8 (ac n4 (ac n5 (ac n4 (ac n6 (ac hb10 az)))))) ?_
        exact Jm (tn [0, 1, 5, 56] 0) (j2_ok hL1 H)
      · refine Rg V_ok 0 [(1, {bv := some false}), (14, {bv := some false})] (ac hb8 (ac n4 (ac n5 (ac n4 (ac n6 (ac hb10 (ac n4 (ac n5 (ac n4 (ac n6 az)))))))))) ?_
        exact Jm (tn [0, 1, 5, 56] 0) (j2_ok hL1 H)
  · refine C0 hb2 ?_
    refine Rg V_ok 0 [] az ?_
    exact Lf (Eq.trans (by kernel_rfl) H)
noncomputable def l1 (a1 a2 : List T23b6.T) (k : Nat) : Nat → Int → Option R
  | 0, _ => none
  | m + 1, p3 => b1 a1 a2 (l1 a1 a2 k m) k p3
theorem l1_ok {r a1 a2} (k : Nat) : ∀ (m1 : Nat) (p3 : Int), l1 a1 a2 k m1 p3 = some r → Gw P 0 (Q r) (Pb c0 43 [] m1) (s1 a1 a2 p3)
  | 0, _, H => by cases H
  | m1 + 1, p3, H => SU (by kernel_rfl) (b1_ok (l1_ok k m1) H)
noncomputable def f (k : Nat) (a1 a2 : List T23b6.T) : Option R :=
  if ((a1.length : Int) != (a2.length : Int)) = true then
    some (false, ())
  else
    l1 a1 a2 k k 0
noncomputable def S : Spec := ⟨ps, rs, .any, none, fun x r => ∃ k, f k x.1 x.2.1 = some r⟩
theorem rl {k a1 a2 r} (e : f k a1 a2 = some r) : S.rel (a1, a2, ()) r := ⟨k, e⟩
theorem f_ok {r k a1 a2} (H : f k a1 a2 = some r) : Gw P 0 (Q r) (Px c0 1 []) (⟨57, [(0, .cv (.one (.sl T23b6 a1 .any))), (1, .cv (.one (.sl T23b6 a2 .any)))], []⟩) := by
  unfold f at H
  refine Rg V_ok 0 [] az ?_
  refine Rg V_ok 0 [] az ?_
  rcases of_ite H with ⟨hb1, H⟩ | ⟨hb1, H⟩
  · refine C1 hb1 ?_
    refine Rg V_ok 0 [] az ?_
    exact Lf (Eq.trans (by kernel_rfl) H)
  · refine C0 hb1 ?_
    refine Rg V_ok 0 [] az ?_
    exact LP k (Jm (tn [0, 1, 5] 0) (l1_ok k k 0 H))
theorem fits : Fits P 29 S := fits_of V_ok Go.Proofs.Tryz.func29 (by kernel_rfl) (by decide) (by decide) rfl (fun x r ⟨k, H⟩ => of_G (f_ok H))
end f_ref21_peers
/-! ### function 30, wayfinder/wayfinderref21.given -/
namespace f_ref21_given
noncomputable def c0 : Code := (Go.Proofs.Tryz.f30.body).getD .skip
abbrev ps : Sg := [(false, (.slice T713d)), (false, (.slice T713d))]
abbrev rs : Sg := [(false, .bool)]
noncomputable def V : Env := { tt := tt, Γ := slk [] }
theorem V_ok : EnvOk P V := { ck := tt_ck, fits := slk_nil, mixed := mixed }
abbrev R := Tup rs
noncomputable abbrev Q (r : R) : Exit → St → Prop := Qr tt Go.Proofs.Tryz.f30.results ⟨ps, rs, .any, none, fun _ _ => True⟩ r
noncomputable def s1 (a1 a2 : List T713d.T) (p3 : Int) : St := ⟨26, [(0, .cv (.one (.sl T713d a1 .any))), (1, .cv (.one (.sl T713d a2 .any))), (5, .cv (.one (.i p3)))], []⟩
noncomputable def b1 (a1 a2 : List T713d.T) (L1 : Int → Option R) (k : Nat) (p3 : Int) : Option R :=
  if (decide (p3 < (a1.length : Int))) = true then
  if 0 ≤ p3 then
    if p3 < (a1.length : Int) then
      if p3 < (a2.length : Int) then
        if (!((((att T713d a1 p3).1) == ((att T713d a2 p3).1)) && ((((att T713d a1 p3).2) == ((att T713d a2 p3).2)) && true))) = true then
          some (false, ())
        else
          L1 (IntKind.i64.wrap (p3 + 1))
      else none
    else none
  else none
else
  some (true, ())
theorem b1_ok {r a1 a2} {L1 : Int → Option R} {m1 : Nat} (hL1 : ∀ p3, L1 p3 = some r → Gw P 0 (Q r) (Pb c0 43 [] m1) (s1 a1 a2 p3)) {k p3} (H : b1 a1 a2 L1 k p3 = some r) : Gw P 0 (Q r) (Px c0 75 [m1]) (s1 a1 a2 p3) := by
  unfold b1 at H
  refine Rg V_ok 0 [] az ?_
  rcases of_ite H with ⟨hb2, H⟩ | ⟨hb2, H⟩
  · refine C1 hb2 ?_
    obtain ⟨n3, H⟩ := of_if H
    obtain ⟨n4, H⟩ := of_if H
    obtain ⟨n5, H⟩ := of_if H
    refine Rg V_ok 0 [] (ac n3 (ac n4 (ac n3 (ac n5 az)))) ?_
    rcases of_ite H with ⟨hb6, H⟩ | ⟨hb6, H⟩
    · refine C1 hb6 ?_
      refine Rg V_ok 0 [] az ?_
      exact Lf (Eq.trans (by kernel_rfl) H)
    · refine C0 hb6 ?_
      refine Rg V_ok 0 [] az ?_
      exact Jm (tn [0, 1, 5] 0) (hL1 (IntKind.i64.wrap (p3 + 1)) H)
  · refine C0 hb2 ?_
    refine Rg V_ok 0 [] az ?_
    exact Lf (Eq.trans (by kernel_rfl) H)
noncomputable def l1 (a1 a2 : List T713d.T) (k : Nat) : Nat → Int → Option R
  | 0, _ => none
  | m + 1, p3 => b1 a1 a2 (l1 a1 a2 k m) k p3
theorem l1_ok {r a1 a2} (k : Nat) : ∀ (m1 : Nat) (p3 : Int), l1 a1 a2 k m1 p3 = some r → Gw P 0 (Q r) (Pb c0 43 [] m1) (s1 a1 a2 p3)
  | 0, _, H => by cases H
  | m1 + 1, p3, H => SU (by kernel_rfl) (b1_ok (l1_ok k m1) H)
noncomputable def f (k : Nat) (a1 a2 : List T713d.T) : Option R :=
  if ((a1.length : Int) != (a2.length : Int)) = true then
    some (false, ())
  else
    l1 a1 a2 k k 0
noncomputable def S : Spec := ⟨ps, rs, .any, none, fun x r => ∃ k, f k x.1 x.2.1 = some r⟩
theorem rl {k a1 a2 r} (e : f k a1 a2 = some r) : S.rel (a1, a2, ()) r := ⟨k, e⟩
theorem f_ok {r k a1 a2} (H : f k a1 a2 = some r) : Gw P 0 (Q r) (Px c0 1 []) (⟨26, [(0, .cv (.one (.sl T713d a1 .any))), (1, .cv (.one (.sl T713d a2 .any)))], []⟩) := by
  unfold f at H
  refine Rg V_ok 0 [] az ?_
  refine Rg V_ok 0 [] az ?_
  rcases of_ite H with ⟨hb1, H⟩ | ⟨hb1, H⟩
  · refine C1 hb1 ?_
    refine Rg V_ok 0 [] az ?_
    exact Lf (Eq.trans (by kernel_rfl) H)
  · refine C0 hb1 ?_
    refine Rg V_ok 0 [] az ?_
    exact LP k (Jm (tn [0, 1, 5] 0) (l1_ok k k 0 H))
theorem fits : Fits P 30 S := fits_of V_ok Go.Proofs.Tryz.func30 (by kernel_rfl) (by decide) (by decide) rfl (fun x r ⟨k, H⟩ => of_G (f_ok H))
end f_ref21_given
/-! ### function 31, wayfinder/wayfinderref02.Ints -/
namespace f_ref02_Ints
noncomputable def c0 : Code := (Go.Proofs.Tryz.f31.body).getD .skip
abbrev ps : Sg := [(false, (.slice (.int .i64))), (false, (.slice (.int .i64)))]
abbrev rs : Sg := [(false, .bool)]
noncomputable def V : Env := { tt := tt, Γ := slk [] }
theorem V_ok : EnvOk P V := { ck := tt_ck, fits := slk_nil, mixed := mixed }
abbrev R := Tup rs
noncomputable abbrev Q (r : R) : Exit → St → Prop := Qr tt Go.Proofs.Tryz.f31.results ⟨ps, rs, .any, none, fun _ _ => True⟩ r
noncomputable def s1 (p1 p2 : List Int) (p3 : Int) : St := ⟨26, [(0, .cv (.one (.sl (.int .i64) p1 .any))), (1, .cv (.one (.sl (.int .i64) p2 .any))), (5, .cv (.one (.i p3)))], []⟩
noncomputable def b1 (L1 : List Int → List Int → Int → Option R) (k : Nat) (p1 p2 : List Int) (p3 : Int) : Option R :=
  if (decide (p3 < (p1.length : Int))) = true then
  if 0 ≤ p3 then
    if p3 < (p1.length : Int) then
      if p3 < (p2.length : Int) then
        if ((att (.int .i64) p1 p3) != (att (.int .i64) p2 p3)) = true then
          some (false, ())
        else
          L1 p1 p2 (IntKind.i64.wrap (p3 + 1))
      else none
    else none
  else none
else
  some (true, ())
theorem b1_ok {r} {L1 : List Int → List Int → Int → Option R} {m1 : Nat} (hL1 : ∀ p1 p2 p3, L1 p1 p2 p3 = some r → Gw P 0 (Q r) (Pb c0 43 [] m1) (s1 p1 p2 p3)) {k p1 p2 p3} (H : b1 L1 k p1 p2 p3 = some r) : Gw P 0 (Q r) (Px c0 75 [m1]) (s1 p1 p2 p3) := by
  unfold b1 at H
  refine Rg V_ok 0 [] az ?_
  rcases of_ite H with ⟨hb2, H⟩ | ⟨hb2, H⟩
  · refine C1 hb2 ?_
    obtain ⟨n3, H⟩ := of_if H
    obtain ⟨n4, H⟩ := of_if H
    obtain ⟨n5, H⟩ := of_if H
    refine Rg V_ok 0 [] (ac n3 (ac n4 (ac n3 (ac n5 az)))) ?_
    rcases of_ite H with ⟨hb6, H⟩ | ⟨hb6, H⟩
    · refine C1 hb6 ?_
      refine Rg V_ok 0 [] az ?_
      exact Lf (Eq.trans (by kernel_rfl) H)
    · refine C0 hb6 ?_
      refine Rg V_ok 0 [] az ?_
      exact Jm (tn [0, 1, 5] 0) (hL1 p1 p2 (IntKind.i64.wrap (p3 + 1)) H)
  · refine C0 hb2 ?_
    refine Rg V_ok 0 [] az ?_
    exact Lf (Eq.trans (by kernel_rfl) H)
noncomputable def l1 (k : Nat) : Nat → List Int → List Int → Int → Option R
  | 0, _, _, _ => none
  | m + 1, p1, p2, p3 => b1 (l1 k m) k p1 p2 p3
theorem l1_ok {r} (k : Nat) : ∀ (m1 : Nat) (p1 p2 : List Int) (p3 : Int), l1 k m1 p1 p2 p3 = some r → Gw P 0 (Q r) (Pb c0 43 [] m1) (s1 p1 p2 p3)
  | 0, _, _, _, H => by cases H
  | m1 + 1, p1, p2, p3, H => SU (by kernel_rfl) (b1_ok (l1_ok k m1) H)
noncomputable def f (k : Nat) (a1 a2 : List Int) : Option R :=
  if ((a1.length : Int) != (a2.length : Int)) = true then
    some (false, ())
  else
    l1 k k a1 a2 0
noncomputable def S : Spec := ⟨ps, rs, .any, none, fun x r => ∃ k, f k x.1 x.2.1 = some r⟩
theorem rl {k a1 a2 r} (e : f k a1 a2 = some r) : S.rel (a1, a2, ()) r := ⟨k, e⟩
theorem f_ok {r k a1 a2} (H : f k a1 a2 = some r) : Gw P 0 (Q r) (Px c0 1 []) (⟨26, [(0, .cv (.one (.sl (.int .i64) a1 .any))), (1, .cv (.one (.sl (.int .i64) a2 .any)))], []⟩) := by
  unfold f at H
  refine Rg V_ok 0 [] az ?_
  refine Rg V_ok 0 [] az ?_
  rcases of_ite H with ⟨hb1, H⟩ | ⟨hb1, H⟩
  · refine C1 hb1 ?_
    refine Rg V_ok 0 [] az ?_
    exact Lf (Eq.trans (by kernel_rfl) H)
  · refine C0 hb1 ?_
    refine Rg V_ok 0 [] az ?_
    exact LP k (Jm (tn [0, 1, 5] 0) (l1_ok k k a1 a2 0 H))
theorem fits : Fits P 31 S := fits_of V_ok Go.Proofs.Tryz.func31 (by kernel_rfl) (by decide) (by decide) rfl (fun x r ⟨k, H⟩ => of_G (f_ok H))
end f_ref02_Ints
/-! ### function 9, wayfinder/wayfinderref21.Same -/
namespace f_ref21_Same
noncomputable def c0 : Code := (Go.Proofs.Tryz.f9.body).getD .skip
abbrev ps : Sg := [(true, T26b3), (true, T26b3)]
abbrev rs : Sg := [(false, .bool)]
noncomputable def V : Env := { tt := tt, Γ := slk [(28, f_ref21_Confs.S), (29, f_ref21_peers.S), (30, f_ref21_given.S), (31, f_ref02_Ints.S)] }
theorem V_ok : EnvOk P V := { ck := tt_ck, fits := slk_cons f_ref21_Confs.fits (slk_cons f_ref21_peers.fits (slk_cons f_ref21_given.fits (slk_cons f_ref02_Ints.fits (slk_nil)))), mixed := mixed }
abbrev R := Tup rs
noncomputable abbrev Q (r : R) : Exit → St → Prop := Qr tt Go.Proofs.Tryz.f9.results ⟨ps, rs, .any, none, fun _ _ => True⟩ r
noncomputable def s2 (a1 a2 : T26b3.T) (p1 p2 p3 p4 p5 p6 p7 : Bool) : St := ⟨110, [(2, .cv (.one (.ptr 0 0))), (3, .cv (.one (.ptr 1 0))), (5, .cv (.one (.bool p1))), (6, .cv (.one (.bool p2))), (7, .cv (.one (.bool p3))), (8, .cv (.one (.bool p4))), (9, .cv (.one (.bool p5))), (10, .cv (.one (.bool p6))), (11, .cv (.one (.bool p7)))], [(.box 13, (encC .any T26b3 a1)), (.box 13, (encC .any T26b3 a2))]⟩
noncomputable def s1 (p1 p2 p3 p4 p5 p6 p7 p8 : Bool) : St := ⟨110, [(5, .cv (.one (.bool p1))), (6, .cv (.one (.bool p2))), (7, .cv (.one (.bool p3))), (8, .cv (.one (.bool p4))), (9, .cv (.one (.bool p5))), (10, .cv (.one (.bool p6))), (11, .cv (.one (.bool p7))), (12, .cv (.one (.bool p8)))], []⟩
noncomputable def j1 (k : Nat) (p1 p2 p3 p4 p5 p6 p7 p8 : Bool) : Option R :=
  if p1 = true then
  if p2 = true then
    if p3 = true then
      if p4 = true then
        if p5 = true then
          if p6 = true then
            if p7 = true then
              some (p8, ())
            else
              some (false, ())
          else
            some (false, ())
        else
          some (false, ())
      else
        some (false, ())
    else
      some (false, ())
  else
    some (false, ())
else
  some (false, ())
theorem j1_ok {r} {k p1 p2 p3 p4 p5 p6 p7 p8} (H : j1 k p1 p2 p3 p4 p5 p6 p7 p8 = some r) : Gw P 0 (Q r) (Px c0 1023 []) (s1 p1 p2 p3 p4 p5 p6 p7 p8) := by
  unfold j1 at H
  rcases of_ite H with ⟨hb18, H⟩ | ⟨hb18, H⟩
  · rcases of_ite H with ⟨hb19, H⟩ | ⟨hb19, H⟩
    · rcases of_ite H with ⟨hb20, H⟩ | ⟨hb20, H⟩
      · rcases of_ite H with ⟨hb21, H⟩ | ⟨hb21, H⟩
        · rcases of_ite H with ⟨hb22, H⟩ | ⟨hb22, H⟩
          · rcases of_ite H with ⟨hb23, H⟩ | ⟨hb23, H⟩
            · rcases of_ite H with ⟨hb24, H⟩ | ⟨hb24, H⟩
              · refine Rg V_ok 0 [(0, {bv := some true}), (3, {bv := some true}), (6, {bv := some true}), (9, {bv := some true}), (12, {bv := some true}), (15, {bv := some true}), (18, {bv := some true})] (ac hb18 (ac hb19 (ac hb20 (ac hb21 (ac hb22 (ac hb23 (ac hb24 az))))))) ?_
                exact Lf (Eq.trans (by kernel_rfl) H)
              · refine Rg V_ok 0 [(0, {bv := some true}), (3, {bv := some true}), (6, {bv := some true}), (9, {bv := some true}), (12, {bv := some true}), (15, {bv := some true}), (18, {bv := some false})] (ac hb18 (ac hb19 (ac hb20 (ac hb21 (ac hb22 (ac hb23 (ac hb24 az))))))) ?_
                exact Lf (Eq.trans (by kernel_rfl) H)
            · refine Rg V_ok 0 [(0, {bv := some true}), (3, {bv := some true}), (6, {bv := some true}), (9, {bv := some true}), (12, {bv := some true}), (15, {bv := some false})] (ac hb18 (ac hb19 (ac hb20 (ac hb21 (ac hb22 (ac hb23 az)))))) ?_
              exact Lf (Eq.trans (by kernel_rfl) H)
          · refine Rg V_ok 0 [(0, {bv := some true}), (3, {bv := some true}), (6, {bv := some true}), (9, {bv := some true}), (12, {bv := some false})] (ac hb18 (ac hb19 (ac hb20 (ac hb21 (ac hb22 az))))) ?_
            exact Lf (Eq.trans (by kernel_rfl) H)
        · refine Rg V_ok 0 [(0, {bv := some true}), (3, {bv := some true}), (6, {bv := some true}), (9, {bv := some false})] (ac hb18 (ac hb19 (ac hb20 (ac hb21 az)))) ?_
          exact Lf (Eq.trans (by kernel_rfl) H)
      · refine Rg V_ok 0 [(0, {bv := some true}), (3, {bv := some true}), (6, {bv := some false})] (ac hb18 (ac hb19 (ac hb20 az))) ?_
        exact Lf (Eq.trans (by kernel_rfl) H)
    · refine Rg V_ok 0 [(0, {bv := some true}), (3, {bv := some false})] (ac hb18 (ac hb19 az)) ?_
      exact Lf (Eq.trans (by kernel_rfl) H)
  · refine Rg V_ok 0 [(0, {bv := some false})] (ac hb18 az) ?_
    exact Lf (Eq.trans (by kernel_rfl) H)
noncomputable def j2 (a1 a2 : T26b3.T) (k : Nat) (p1 p2 p3 p4 p5 p6 p7 : Bool) : Option R :=
  if (a1.2.2.2.2.2.1 == a2.2.2.2.2.2.1) = true then
  if (a1.2.2.2.2.2.2.1 == a2.2.2.2.2.2.2.1) = true then
    j1 k p1 p2 p3 p4 p5 p6 p7 (a1.2.2.2.2.2.2.2.2.2.2.2.2 == a2.2.2.2.2.2.2.2.2.2.2.2.2)
  else
    j1 k p1 p2 p3 p4 p5 p6 p7 false
else
  j1 k p1 p2 p3 p4 p5 p6 p7 false
theorem j2_ok {r a1 a2} {k p1 p2 p3 p4 p5 p6 p7} (H : j2 a1 a2 k p1 p2 p3 p4 p5 p6 p7 = some r) : Gw P 0 (Q r) (Px c0 511 []) (s2 a1 a2 p1 p2 p3 p4 p5 p6 p7) := by
  unfold j2 at H
  rcases of_ite H with ⟨hb16, H⟩ | ⟨hb16, H⟩
  · rcases of_ite H with ⟨hb17, H⟩ | ⟨hb17, H⟩
    · refine Rg V_ok 0 [(4, {bv := some true}), (11, {bv := some true})] (ac hb16 (ac hb17 az)) ?_
      exact Jm (tn [5, 6, 7, 8, 9, 10, 11, 12] 0) (j1_ok H)
    · refine Rg V_ok 0 [(4, {bv := some true}), (11, {bv := some false})] (ac hb16 (ac hb17 az)) ?_
      exact Jm (tn [5, 6, 7, 8, 9, 10, 11, 12] 0) (j1_ok H)
  · refine Rg V_ok 0 [(4, {bv := some false})] (ac hb16 az) ?_
    exact Jm (tn [5, 6, 7, 8, 9, 10, 11, 12] 0) (j1_ok H)
noncomputable def f (k : Nat) (a1 a2 : T26b3.T) : Option R :=
  (f_ref21_Confs.f k a1.1 a2.1).bind fun y1 =>
    (f_ref21_peers.f k a1.2.2.2.2.2.2.2.2.1 a2.2.2.2.2.2.2.2.2.1).bind fun y3 =>
      (f_ref21_given.f k a1.2.2.2.2.2.2.2.2.2.1 a2.2.2.2.2.2.2.2.2.2.1).bind fun y5 =>
        (f_ref02_Ints.f k a1.2.2.2.2.2.2.2.1 a2.2.2.2.2.2.2.2.1).bind fun y7 =>
          (f_ref02_Ints.f k a1.2.2.2.2.2.2.2.2.2.2.1 a2.2.2.2.2.2.2.2.2.2.2.1).bind fun y9 =>
            (f_ref02_Ints.f k a1.2.2.2.2.2.2.2.2.2.2.2.1 a2.2.2.2.2.2.2.2.2.2.2.2.1).bind fun y11 =>
              if (a1.2.1 == a2.2.1) = true then
                if (a1.2.2.1 == a2.2.2.1) = true then
                  if (a1.2.2.2.1 == a2.2.2.2.1) = true then
                    j2 a1 a2 k y1.1 y3.1 y5.1 y7.1 y9.1 y11.1 (a1.2.2.2.2.1 == a2.2.2.2.2.1)
                  else
                    j2 a1 a2 k y1.1 y3.1 y5.1 y7.1 y9.1 y11.1 false
                else
                  j2 a1 a2 k y1.1 y3.1 y5.1 y7.1 y9.1 y11.1 false
              else
                j2 a1 a2 k y1.1 y3.1 y5.1 y7.1 y9.1 y11.1 false
noncomputable def S : Spec := ⟨ps, rs, .any, none, fun x r => ∃ k, f k x.1 x.2.1 = some r⟩
theorem rl {k a1 a2 r} (e : f k a1 a2 = some r) : S.rel (a1, a2, ()) r := ⟨k, e⟩
theorem f_ok {r k a1 a2} (H : f k a1 a2 = some r) : Gw P 0 (Q r) (Px c0 1 []) (⟨110, [(0, .cv (.agg (encC .any T26b3 a1))), (1, .cv (.agg (encC .any T26b3 a2)))], []⟩) := by
  unfold f at H
  refine Rg V_ok 2 [(0, hb 0), (1, hb 1)] az ?_
  obtain ⟨y1, e2, H⟩ := of_bind H
  refine Rg V_ok 0 [(4, hr f_ref21_Confs.S y1)] (ac (f_ref21_Confs.rl e2) az) ?_
  obtain ⟨y3, e4, H⟩ := of_bind H
  refine Rg V_ok 0 [(4, hr f_ref21_peers.S y3)] (ac (f_ref21_peers.rl e4) az) ?_
  obtain ⟨y5, e6, H⟩ := of_bind H
  refine Rg V_ok 0 [(4, hr f_ref21_given.S y5)] (ac (f_ref21_given.rl e6) az) ?_
  obtain ⟨y7, e8, H⟩ := of_bind H
  refine Rg V_ok 0 [(4, hr f_ref02_Ints.S y7)] (ac (f_ref02_Ints.rl e8) az) ?_
  obtain ⟨y9, e10, H⟩ := of_bind H
  refine Rg V_ok 0 [(4, hr f_ref02_Ints.S y9)] (ac (f_ref02_Ints.rl e10) az) ?_
  obtain ⟨y11, e12, H⟩ := of_bind H
  refine Rg V_ok 0 [(4, hr f_ref02_Ints.S y11)] (ac (f_ref02_Ints.rl e12) az) ?_
  rcases of_ite H with ⟨hb13, H⟩ | ⟨hb13, H⟩
  · rcases of_ite H with ⟨hb14, H⟩ | ⟨hb14, H⟩
    · rcases of_ite H with ⟨hb15, H⟩ | ⟨hb15, H⟩
      · refine Rg V_ok 0 [(4, {bv := some true}), (11, {bv := some true}), (18, {bv := some true})] (ac hb13 (ac hb14 (ac hb15 az))) ?_
        exact Jm (tn [2, 3, 5, 6, 7, 8, 9, 10, 11] 2) (j2_ok H)
      · refine Rg V_ok 0 [(4, {bv := some true}), (11, {bv := some true}), (18, {bv := some false})] (ac hb13 (ac hb14 (ac hb15 az))) ?_
        exact Jm (tn [2, 3, 5, 6, 7, 8, 9, 10, 11] 2) (j2_ok H)
    · refine Rg V_ok 0 [(4, {bv := some true}), (11, {bv := some false})] (ac hb13 (ac hb14 az)) ?_
      exact Jm (tn [2, 3, 5, 6, 7, 8, 9, 10, 11] 2) (j2_ok H)
  · refine Rg V_ok 0 [(4, {bv := some false})] (ac hb13 az) ?_
    exact Jm (tn [2, 3, 5, 6, 7, 8, 9, 10, 11] 2) (j2_ok H)
theorem fits : Fits P 9 S := fits_of V_ok Go.Proofs.Tryz.func9 (by kernel_rfl) (by decide) (by decide) rfl (fun x r ⟨k, H⟩ => of_G (f_ok H))
end f_ref21_Same
/-! ### function 3, wayfinder/wayfinderlaw21.ControlHears -/
namespace f_law21_ControlHears
noncomputable def c0 : Code := (Go.Proofs.Tryz.f3.body).getD .skip
abbrev ps : Sg := [(true, T26b3), (false, (.int .i64)), (false, (.slice (.int .u8)))]
abbrev rs : Sg := [(false, .bool)]
noncomputable def V : Env := { tt := tt, Γ := slk [(7, f_law21_awake.S), (8, f_law21_Few.S), (9, f_ref21_Same.S), (10, f_control_Heard.S), (11, f_ref21_Heard.S)] }
theorem V_ok : EnvOk P V := { ck := tt_ck, fits := slk_cons f_law21_awake.fits (slk_cons f_law21_Few.fits (slk_cons f_ref21_Same.fits (slk_cons f_control_Heard.fits (slk_cons f_ref21_Heard.fits (slk_nil))))), mixed := mixed }
abbrev R := Tup rs
noncomputable abbrev Q (r : R) : Exit → St → Prop := Qr tt Go.Proofs.Tryz.f3.results ⟨ps, rs, .any, none, fun _ _ => True⟩ r
noncomputable def s1 (a1 : T26b3.T) (a2 : Int) (a3 : List Int) (p3 p4 : Bool) : St := ⟨35, [(1, .cv (.one (.i a2))), (2, .cv (.one (.sl (.int .u8) a3 .any))), (3, .cv (.one (.ptr 0 0))), (7, .cv (.one (.bool p3))), (23, .cv (.one (.bool p4)))], [(.box 13, (encC .any T26b3 a1))]⟩
noncomputable def j1 (a1 : T26b3.T) (a2 : Int) (a3 : List Int) (k : Nat) (p3 p4 : Bool) : Option R :=
  if p4 = true then
  some (p3, ())
else
  (f_control_Heard.f k a1 a2 a3).bind fun y7 =>
    (f_ref21_Heard.f k a1 a2 a3).bind fun y8 =>
      (f_ref21_Same.f k y7.1 y8.1).bind fun y9 =>
        some (y9.1, ())
theorem j1_ok {r a1 a2 a3} {k p3 p4} (H : j1 a1 a2 a3 k p3 p4 = some r) : Gw P 0 (Q r) (Px c0 55 []) (s1 a1 a2 a3 p3 p4) := by
  unfold j1 at H
  rcases of_ite H with ⟨hb6, H⟩ | ⟨hb6, H⟩
  · refine C1 hb6 ?_
    refine Rg V_ok 0 [] az ?_
    exact Lf (Eq.trans (by kernel_rfl) H)
  · refine C0 hb6 ?_
    obtain ⟨y7, e10, H⟩ := of_bind H
    obtain ⟨y8, e11, H⟩ := of_bind H
    obtain ⟨y9, e12, H⟩ := of_bind H
    refine Rg V_ok 0 [(3, hr f_control_Heard.S y7), (7, hr f_ref21_Heard.S y8), (8, hr f_ref21_Same.S y9)] (ac (f_control_Heard.rl e10) (ac (f_ref21_Heard.rl e11) (ac (f_ref21_Same.rl e12) az))) ?_
    refine Rg V_ok 0 [] az ?_
    exact Lf (Eq.trans (by kernel_rfl) H)
noncomputable def f (k : Nat) (a1 : T26b3.T) (a2 : Int) (a3 : List Int) : Option R :=
  (f_law21_awake.f k).bind fun y1 =>
    (f_law21_Few.f k a1).bind fun y3 =>
      if (!y1.1) = true then
        j1 a1 a2 a3 k y1.1 true
      else
        if (!y3.1) = true then
          j1 a1 a2 a3 k y1.1 true
        else
          j1 a1 a2 a3 k y1.1 (decide ((a3.length : Int) > (300 : Int)))
noncomputable def S : Spec := ⟨ps, rs, .any, none, fun x r => ∃ k, f k x.1 x.2.1 x.2.2.1 = some r⟩
theorem rl {k a1 a2 a3 r} (e : f k a1 a2 a3 = some r) : S.rel (a1, a2, a3, ()) r := ⟨k, e⟩
theorem f_ok {r k a1 a2 a3} (H : f k a1 a2 a3 = some r) : Gw P 0 (Q r) (Px c0 1 []) (⟨35, [(0, .cv (.agg (encC .any T26b3 a1))), (1, .cv (.one (.i a2))), (2, .cv (.one (.sl (.int .u8) a3 .any)))], []⟩) := by
  unfold f at H
  refine Rg V_ok 1 [(0, hb 0)] az ?_
  obtain ⟨y1, e2, H⟩ := of_bind H
  refine Rg V_ok 0 [(0, hr f_law21_awake.S y1)] (ac (f_law21_awake.rl e2) az) ?_
  obtain ⟨y3, e4, H⟩ := of_bind H
  refine Rg V_ok 0 [(1, hr f_law21_Few.S y3)] (ac (f_law21_Few.rl e4) az) ?_
  rcases of_ite H with ⟨hb5, H⟩ | ⟨hb5, H⟩
  · refine Rg V_ok 0 [(1, {bv := some true})] (ac hb5 az) ?_
    exact Jm (tn [1, 2, 3, 7, 23] 1) (j1_ok H)
  · rcases of_ite H with ⟨hb13, H⟩ | ⟨hb13, H⟩
    · refine Rg V_ok 0 [(1, {bv := some false}), (5, {bv := some true})] (ac hb5 (ac hb13 az)) ?_
      exact Jm (tn [1, 2, 3, 7, 23] 1) (j1_ok H)
    · refine Rg V_ok 0 [(1, {bv := some false}), (5, {bv := some false})] (ac hb5 (ac hb13 az)) ?_
      exact Jm (tn [1, 2, 3, 7, 23] 1) (j1_ok H)
theorem fits : Fits P 3 S := fits_of V_ok Go.Proofs.Tryz.func3 (by kernel_rfl) (by decide) (by decide) rfl (fun x r ⟨k, H⟩ => of_G (f_ok H))
end f_law21_ControlHears
end Go.Proofs.YtkhjemahenkdiaaGreatDoor.V
