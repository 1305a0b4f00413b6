/- Functions of the program, as Lean functions, and that the code answers so. Printed by vgen.py. -/
import Derived.Test.YtkhjemahenkdiaaGreatDoorVBase
namespace Go.Proofs.YtkhjemahenkdiaaGreatDoor.V
open Go Go.RowKit Go.Proofs.Tryz
set_option linter.unusedVariables false
set_option linter.unusedSimpArgs false
set_option maxRecDepth 100000
set_option maxHeartbeats 4000000
namespace f_law13_Two
noncomputable def c0 : Code := bo f25
abbrev ps : Sg := []
abbrev rs : Sg := [(true, T5477), (false, (.slice (.slice T1383)))]
noncomputable def V : Env := eV []
theorem V_ok : EnvOk P V := eOk (slk_nil)
abbrev R := Tup rs
noncomputable abbrev Q (r : R) : Exit → St → Prop := Qr tt f25.results ⟨ps, rs, .any, none, fun _ _ => True⟩ r
noncomputable def f (k : Nat) : Option R :=
 some ((2, (2, [(0, (1, (1, 0)))])), ([[((0, 0), (-1, (0, (1, 1))))], [((0, 0), (-1, (0, (1, 1))))]], ()))
noncomputable def S : Spec := ⟨ps, rs, .any, none, fun x r => ∃ k, f k = some r⟩
theorem rl {k r} (e : f k = some r) : S.rel (()) r := ⟨k, e⟩
theorem f_ok {r k} (H : f k = some r) : Gw P 0 (Q r) (Px c0 1 []) (⟨12, [], []⟩) := by
 unfold f at H
 refine Rg V_ok 1 [(0, hb 0)] az ?_
 refine Ra ?_
 refine Ra ?_
 exact Le H
theorem fits : Fits P 25 S := fitsA V_ok func25 fun x r ⟨k, H⟩ => of_G (f_ok H)
end f_law13_Two

namespace f_bits_bound
noncomputable def c0 : Code := bo f166
abbrev ps : Sg := [(false, (.int .i64))]
abbrev rs : Sg := [(false, (.int .i64))]
noncomputable def V : Env := eV []
theorem V_ok : EnvOk P V := eOk (slk_nil)
abbrev R := Tup rs
noncomputable abbrev Q (r : R) : Exit → St → Prop := Qr tt f166.results ⟨ps, rs, .any, none, fun _ _ => True⟩ r
noncomputable def f (k : Nat) (a1 : Int) : Option R :=
 some ((if 32 < (if 0 > a1 then 0 else a1) then 32 else (if 0 > a1 then 0 else a1)), ())
noncomputable def S : Spec := ⟨ps, rs, .any, none, fun x r => ∃ k, f k x.1 = some r⟩
theorem rl {k a1 r} (e : f k a1 = some r) : S.rel (a1, ()) r := ⟨k, e⟩
theorem f_ok {r k a1} (H : f k a1 = some r) : Gw P 0 (Q r) (Px c0 1 []) (⟨6, [(0, .cv (.one (.i a1)))], []⟩) := by
 unfold f at H
 refine Ra ?_
 refine Ra ?_
 exact Le H
theorem fits : Fits P 166 S := fitsA V_ok func166 fun x r ⟨k, H⟩ => of_G (f_ok H)
end f_bits_bound

namespace f_bits_Mask
noncomputable def c0 : Code := bo f163
abbrev ps : Sg := [(false, (.int .i64))]
abbrev rs : Sg := [(false, (.int .i64))]
noncomputable def V : Env := eV [(166, f_bits_bound.S)]
theorem V_ok : EnvOk P V := eOk (slk_cons f_bits_bound.fits (slk_nil))
abbrev R := Tup rs
noncomputable abbrev Q (r : R) : Exit → St → Prop := Qr tt f163.results ⟨ps, rs, .any, none, fun _ _ => True⟩ r
noncomputable def f (k : Nat) (a1 : Int) : Option R :=
 (f_bits_bound.f k a1).bind fun y1 =>
  if 0 ≤ (IntKind.i64.wrap (32 - y1.1)) then
   some ((IntKind.i64.wrap (IntKind.u32.wrap (IntKind.u64.wrap (4294967295 * (2 ^ (min (IntKind.i64.wrap (32 - y1.1)).toNat (IntKind.u64.bits))))))), ())
  else none
noncomputable def S : Spec := ⟨ps, rs, .any, none, fun x r => ∃ k, f k x.1 = some r⟩
theorem rl {k a1 r} (e : f k a1 = some r) : S.rel (a1, ()) r := ⟨k, e⟩
theorem f_ok {r k a1} (H : f k a1 = some r) : Gw P 0 (Q r) (Px c0 1 []) (⟨11, [(0, .cv (.one (.i a1)))], []⟩) := by
 unfold f at H
 refine Ra ?_
 obtain ⟨y1, e2, H⟩ := of_bind H
 obtain ⟨n3, H⟩ := of_if H
 refine Rg V_ok 0 [(1, hr f_bits_bound.S y1)] (ac (f_bits_bound.rl e2) (ac n3 az)) ?_
 refine Ra ?_
 exact Le H
theorem fits : Fits P 163 S := fitsA V_ok func163 fun x r ⟨k, H⟩ => of_G (f_ok H)
end f_bits_Mask

namespace f_bits_May
noncomputable def c0 : Code := bo f157
abbrev ps : Sg := [(true, T713d)]
abbrev rs : Sg := [(false, .bool)]
noncomputable def V : Env := eV [(163, f_bits_Mask.S)]
theorem V_ok : EnvOk P V := eOk (slk_cons f_bits_Mask.fits (slk_nil))
abbrev R := Tup rs
noncomputable abbrev Q (r : R) : Exit → St → Prop := Qr tt f157.results ⟨ps, rs, .any, none, fun _ _ => True⟩ r
noncomputable def f (k : Nat) (a1 : T713d.T) : Option R :=
 if (decide (a1.2 ≥ (0 : Int))) = true then
  if (decide (a1.2 ≤ (32 : Int))) = true then
   if (decide (a1.1 ≥ (0 : Int))) = true then
    if (decide (a1.1 ≤ (4294967295 : Int))) = true then
     (f_bits_Mask.f k a1.2).bind fun y1 =>
      some (((IntKind.i64.wrap (((BitVec.ofInt IntKind.i64.bits a1.1 &&& ~~~ BitVec.ofInt IntKind.i64.bits y1.1).toNat : Int))) == (0 : Int)), ())
    else
     some (false, ())
   else
    some (false, ())
  else
   some (false, ())
 else
  some (false, ())
noncomputable def S : Spec := ⟨ps, rs, .any, none, fun x r => ∃ k, f k x.1 = some r⟩
theorem rl {k a1 r} (e : f k a1 = some r) : S.rel (a1, ()) r := ⟨k, e⟩
theorem f_ok {r k a1} (H : f k a1 = some r) : Gw P 0 (Q r) (Px c0 1 []) (⟨30, [(0, .cv (.agg [.i a1.1, .i a1.2]))], []⟩) := by
 unfold f at H
 refine Rg V_ok 1 [(0, hb 0)] az ?_
 rcases of_ite H with ⟨hb2, H⟩ | ⟨hb2, H⟩
 ·rcases of_ite H with ⟨hb3, H⟩ | ⟨hb3, H⟩
  ·rcases of_ite H with ⟨hb4, H⟩ | ⟨hb4, H⟩
   ·rcases of_ite H with ⟨hb5, H⟩ | ⟨hb5, H⟩
    ·obtain ⟨y1, e6, H⟩ := of_bind H
     refine Rg V_ok 0 [(2, {bv := some true}), (7, {bv := some true}), (12, {bv := some true}), (17, {bv := some true}), (23, hr f_bits_Mask.S y1)] (ac hb2 (ac hb3 (ac hb4 (ac hb5 (ac (f_bits_Mask.rl e6) az))))) ?_
     exact Le H
    ·refine Rg V_ok 0 [(2, {bv := some true}), (7, {bv := some true}), (12, {bv := some true}), (17, {bv := some false})] (ac hb2 (ac hb3 (ac hb4 (ac hb5 az)))) ?_
     exact Le H
   ·refine Rg V_ok 0 [(2, {bv := some true}), (7, {bv := some true}), (12, {bv := some false})] (ac hb2 (ac hb3 (ac hb4 az))) ?_
    exact Le H
  ·refine Rg V_ok 0 [(2, {bv := some true}), (7, {bv := some false})] (ac hb2 (ac hb3 az)) ?_
   exact Le H
 ·refine Rg V_ok 0 [(2, {bv := some false})] (ac hb2 az) ?_
  exact Le H
theorem fits : Fits P 157 S := fitsA V_ok func157 fun x r ⟨k, H⟩ => of_G (f_ok H)
end f_bits_May

namespace f_rule_May
noncomputable def c0 : Code := bo f133
abbrev ps : Sg := [(true, T1383)]
abbrev rs : Sg := [(false, .bool)]
noncomputable def V : Env := eV [(157, f_bits_May.S)]
theorem V_ok : EnvOk P V := eOk (slk_cons f_bits_May.fits (slk_nil))
abbrev R := Tup rs
noncomputable abbrev Q (r : R) : Exit → St → Prop := Qr tt f133.results ⟨ps, rs, .any, none, fun _ _ => True⟩ r
noncomputable def s1 (p1 : Bool) (p2 : T1383.T) : St := ⟨52, [(1, .cv (.one (.ptr 0 0))), (3, .cv (.one (.bool p1)))], [(.box 6, (encC .any T1383 p2))]⟩
noncomputable def j1 (k : Nat) (p1 : Bool) (p2 : T1383.T) : Option R :=
 if p1 = true then
 (f_bits_May.f k p2.1).bind fun y2 =>
  if y2.1 = true then
   if (decide (p2.2.1 ≥ (-1 : Int))) = true then
    if (decide (p2.2.1 ≤ (7 : Int))) = true then
     if (decide (p2.2.2.1 ≥ (0 : Int))) = true then
      some ((decide (p2.2.2.1 ≤ (255 : Int))), ())
     else
      some (false, ())
    else
     some (false, ())
   else
    some (false, ())
  else
   some (false, ())
else
 some (false, ())
theorem j1_ok {r} {k p1 p2} (H : j1 k p1 p2 = some r) : Gw P 0 (Q r) (Px c0 7 []) (s1 p1 p2) := by
 unfold j1 at H
 rcases of_ite H with ⟨hb3, H⟩ | ⟨hb3, H⟩
 ·obtain ⟨y2, e4, H⟩ := of_bind H
  rcases of_ite H with ⟨hb5, H⟩ | ⟨hb5, H⟩
  ·rcases of_ite H with ⟨hb6, H⟩ | ⟨hb6, H⟩
   ·rcases of_ite H with ⟨hb7, H⟩ | ⟨hb7, H⟩
    ·rcases of_ite H with ⟨hb8, H⟩ | ⟨hb8, H⟩
     ·refine Rg V_ok 0 [(0, {bv := some true}), (4, hr f_bits_May.S y2), (5, {bv := some true}), (10, {bv := some true}), (15, {bv := some true}), (20, {bv := some true})] (ac hb3 (ac (f_bits_May.rl e4) (ac hb5 (ac hb6 (ac hb7 (ac hb8 az)))))) ?_
      exact Le H
     ·refine Rg V_ok 0 [(0, {bv := some true}), (4, hr f_bits_May.S y2), (5, {bv := some true}), (10, {bv := some true}), (15, {bv := some true}), (20, {bv := some false})] (ac hb3 (ac (f_bits_May.rl e4) (ac hb5 (ac hb6 (ac hb7 (ac hb8 az)))))) ?_
      exact Le H
    ·refine Rg V_ok 0 [(0, {bv := some true}), (4, hr f_bits_May.S y2), (5, {bv := some true}), (10, {bv := some true}), (15, {bv := some false})] (ac hb3 (ac (f_bits_May.rl e4) (ac hb5 (ac hb6 (ac hb7 az))))) ?_
     exact Le H
   ·refine Rg V_ok 0 [(0, {bv := some true}), (4, hr f_bits_May.S y2), (5, {bv := some true}), (10, {bv := some false})] (ac hb3 (ac (f_bits_May.rl e4) (ac hb5 (ac hb6 az)))) ?_
    exact Le H
  ·refine Rg V_ok 0 [(0, {bv := some true}), (4, hr f_bits_May.S y2), (5, {bv := some false})] (ac hb3 (ac (f_bits_May.rl e4) (ac hb5 az))) ?_
   exact Le H
 ·refine Rg V_ok 0 [(0, {bv := some false})] (ac hb3 az) ?_
  exact Le H
noncomputable def f (k : Nat) (a1 : T1383.T) : Option R :=
 if ((a1.2.2.2.1 == (0 : Int)) && ((a1.2.2.2.2 == (0 : Int)) && true)) = true then
  j1 k true a1
 else
  if (a1.2.2.2.1 == (1 : Int)) = true then
   if (decide (a1.2.2.2.2 ≥ (0 : Int))) = true then
    j1 k (decide (a1.2.2.2.2 ≤ (7 : Int))) a1
   else
    j1 k false a1
  else
   j1 k false a1
noncomputable def S : Spec := ⟨ps, rs, .any, none, fun x r => ∃ k, f k x.1 = some r⟩
theorem rl {k a1 r} (e : f k a1 = some r) : S.rel (a1, ()) r := ⟨k, e⟩
theorem f_ok {r k a1} (H : f k a1 = some r) : Gw P 0 (Q r) (Px c0 1 []) (⟨52, [(0, .cv (.agg (encC .any T1383 a1)))], []⟩) := by
 unfold f at H
 refine Rg V_ok 1 [(0, hb 0)] az ?_
 rcases of_ite H with ⟨hb1, H⟩ | ⟨hb1, H⟩
 ·refine Rg V_ok 0 [(3, {bv := some true})] (ac hb1 az) ?_
  exact Jm (tn [1, 3] 1) (j1_ok H)
 ·rcases of_ite H with ⟨hb9, H⟩ | ⟨hb9, H⟩
  ·rcases of_ite H with ⟨hb10, H⟩ | ⟨hb10, H⟩
   ·refine Rg V_ok 0 [(3, {bv := some false}), (8, {bv := some true}), (14, {bv := some true})] (ac hb1 (ac hb9 (ac hb10 az))) ?_
    exact Jm (tn [1, 3] 1) (j1_ok H)
   ·refine Rg V_ok 0 [(3, {bv := some false}), (8, {bv := some true}), (14, {bv := some false})] (ac hb1 (ac hb9 (ac hb10 az))) ?_
    exact Jm (tn [1, 3] 1) (j1_ok H)
  ·refine Rg V_ok 0 [(3, {bv := some false}), (8, {bv := some false})] (ac hb1 (ac hb9 az)) ?_
   exact Jm (tn [1, 3] 1) (j1_ok H)
theorem fits : Fits P 133 S := fitsA V_ok func133 fun x r ⟨k, H⟩ => of_G (f_ok H)
end f_rule_May

namespace f_msg_bounds_in
noncomputable def c0 : Code := bo f150
abbrev ps : Sg := [(true, T713d), (false, (.int .i64))]
abbrev rs : Sg := [(false, .bool)]
noncomputable def V : Env := eV []
theorem V_ok : EnvOk P V := eOk (slk_nil)
abbrev R := Tup rs
noncomputable abbrev Q (r : R) : Exit → St → Prop := Qr tt f150.results ⟨ps, rs, .any, none, fun _ _ => True⟩ r
noncomputable def f (k : Nat) (a1 : T713d.T) (a2 : Int) : Option R :=
 if (decide (a2 ≥ a1.1)) = true then
  some ((decide (a2 ≤ a1.2)), ())
 else
  some (false, ())
noncomputable def S : Spec := ⟨ps, rs, .any, none, fun x r => ∃ k, f k x.1 x.2.1 = some r⟩
theorem rl {k a1 a2 r} (e : f k a1 a2 = some r) : S.rel (a1, a2, ()) r := ⟨k, e⟩
theorem f_ok {r k a1 a2} (H : f k a1 a2 = some r) : Gw P 0 (Q r) (Px c0 1 []) (⟨15, [(0, .cv (.agg [.i a1.1, .i a1.2])), (1, .cv (.one (.i a2)))], []⟩) := by
 unfold f at H
 refine Rg V_ok 1 [(0, hb 0)] az ?_
 rcases of_ite H with ⟨hb1, H⟩ | ⟨hb1, H⟩
 ·refine Rg V_ok 0 [(3, {bv := some true})] (ac hb1 az) ?_
  exact Le H
 ·refine Rg V_ok 0 [(3, {bv := some false})] (ac hb1 az) ?_
  exact Le H
theorem fits : Fits P 150 S := fitsA V_ok func150 fun x r ⟨k, H⟩ => of_G (f_ok H)
end f_msg_bounds_in

namespace f_msg_May
noncomputable def c0 : Code := bo f113
abbrev ps : Sg := [(true, T4414)]
abbrev rs : Sg := [(false, .bool)]
noncomputable def V : Env := eV [(133, f_rule_May.S), (150, f_msg_bounds_in.S)]
theorem V_ok : EnvOk P V := eOk (slk_cons f_rule_May.fits (slk_cons f_msg_bounds_in.fits (slk_nil)))
abbrev R := Tup rs
noncomputable abbrev Q (r : R) : Exit → St → Prop := Qr tt f113.results ⟨ps, rs, .any, none, fun _ _ => True⟩ r
noncomputable def s1 (p1 : Bool) (p2 : T4414.T) : St := ⟨47, [(1, .cv (.one (.ptr 0 0))), (12, .cv (.one (.bool p1)))], [(.box 10, (encC .any T4414 p2))]⟩
noncomputable def s2 (p1 : Bool) (p2 : T4414.T) (p3 : Ta655.T) : St := ⟨47, [(1, .cv (.one (.ptr 0 0))), (3, .cv (.one (.ptr 1 0))), (4, .cv (.one (.bool p1)))], [(.box 10, (encC .any T4414 p2)), (.box 5, (encC .any Ta655 p3))]⟩
noncomputable def j2 (k : Nat) (p1 : Bool) (p2 : T4414.T) (p3 : Ta655.T) : Option R :=
 if p1 = true then
 (f_msg_bounds_in.f k (1, 1048576) p2.2.1).bind fun y8 =>
  if y8.1 = true then
   (f_msg_bounds_in.f k p3.1 p2.2.2.1).bind fun y9 =>
    if y9.1 = true then
     (f_msg_bounds_in.f k p3.2.1 p2.2.2.2.1).bind fun y10 =>
      some (y10.1, ())
    else
     some (false, ())
  else
   some (false, ())
else
 some (false, ())
theorem j2_ok {r} {k p1 p2 p3} (H : j2 k p1 p2 p3 = some r) : Gw P 0 (Q r) (Px c0 63 []) (s2 p1 p2 p3) := by
 unfold j2 at H
 rcases of_ite H with ⟨hb11, H⟩ | ⟨hb11, H⟩
 ·obtain ⟨y8, e12, H⟩ := of_bind H
  rcases of_ite H with ⟨hb13, H⟩ | ⟨hb13, H⟩
  ·obtain ⟨y9, e14, H⟩ := of_bind H
   rcases of_ite H with ⟨hb15, H⟩ | ⟨hb15, H⟩
   ·obtain ⟨y10, e16, H⟩ := of_bind H
    refine Rg V_ok 0 [(0, {bv := some true}), (5, hr f_msg_bounds_in.S y8), (6, {bv := some true}), (12, hr f_msg_bounds_in.S y9), (13, {bv := some true}), (19, hr f_msg_bounds_in.S y10)] (ac hb11 (ac (f_msg_bounds_in.rl e12) (ac hb13 (ac (f_msg_bounds_in.rl e14) (ac hb15 (ac (f_msg_bounds_in.rl e16) az)))))) ?_
    exact Le H
   ·refine Rg V_ok 0 [(0, {bv := some true}), (5, hr f_msg_bounds_in.S y8), (6, {bv := some true}), (12, hr f_msg_bounds_in.S y9), (13, {bv := some false})] (ac hb11 (ac (f_msg_bounds_in.rl e12) (ac hb13 (ac (f_msg_bounds_in.rl e14) (ac hb15 az))))) ?_
    exact Le H
  ·refine Rg V_ok 0 [(0, {bv := some true}), (5, hr f_msg_bounds_in.S y8), (6, {bv := some false})] (ac hb11 (ac (f_msg_bounds_in.rl e12) (ac hb13 az))) ?_
   exact Le H
 ·refine Rg V_ok 0 [(0, {bv := some false})] (ac hb11 az) ?_
  exact Le H
noncomputable def j1 (k : Nat) (p1 : Bool) (p2 : T4414.T) : Option R :=
 if p1 = true then
 some (false, ())
else
 if 0 ≤ p2.1 then
  if p2.1 < (6 : Int) then
   if ((att Ta655 glob0 p2.1).2).2 = true then
    (f_rule_May.f k p2.2.2.2.2).bind fun y6 =>
     j2 k y6.1 p2 (att Ta655 glob0 p2.1)
   else
    j2 k ((p2.2.2.2.2.1.1 == (0 : Int)) && ((p2.2.2.2.2.1.2 == (0 : Int)) && ((p2.2.2.2.2.2.1 == (0 : Int)) && ((p2.2.2.2.2.2.2.1 == (0 : Int)) && ((p2.2.2.2.2.2.2.2.1 == (0 : Int)) && ((p2.2.2.2.2.2.2.2.2 == (0 : Int)) && true)))))) p2 (att Ta655 glob0 p2.1)
  else none
 else none
theorem j1_ok {r} {k p1 p2} (H : j1 k p1 p2 = some r) : Gw P 0 (Q r) (Px c0 13 []) (s1 p1 p2) := by
 unfold j1 at H
 rcases of_ite H with ⟨hb2, H⟩ | ⟨hb2, H⟩
 ·refine C1 hb2 ?_
  refine Ra ?_
  exact Le H
 ·refine C0 hb2 ?_
  obtain ⟨n3, H⟩ := of_if H
  obtain ⟨n4, H⟩ := of_if H
  refine Rg V_ok 1 [(4, hb 1)] (ac n3 (ac n4 az)) ?_
  refine Ra ?_
  refine Ra ?_
  rcases of_ite H with ⟨hb5, H⟩ | ⟨hb5, H⟩
  ·refine C1 hb5 ?_
   obtain ⟨y6, e7, H⟩ := of_bind H
   refine Rg V_ok 0 [(2, hr f_rule_May.S y6)] (ac (f_rule_May.rl e7) az) ?_
   exact Jm (tn [1, 3, 4] 2) (j2_ok H)
  ·refine C0 hb5 ?_
   exact Jm (tn [1, 3, 4] 2) (j2_ok H)
noncomputable def f (k : Nat) (a1 : T4414.T) : Option R :=
 if (decide (a1.1 < (0 : Int))) = true then
  j1 k true a1
 else
  j1 k (decide (a1.1 ≥ (6 : Int))) a1
noncomputable def S : Spec := ⟨ps, rs, .any, none, fun x r => ∃ k, f k x.1 = some r⟩
theorem rl {k a1 r} (e : f k a1 = some r) : S.rel (a1, ()) r := ⟨k, e⟩
theorem f_ok {r k a1} (H : f k a1 = some r) : Gw P 0 (Q r) (Px c0 1 []) (⟨47, [(0, .cv (.agg (encC .any T4414 a1)))], []⟩) := by
 unfold f at H
 refine Rg V_ok 1 [(0, hb 0)] az ?_
 rcases of_ite H with ⟨hb1, H⟩ | ⟨hb1, H⟩
 ·refine Rg V_ok 0 [(2, {bv := some true})] (ac hb1 az) ?_
  exact Jm (tn [1, 12] 1) (j1_ok H)
 ·refine Rg V_ok 0 [(2, {bv := some false})] (ac hb1 az) ?_
  exact Jm (tn [1, 12] 1) (j1_ok H)
theorem fits : Fits P 113 S := fitsA V_ok func113 fun x r ⟨k, H⟩ => of_G (f_ok H)
end f_msg_May

namespace f_octets_may
noncomputable def c0 : Code := bo f162
abbrev ps : Sg := [(false, (.int .i64))]
abbrev rs : Sg := [(false, .bool)]
noncomputable def V : Env := eV []
theorem V_ok : EnvOk P V := eOk (slk_nil)
abbrev R := Tup rs
noncomputable abbrev Q (r : R) : Exit → St → Prop := Qr tt f162.results ⟨ps, rs, .any, none, fun _ _ => True⟩ r
noncomputable def f (k : Nat) (a1 : Int) : Option R :=
 if (decide (a1 ≥ (1 : Int))) = true then
  some ((decide (a1 ≤ (4 : Int))), ())
 else
  some (false, ())
noncomputable def S : Spec := ⟨ps, rs, .any, none, fun x r => ∃ k, f k x.1 = some r⟩
theorem rl {k a1 r} (e : f k a1 = some r) : S.rel (a1, ()) r := ⟨k, e⟩
theorem f_ok {r k a1} (H : f k a1 = some r) : Gw P 0 (Q r) (Px c0 1 []) (⟨9, [(0, .cv (.one (.i a1)))], []⟩) := by
 unfold f at H
 refine Ra ?_
 rcases of_ite H with ⟨hb1, H⟩ | ⟨hb1, H⟩
 ·refine Rg V_ok 0 [(1, {bv := some true})] (ac hb1 az) ?_
  exact Le H
 ·refine Rg V_ok 0 [(1, {bv := some false})] (ac hb1 az) ?_
  exact Le H
theorem fits : Fits P 162 S := fitsA V_ok func162 fun x r ⟨k, H⟩ => of_G (f_ok H)
end f_octets_may

namespace f_octets_PutO
noncomputable def c0 : Code := bo f151
abbrev ps : Sg := [(false, (.int .i64)), (false, (.int .i64))]
abbrev rs : Sg := [(false, .slice (.int .u8)), (false, .int .i64)]
noncomputable def V : Env := eV [(162, f_octets_may.S)]
theorem V_ok : EnvOk P V := eOk (slk_cons f_octets_may.fits (slk_nil))
abbrev R := Tup rs
noncomputable abbrev Q (r : R) : Exit → St → Prop := QrO2 f151.results 5 (.int .u8) .i64 r
noncomputable def s1 (p1 p2 : Int) (p3 : Bool) : St := ⟨42, [(0, .cv (.one (.i p1))), (1, .cv (.one (.i p2))), (21, .cv (.one (.bool p3)))], []⟩
noncomputable def s2 (p1 p2 p3 p4 : Int) (p5 : List Int) : St := ⟨42, [(0, .cv (.one (.i p1))), (1, .cv (.one (.i p2))), (6, .cv (.one (.own 0))), (25, .cv (.one (.i p3))), (26, .cv (.one (.i p4)))], [(.buf 5 (.int .u8) p5, [])]⟩
noncomputable def b2 (L2 : Int → Int → Int → Int → List Int → Option R) (k : Nat) (p1 p2 p3 p4 : Int) (p5 : List Int) : Option R :=
 if (decide (p4 < p3)) = true then
 if 0 ≤ (IntKind.i64.wrap (8 * (IntKind.i64.wrap ((IntKind.i64.wrap (p2 - 1)) - p4)))) then
  if 0 ≤ p4 then
   if p4 < (p5.length : Int) then
    L2 p1 p2 p3 (IntKind.i64.wrap (p4 + 1)) (p5.set p4.toNat (IntKind.u8.wrap (Int.fdiv p1 (2 ^ (min (IntKind.i64.wrap (8 * (IntKind.i64.wrap ((IntKind.i64.wrap (p2 - 1)) - p4)))).toNat (IntKind.i64.bits))))))
   else none
  else none
 else none
else
 some (p5, ((0 : Int), ()))
theorem b2_ok {r} {L2 : Int → Int → Int → Int → List Int → Option R} {m2 : Nat} (hL2 : ∀ p1 p2 p3 p4 p5, L2 p1 p2 p3 p4 p5 = some r → Gw P 0 (Q r) (Pb c0 87 [] m2) (s2 p1 p2 p3 p4 p5)) {k p1 p2 p3 p4 p5} (H : b2 L2 k p1 p2 p3 p4 p5 = some r) : Gw P 0 (Q r) (Px c0 151 [m2]) (s2 p1 p2 p3 p4 p5) := by
 unfold b2 at H
 refine Ra ?_
 rcases of_ite H with ⟨hb6, H⟩ | ⟨hb6, H⟩
 ·refine C1 hb6 ?_
  refine Ra ?_
  obtain ⟨n7, H⟩ := of_if H
  obtain ⟨n8, H⟩ := of_if H
  obtain ⟨n9, H⟩ := of_if H
  refine Rg V_ok 0 [] (ac n7 (ac n8 (ac n9 az))) ?_
  refine Ra ?_
  exact Jm (tn [0, 1, 6, 25, 26] 1) (hL2 p1 p2 p3 (IntKind.i64.wrap (p4 + 1)) (p5.set p4.toNat (IntKind.u8.wrap (Int.fdiv p1 (2 ^ (min (IntKind.i64.wrap (8 * (IntKind.i64.wrap ((IntKind.i64.wrap (p2 - 1)) - p4)))).toNat (IntKind.i64.bits)))))) H)
 ·refine C0 hb6 ?_
  refine Ra ?_
  obtain rfl := Option.some.inj H
  exact LfO2 (by kernel_rfl)
noncomputable def l2 (k : Nat) : Nat → Int → Int → Int → Int → List Int → Option R
 | 0, _, _, _, _, _ => none
 | m + 1, p1, p2, p3, p4, p5 => b2 (l2 k m) k p1 p2 p3 p4 p5
theorem l2_ok {r} (k : Nat) : ∀ (m2 : Nat) (p1 p2 p3 p4 : Int) (p5 : List Int), l2 k m2 p1 p2 p3 p4 p5 = some r → Gw P 0 (Q r) (Pb c0 87 [] m2) (s2 p1 p2 p3 p4 p5)
 | 0, _, _, _, _, _, H => by cases H
 | m2 + 1, p1, p2, p3, p4, p5, H => SU (by kernel_rfl) (b2_ok (l2_ok k m2) H)
noncomputable def j1 (k : Nat) (p1 p2 : Int) (p3 : Bool) : Option R :=
 if p3 = true then
 some ([], ((1 : Int), ()))
else
 if 0 ≤ p2 ∧ p2 = p2 ∧ (1 : Int) * p2 ≤ 140737488355328 ∧ p2 ≤ 140737488355328 then
  l2 k k p1 p2 ((List.replicate p2.toNat (0 : Int)).length : Int) 0 (List.replicate p2.toNat (0 : Int))
 else none
theorem j1_ok {r} {k p1 p2 p3} (H : j1 k p1 p2 p3 = some r) : Gw P 0 (Q r) (Px c0 13 []) (s1 p1 p2 p3) := by
 unfold j1 at H
 rcases of_ite H with ⟨hb4, H⟩ | ⟨hb4, H⟩
 ·refine C1 hb4 ?_
  refine Ra ?_
  refine GT {gr := 1, ad := [.ownT 4 0 5 (.int .u8)], live := [4, 5], src := [some 0]} ?_
  obtain rfl := Option.some.inj H
  exact LfO2 (by kernel_rfl)
 ·refine C0 hb4 ?_
  obtain ⟨n5, H⟩ := of_if H
  refine Rg V_ok 1 [(1, hb 0)] (ac n5 az) ?_
  refine Ra ?_
  exact LP k (Jm (tn [0, 1, 6, 25, 26] 1) (l2_ok k k p1 p2 ((List.replicate p2.toNat (0 : Int)).length : Int) 0 (List.replicate p2.toNat (0 : Int)) H))
noncomputable def f (k : Nat) (a1 a2 : Int) : Option R :=
 (f_octets_may.f k a2).bind fun y1 =>
  if (!y1.1) = true then
   j1 k a1 a2 true
  else
   if (decide (a1 < (0 : Int))) = true then
    j1 k a1 a2 true
   else
    if 0 ≤ (IntKind.i64.wrap (8 * a2)) then
     j1 k a1 a2 ((Int.fdiv a1 (2 ^ (min (IntKind.i64.wrap (8 * a2)).toNat (IntKind.i64.bits)))) != (0 : Int))
    else none
noncomputable def S : Spec := ⟨ps, rs, .any, some 5, fun x r => ∃ k, f k x.1 x.2.1 = some r⟩
theorem rl {k a1 a2 r} (e : f k a1 a2 = some r) : S.rel (a1, a2, ()) r := ⟨k, e⟩
theorem f_ok {r k a1 a2} (H : f k a1 a2 = some r) : Gw P 0 (Q r) (Px c0 1 []) (⟨42, [(0, .cv (.one (.i a1))), (1, .cv (.one (.i a2)))], []⟩) := by
 unfold f at H
 refine Ra ?_
 obtain ⟨y1, e2, H⟩ := of_bind H
 rcases of_ite H with ⟨hb3, H⟩ | ⟨hb3, H⟩
 ·refine Rg V_ok 0 [(1, hr f_octets_may.S y1), (2, {bv := some true})] (ac (f_octets_may.rl e2) (ac hb3 az)) ?_
  exact Jm (tn [0, 1, 21] 0) (j1_ok H)
 ·rcases of_ite H with ⟨hb10, H⟩ | ⟨hb10, H⟩
  ·refine Rg V_ok 0 [(1, hr f_octets_may.S y1), (2, {bv := some false}), (6, {bv := some true})] (ac (f_octets_may.rl e2) (ac hb3 (ac hb10 az))) ?_
   exact Jm (tn [0, 1, 21] 0) (j1_ok H)
  ·obtain ⟨n11, H⟩ := of_if H
   refine Rg V_ok 0 [(1, hr f_octets_may.S y1), (2, {bv := some false}), (6, {bv := some false})] (ac (f_octets_may.rl e2) (ac hb3 (ac hb10 (ac n11 az)))) ?_
   exact Jm (tn [0, 1, 21] 0) (j1_ok H)
theorem fits : Fits P 151 S := fits_ofO2 V_ok func151 (by kernel_rfl) (by decide) (by decide) (fun x r ⟨k, H⟩ => of_G (f_ok H))
end f_octets_PutO

namespace f_octets_PutAllO
noncomputable def c0 : Code := bo f114
abbrev ps : Sg := [(false, (.slice (.int .i64))), (false, (.slice (.int .i64)))]
abbrev rs : Sg := [(false, .slice (.int .u8)), (false, .int .i64)]
noncomputable def V : Env := eV [(151, f_octets_PutO.S)]
theorem V_ok : EnvOk P V := eOk (slk_cons f_octets_PutO.fits (slk_nil))
abbrev R := Tup rs
noncomputable abbrev Q (r : R) : Exit → St → Prop := QrO2 f114.results 5 (.int .u8) .i64 r
noncomputable def s1 (p1 p2 : List Int) (p3 p4 : Int) (p5 : List Int) : St := ⟨40, [(1, .cv (.one (.sl (.int .i64) p1 .any))), (6, .cv (.one (.own 0))), (16, .cv (.one (.sl (.int .i64) p2 .any))), (17, .cv (.one (.i p3))), (18, .cv (.one (.i p4)))], [(.buf 5 (.int .u8) p5, [])]⟩
noncomputable def b1 (L1 : List Int → List Int → Int → Int → List Int → Option R) (k : Nat) (p1 p2 : List Int) (p3 p4 : Int) (p5 : List Int) : Option R :=
 if (decide (p4 < p3)) = true then
 if 0 ≤ p4 then
  if p4 < (p2.length : Int) then
   if p4 < (p1.length : Int) then
    (f_octets_PutO.f k (att (.int .i64) p2 p4) (att (.int .i64) p1 p4)).bind fun y5 =>
     if (y5.2.1 != (0 : Int)) = true then
      some ([], (y5.2.1, ()))
     else
      if (p5.length + y5.1.length) * 1 ≤ 140737488355328 then
       L1 p1 p2 p3 (IntKind.i64.wrap (p4 + 1)) (p5 ++ y5.1)
      else none
   else none
  else none
 else none
else
 some (p5, ((0 : Int), ()))
theorem b1_ok {r} {L1 : List Int → List Int → Int → Int → List Int → Option R} {m1 : Nat} (hL1 : ∀ p1 p2 p3 p4 p5, L1 p1 p2 p3 p4 p5 = some r → Gw P 0 (Q r) (Pb c0 87 [] m1) (s1 p1 p2 p3 p4 p5)) {k p1 p2 p3 p4 p5} (H : b1 L1 k p1 p2 p3 p4 p5 = some r) : Gw P 0 (Q r) (Px c0 151 [m1]) (s1 p1 p2 p3 p4 p5) := by
 unfold b1 at H
 refine Ra ?_
 rcases of_ite H with ⟨hb2, H⟩ | ⟨hb2, H⟩
 ·refine C1 hb2 ?_
  obtain ⟨n3, H⟩ := of_if H
  obtain ⟨n4, H⟩ := of_if H
  refine Rg V_ok 0 [] (ac n3 (ac n4 az)) ?_
  obtain ⟨n6, H⟩ := of_if H
  obtain ⟨y5, e7, H⟩ := of_bind H
  refine Rg V_ok 1 [(5, {sb := 1, res := some ⟨f_octets_PutO.S.rs, y5⟩})] (ac n3 (ac n6 (ac (f_octets_PutO.rl e7) az))) ?_
  refine Ra ?_
  rcases of_ite H with ⟨hb8, H⟩ | ⟨hb8, H⟩
  ·refine C1 hb8 ?_
   refine Ra ?_
   refine GT {gr := 1, ad := [.ownT 4 2 5 (.int .u8)], live := [4, 5], src := [some 2]} ?_
   obtain rfl := Option.some.inj H
   exact LfO2 (by kernel_rfl)
  ·refine C0 hb8 ?_
   obtain ⟨n9, H⟩ := of_if H
   refine Rg V_ok 1 [(2, hb 2)] (ac n9 az) ?_
   refine Ra ?_
   exact Jm (tl [1, 6, 16, 17, 18] [2]) (hL1 p1 p2 p3 (IntKind.i64.wrap (p4 + 1)) (p5 ++ y5.1) H)
 ·refine C0 hb2 ?_
  refine Ra ?_
  obtain rfl := Option.some.inj H
  exact LfO2 (by kernel_rfl)
noncomputable def l1 (k : Nat) : Nat → List Int → List Int → Int → Int → List Int → Option R
 | 0, _, _, _, _, _ => none
 | m + 1, p1, p2, p3, p4, p5 => b1 (l1 k m) k p1 p2 p3 p4 p5
theorem l1_ok {r} (k : Nat) : ∀ (m1 : Nat) (p1 p2 : List Int) (p3 p4 : Int) (p5 : List Int), l1 k m1 p1 p2 p3 p4 p5 = some r → Gw P 0 (Q r) (Pb c0 87 [] m1) (s1 p1 p2 p3 p4 p5)
 | 0, _, _, _, _, _, H => by cases H
 | m1 + 1, p1, p2, p3, p4, p5, H => SU (by kernel_rfl) (b1_ok (l1_ok k m1) H)
noncomputable def f (k : Nat) (a1 a2 : List Int) : Option R :=
 if ((a1.length : Int) != (a2.length : Int)) = true then
  some ([], ((1 : Int), ()))
 else
  l1 k k a2 a1 (a1.length : Int) 0 []
noncomputable def S : Spec := ⟨ps, rs, .any, some 5, fun x r => ∃ k, f k x.1 x.2.1 = some r⟩
theorem rl {k a1 a2 r} (e : f k a1 a2 = some r) : S.rel (a1, a2, ()) r := ⟨k, e⟩
theorem f_ok {r k a1 a2} (H : f k a1 a2 = some r) : Gw P 0 (Q r) (Px c0 1 []) (⟨40, [(0, .cv (.one (.sl (.int .i64) a1 .any))), (1, .cv (.one (.sl (.int .i64) a2 .any)))], []⟩) := by
 unfold f at H
 refine Ra ?_
 refine Ra ?_
 rcases of_ite H with ⟨hb1, H⟩ | ⟨hb1, H⟩
 ·refine C1 hb1 ?_
  refine Ra ?_
  refine GT {gr := 1, ad := [.ownT 4 0 5 (.int .u8)], live := [4, 5], src := [some 0]} ?_
  obtain rfl := Option.some.inj H
  exact LfO2 (by kernel_rfl)
 ·refine C0 hb1 ?_
  refine Ra ?_
  refine Ra ?_
  exact LP k (Jm {fz := [], gr := 1, ad := [.ownT 6 0 5 (.int .u8)], live := [1, 6, 16, 17, 18], src := [some 0]} (l1_ok k k a2 a1 (a1.length : Int) 0 [] H))
theorem fits : Fits P 114 S := fits_ofO2 V_ok func114 (by kernel_rfl) (by decide) (by decide) (fun x r ⟨k, H⟩ => of_G (f_ok H))
end f_octets_PutAllO

namespace f_rule_PutO
noncomputable def c0 : Code := bo f115
abbrev ps : Sg := [(true, T1383)]
abbrev rs : Sg := [(false, .slice (.int .u8)), (false, .int .i64)]
noncomputable def V : Env := eV [(133, f_rule_May.S), (151, f_octets_PutO.S)]
theorem V_ok : EnvOk P V := eOk (slk_cons f_rule_May.fits (slk_cons f_octets_PutO.fits (slk_nil)))
abbrev R := Tup rs
noncomputable abbrev Q (r : R) : Exit → St → Prop := QrO2 f115.results 5 (.int .u8) .i64 r
noncomputable def f (k : Nat) (a1 : T1383.T) : Option R :=
 (f_rule_May.f k a1).bind fun y1 =>
  if (!y1.1) = true then
   some ([], ((1 : Int), ()))
  else
   (f_octets_PutO.f k a1.1.1 (4 : Int)).bind fun y4 =>
    if (y4.1.length + 5) * 1 ≤ 140737488355328 then
     some ((y4.1 ++ [(IntKind.u8.wrap a1.1.2), (IntKind.u8.wrap (IntKind.i64.wrap (a1.2.1 + 1))), (IntKind.u8.wrap a1.2.2.1), (IntKind.u8.wrap a1.2.2.2.1), (IntKind.u8.wrap a1.2.2.2.2)]), (y4.2.1, ()))
    else none
noncomputable def S : Spec := ⟨ps, rs, .any, some 5, fun x r => ∃ k, f k x.1 = some r⟩
theorem rl {k a1 r} (e : f k a1 = some r) : S.rel (a1, ()) r := ⟨k, e⟩
theorem f_ok {r k a1} (H : f k a1 = some r) : Gw P 0 (Q r) (Px c0 1 []) (⟨39, [(0, .cv (.agg (encC .any T1383 a1)))], []⟩) := by
 unfold f at H
 refine Rg V_ok 1 [(0, hb 0)] az ?_
 obtain ⟨y1, e2, H⟩ := of_bind H
 refine Rg V_ok 0 [(1, hr f_rule_May.S y1)] (ac (f_rule_May.rl e2) az) ?_
 rcases of_ite H with ⟨hb3, H⟩ | ⟨hb3, H⟩
 ·refine C1 hb3 ?_
  refine Ra ?_
  refine GT {gr := 1, ad := [.ownT 2 1 5 (.int .u8)], live := [2, 3], src := [some 1]} ?_
  obtain rfl := Option.some.inj H
  exact LfO2 (by kernel_rfl)
 ·refine C0 hb3 ?_
  obtain ⟨y4, e5, H⟩ := of_bind H
  refine Rg V_ok 1 [(3, {sb := 1, res := some ⟨f_octets_PutO.S.rs, y4⟩})] (ac (f_octets_PutO.rl e5) az) ?_
  obtain ⟨n6, H⟩ := of_if H
  refine Rg V_ok 1 [(21, hb 2)] (ac n6 az) ?_
  obtain rfl := Option.some.inj H
  exact LfO2 (by kernel_rfl)
theorem fits : Fits P 115 S := fits_ofO2 V_ok func115 (by kernel_rfl) (by decide) (by decide) (fun x r ⟨k, H⟩ => of_G (f_ok H))
end f_rule_PutO

namespace f_octets_Sum
noncomputable def c0 : Code := bo f64
abbrev ps : Sg := [(false, (.slice (.int .u8)))]
abbrev rs : Sg := [(false, (.int .i64))]
noncomputable def V : Env := eV []
theorem V_ok : EnvOk P V := eOk (slk_nil)
abbrev R := Tup rs
noncomputable abbrev Q (r : R) : Exit → St → Prop := Qr tt f64.results ⟨ps, rs, .any, none, fun _ _ => True⟩ r
noncomputable def s1 (p1 : Int) (p2 : List Int) (p3 p4 : Int) : St := ⟨32, [(3, .cv (.one (.i p1))), (6, .cv (.one (.sl (.int .u8) p2 .any))), (7, .cv (.one (.i p3))), (8, .cv (.one (.i p4)))], []⟩
noncomputable def s2 (p1 : Int) : St := ⟨32, [(3, .cv (.one (.i p1)))], []⟩
noncomputable def b2 (L2 : Int → Option R) (k : Nat) (p1 : Int) : Option R :=
 if (decide (p1 > (65535 : Int))) = true then
 L2 (IntKind.i64.wrap ((Int.fdiv p1 (2 ^ (min (16 : Int).toNat (IntKind.i64.bits)))) + (IntKind.i64.wrap (((BitVec.ofInt IntKind.i64.bits p1 &&& BitVec.ofInt IntKind.i64.bits 65535).toNat : Int)))))
else
 some ((IntKind.i64.wrap (65535 - p1)), ())
theorem b2_ok {r} {L2 : Int → Option R} {m2 : Nat} (hL2 : ∀ p1, L2 p1 = some r → Gw P 0 (Q r) (Pb c0 3 [] m2) (s2 p1)) {k p1} (H : b2 L2 k p1 = some r) : Gw P 0 (Q r) (Px c0 61 [m2]) (s2 p1) := by
 unfold b2 at H
 refine Ra ?_
 rcases of_ite H with ⟨hb5, H⟩ | ⟨hb5, H⟩
 ·refine C1 hb5 ?_
  refine Rg V_ok 0 [] (ac (show 0 ≤ (16 : Int) by decide) az) ?_
  exact Jm (tn [3] 0) (hL2 (IntKind.i64.wrap ((Int.fdiv p1 (2 ^ (min (16 : Int).toNat (IntKind.i64.bits)))) + (IntKind.i64.wrap (((BitVec.ofInt IntKind.i64.bits p1 &&& BitVec.ofInt IntKind.i64.bits 65535).toNat : Int))))) H)
 ·refine C0 hb5 ?_
  refine Ra ?_
  exact Le H
noncomputable def l2 (k : Nat) : Nat → Int → Option R
 | 0, _ => none
 | m + 1, p1 => b2 (l2 k m) k p1
theorem l2_ok {r} (k : Nat) : ∀ (m2 : Nat) (p1 : Int), l2 k m2 p1 = some r → Gw P 0 (Q r) (Pb c0 3 [] m2) (s2 p1)
 | 0, _, H => by cases H
 | m2 + 1, p1, H => SU (by kernel_rfl) (b2_ok (l2_ok k m2) H)
noncomputable def b1 (L1 : Int → List Int → Int → Int → Option R) (k : Nat) (p1 : Int) (p2 : List Int) (p3 p4 : Int) : Option R :=
 if (decide (p4 < p3)) = true then
 if 0 ≤ p4 then
  if p4 < (p2.length : Int) then
   if 0 ≤ (IntKind.i64.wrap (8 * (Int.tmod (IntKind.i64.wrap (p4 + 1)) 2))) then
    L1 (IntKind.i64.wrap (p1 + (IntKind.i64.wrap ((IntKind.i64.wrap (att (.int .u8) p2 p4)) * (2 ^ (min (IntKind.i64.wrap (8 * (Int.tmod (IntKind.i64.wrap (p4 + 1)) 2))).toNat (IntKind.i64.bits))))))) p2 p3 (IntKind.i64.wrap (p4 + 1))
   else none
  else none
 else none
else
 b2 (l2 k 1000000) k p1
theorem b1_ok {r} {L1 : Int → List Int → Int → Int → Option R} {m1 : Nat} (hL1 : ∀ p1 p2 p3 p4, L1 p1 p2 p3 p4 = some r → Gw P 0 (Q r) (Pb c0 85 [1000000] m1) (s1 p1 p2 p3 p4)) {k p1 p2 p3 p4} (H : b1 L1 k p1 p2 p3 p4 = some r) : Gw P 0 (Q r) (Px c0 149 [1000000, m1]) (s1 p1 p2 p3 p4) := by
 unfold b1 at H
 refine Ra ?_
 rcases of_ite H with ⟨hb1, H⟩ | ⟨hb1, H⟩
 ·refine C1 hb1 ?_
  obtain ⟨n2, H⟩ := of_if H
  obtain ⟨n3, H⟩ := of_if H
  refine Rg V_ok 0 [] (ac n2 (ac n3 az)) ?_
  obtain ⟨n4, H⟩ := of_if H
  refine Rg V_ok 0 [] (ac (show (2 : Int) ≠ 0 by decide) (ac n4 az)) ?_
  refine Ra ?_
  exact Jm (tn [3, 6, 7, 8] 0) (hL1 (IntKind.i64.wrap (p1 + (IntKind.i64.wrap ((IntKind.i64.wrap (att (.int .u8) p2 p4)) * (2 ^ (min (IntKind.i64.wrap (8 * (Int.tmod (IntKind.i64.wrap (p4 + 1)) 2))).toNat (IntKind.i64.bits))))))) p2 p3 (IntKind.i64.wrap (p4 + 1)) H)
 ·refine C0 hb1 ?_
  exact Jm (tn [3] 0) (b2_ok (l2_ok k 1000000) H)
noncomputable def l1 (k : Nat) : Nat → Int → List Int → Int → Int → Option R
 | 0, _, _, _, _ => none
 | m + 1, p1, p2, p3, p4 => b1 (l1 k m) k p1 p2 p3 p4
theorem l1_ok {r} (k : Nat) : ∀ (m1 : Nat) (p1 : Int) (p2 : List Int) (p3 : Int) (p4 : Int), l1 k m1 p1 p2 p3 p4 = some r → Gw P 0 (Q r) (Pb c0 85 [1000000] m1) (s1 p1 p2 p3 p4)
 | 0, _, _, _, _, H => by cases H
 | m1 + 1, p1, p2, p3, p4, H => SU (by kernel_rfl) (b1_ok (l1_ok k m1) H)
noncomputable def f (k : Nat) (a1 : List Int) : Option R :=
 l1 k k 0 a1 (a1.length : Int) 0
noncomputable def S : Spec := ⟨ps, rs, .any, none, fun x r => ∃ k, f k x.1 = some r⟩
theorem rl {k a1 r} (e : f k a1 = some r) : S.rel (a1, ()) r := ⟨k, e⟩
theorem f_ok {r k a1} (H : f k a1 = some r) : Gw P 0 (Q r) (Px c0 1 []) (⟨32, [(0, .cv (.one (.sl (.int .u8) a1 .any)))], []⟩) := by
 unfold f at H
 refine Ra ?_
 refine SC 1000000 ?_
 refine Ra ?_
 refine Ra ?_
 exact LP k (Jm (tn [3, 6, 7, 8] 0) (l1_ok k k 0 a1 (a1.length : Int) 0 H))
theorem fits : Fits P 64 S := fitsA V_ok func64 fun x r ⟨k, H⟩ => of_G (f_ok H)
end f_octets_Sum

namespace f_msg_PutO
noncomputable def c0 : Code := bo f63
abbrev ps : Sg := [(true, T4414)]
abbrev rs : Sg := [(false, .slice (.int .u8)), (false, .int .i64)]
noncomputable def V : Env := eV [(113, f_msg_May.S), (114, f_octets_PutAllO.S), (115, f_rule_PutO.S)]
theorem V_ok : EnvOk P V := eOk (slk_cons f_msg_May.fits (slk_cons f_octets_PutAllO.fits (slk_cons f_rule_PutO.fits (slk_nil))))
abbrev R := Tup rs
noncomputable abbrev Q (r : R) : Exit → St → Prop := QrO2 f63.results 5 (.int .u8) .i64 r
noncomputable def s1 (p1 : Int) (p2 : Bool) (p3 : T4414.T) (p4 : List Int) : St := ⟨46, [(1, .cv (.one (.ptr 0 0))), (4, .cv (.one (.own 1))), (5, .cv (.one (.i p1))), (33, .cv (.one (.bool p2)))], [(.box 10, (encC .any T4414 p3)), (.buf 5 (.int .u8) p4, [])]⟩
noncomputable def j1 (k : Nat) (p1 : Int) (p2 : Bool) (p3 : T4414.T) (p4 : List Int) : Option R :=
 if p2 = true then
 some (p4, (p1, ()))
else
 (f_rule_PutO.f k p3.2.2.2.2).bind fun y8 =>
  if (p4.length + y8.1.length) * 1 ≤ 140737488355328 then
   some ((p4 ++ y8.1), (y8.2.1, ()))
  else none
theorem j1_ok {r} {k p1 p2 p3 p4} (H : j1 k p1 p2 p3 p4 = some r) : Gw P 0 (Q r) (Px c0 55 []) (s1 p1 p2 p3 p4) := by
 unfold j1 at H
 rcases of_ite H with ⟨hb7, H⟩ | ⟨hb7, H⟩
 ·refine C1 hb7 ?_
  refine Ra ?_
  obtain rfl := Option.some.inj H
  exact LfO2 (by kernel_rfl)
 ·refine C0 hb7 ?_
  obtain ⟨y8, e9, H⟩ := of_bind H
  refine Rg V_ok 1 [(2, {sb := 2, res := some ⟨f_rule_PutO.S.rs, y8⟩})] (ac (f_rule_PutO.rl e9) az) ?_
  obtain ⟨n10, H⟩ := of_if H
  refine Rg V_ok 1 [(2, hb 3)] (ac n10 az) ?_
  obtain rfl := Option.some.inj H
  exact LfO2 (by kernel_rfl)
noncomputable def f (k : Nat) (a1 : T4414.T) : Option R :=
 (f_msg_May.f k a1).bind fun y1 =>
  if (!y1.1) = true then
   some ([], ((1 : Int), ()))
  else
   (f_octets_PutAllO.f k [a1.1, a1.2.1, a1.2.2.1, a1.2.2.2.1] [1, 3, 3, 2]).bind fun y4 =>
    if (y4.2.1 != (0 : Int)) = true then
     j1 k y4.2.1 true a1 y4.1
    else
     if 0 ≤ a1.1 then
      if a1.1 < (6 : Int) then
       j1 k y4.2.1 (!((att Ta655 glob0 a1.1).2).2) a1 y4.1
      else none
     else none
noncomputable def S : Spec := ⟨ps, rs, .any, some 5, fun x r => ∃ k, f k x.1 = some r⟩
theorem rl {k a1 r} (e : f k a1 = some r) : S.rel (a1, ()) r := ⟨k, e⟩
theorem f_ok {r k a1} (H : f k a1 = some r) : Gw P 0 (Q r) (Px c0 1 []) (⟨46, [(0, .cv (.agg (encC .any T4414 a1)))], []⟩) := by
 unfold f at H
 refine Rg V_ok 1 [(0, hb 0)] az ?_
 obtain ⟨y1, e2, H⟩ := of_bind H
 refine Rg V_ok 0 [(1, hr f_msg_May.S y1)] (ac (f_msg_May.rl e2) az) ?_
 rcases of_ite H with ⟨hb3, H⟩ | ⟨hb3, H⟩
 ·refine C1 hb3 ?_
  refine Ra ?_
  refine GT {gr := 1, ad := [.ownT 2 1 5 (.int .u8)], live := [2, 3], src := [some 1]} ?_
  obtain rfl := Option.some.inj H
  exact LfO2 (by kernel_rfl)
 ·refine C0 hb3 ?_
  obtain ⟨y4, e5, H⟩ := of_bind H
  refine Rg V_ok 1 [(10, {sb := 1, res := some ⟨f_octets_PutAllO.S.rs, y4⟩})] (ac (f_octets_PutAllO.rl e5) az) ?_
  rcases of_ite H with ⟨hb6, H⟩ | ⟨hb6, H⟩
  ·refine Rg V_ok 0 [(1, {bv := some true})] (ac hb6 az) ?_
   exact Jm (tn [1, 4, 5, 33] 2) (j1_ok H)
  ·obtain ⟨n11, H⟩ := of_if H
   obtain ⟨n12, H⟩ := of_if H
   refine Rg V_ok 0 [(1, {bv := some false})] (ac hb6 (ac n11 (ac n12 az))) ?_
   exact Jm (tn [1, 4, 5, 33] 2) (j1_ok H)
theorem fits : Fits P 63 S := fits_ofO2 V_ok func63 (by kernel_rfl) (by decide) (by decide) (fun x r ⟨k, H⟩ => of_G (f_ok H))
end f_msg_PutO

namespace f_frame_Seal
noncomputable def c0 : Code := bo f26
abbrev ps : Sg := [(true, T4414)]
abbrev rs : Sg := [(false, (.slice (.int .u8))), (false, (.int .i64))]
noncomputable def V : Env := eV [(63, f_msg_PutO.S), (64, f_octets_Sum.S)]
theorem V_ok : EnvOk P V := eOk (slk_cons f_msg_PutO.fits (slk_cons f_octets_Sum.fits (slk_nil)))
abbrev R := Tup rs
noncomputable abbrev Q (r : R) : Exit → St → Prop := Qr tt f26.results ⟨ps, rs, .any, none, fun _ _ => True⟩ r
noncomputable def s1 (p1 : List Int) : St := ⟨39, [(6, .cv (.one (.own 0)))], [(.buf 5 (.int .u8) p1, [])]⟩
noncomputable def j1 (k : Nat) (p1 : List Int) : Option R :=
 (f_octets_Sum.f k p1).bind fun y7 =>
 if (p1.length + 2) * 1 ≤ 140737488355328 then
  some ((p1 ++ [(IntKind.u8.wrap (Int.fdiv y7.1 (2 ^ (min (8 : Int).toNat (IntKind.i64.bits))))), (IntKind.u8.wrap y7.1)]), ((0 : Int), ()))
 else none
theorem j1_ok {r} {k p1} (H : j1 k p1 = some r) : Gw P 0 (Q r) (Px c0 63 []) (s1 p1) := by
 unfold j1 at H
 obtain ⟨y7, e8, H⟩ := of_bind H
 refine Rg V_ok 0 [(1, hr f_octets_Sum.S y7)] (ac (f_octets_Sum.rl e8) az) ?_
 obtain ⟨n9, H⟩ := of_if H
 refine Rg V_ok 1 [(7, hb 1)] (ac (show 0 ≤ (8 : Int) by decide) (ac n9 az)) ?_
 exact Le H
noncomputable def f (k : Nat) (a1 : T4414.T) : Option R :=
 (f_msg_PutO.f k a1).bind fun y1 =>
  if (y1.2.1 != (0 : Int)) = true then
   some ([], (y1.2.1, ()))
  else
   if (2 + y1.1.length) * 1 ≤ 140737488355328 then
    if ((Int.tmod (y1.1.length : Int) 2) == (1 : Int)) = true then
     if (([197, (IntKind.u8.wrap (y1.1.length : Int))] ++ y1.1).length + 1) * 1 ≤ 140737488355328 then
      j1 k (([197, (IntKind.u8.wrap (y1.1.length : Int))] ++ y1.1) ++ [0])
     else none
    else
     j1 k ([197, (IntKind.u8.wrap (y1.1.length : Int))] ++ y1.1)
   else none
noncomputable def S : Spec := ⟨ps, rs, .any, none, fun x r => ∃ k, f k x.1 = some r⟩
theorem rl {k a1 r} (e : f k a1 = some r) : S.rel (a1, ()) r := ⟨k, e⟩
theorem f_ok {r k a1} (H : f k a1 = some r) : Gw P 0 (Q r) (Px c0 1 []) (⟨39, [(0, .cv (.agg (encC .any T4414 a1)))], []⟩) := by
 unfold f at H
 refine Rg V_ok 1 [(0, hb 0)] az ?_
 obtain ⟨y1, e2, H⟩ := of_bind H
 refine Rg V_ok 1 [(1, {sb := 1, res := some ⟨f_msg_PutO.S.rs, y1⟩})] (ac (f_msg_PutO.rl e2) az) ?_
 refine Ra ?_
 rcases of_ite H with ⟨hb3, H⟩ | ⟨hb3, H⟩
 ·refine C1 hb3 ?_
  refine Ra ?_
  exact Le H
 ·refine C0 hb3 ?_
  obtain ⟨n4, H⟩ := of_if H
  refine Rg V_ok 2 [(3, {sb := 2, bo := true}), (5, hb 3)] (ac n4 az) ?_
  refine Rg V_ok 0 [] (ac (show (2 : Int) ≠ 0 by decide) az) ?_
  rcases of_ite H with ⟨hb5, H⟩ | ⟨hb5, H⟩
  ·refine C1 hb5 ?_
   obtain ⟨n6, H⟩ := of_if H
   refine Rg V_ok 1 [(2, hb 4)] (ac n6 az) ?_
   exact Jm (tl [6] [4]) (j1_ok H)
  ·refine C0 hb5 ?_
   exact Jm (tl [6] [3]) (j1_ok H)
theorem fits : Fits P 26 S := fitsA V_ok func26 fun x r ⟨k, H⟩ => of_G (f_ok H)
end f_frame_Seal

namespace f_control_New
noncomputable def c0 : Code := bo f15
abbrev ps : Sg := [(true, T5477)]
abbrev rs : Sg := [(true, T26b3)]
noncomputable def V : Env := eV []
theorem V_ok : EnvOk P V := eOk (slk_nil)
abbrev R := Tup rs
noncomputable abbrev Q (r : R) : Exit → St → Prop := Qr tt f15.results ⟨ps, rs, .any, none, fun _ _ => True⟩ r
noncomputable def f (k : Nat) (a1 : T5477.T) : Option R :=
 if 0 ≤ (if 100 < (if 0 > a1.1 then 0 else a1.1) then 100 else (if 0 > a1.1 then 0 else a1.1)) ∧ (if 100 < (if 0 > a1.1 then 0 else a1.1) then 100 else (if 0 > a1.1 then 0 else a1.1)) = (if 100 < (if 0 > a1.1 then 0 else a1.1) then 100 else (if 0 > a1.1 then 0 else a1.1)) ∧ (24 : Int) * (if 100 < (if 0 > a1.1 then 0 else a1.1) then 100 else (if 0 > a1.1 then 0 else a1.1)) ≤ 140737488355328 ∧ (if 100 < (if 0 > a1.1 then 0 else a1.1) then 100 else (if 0 > a1.1 then 0 else a1.1)) ≤ 140737488355328 then
  if 0 ≤ (if 100 < (if 0 > a1.1 then 0 else a1.1) then 100 else (if 0 > a1.1 then 0 else a1.1)) ∧ (if 100 < (if 0 > a1.1 then 0 else a1.1) then 100 else (if 0 > a1.1 then 0 else a1.1)) = (if 100 < (if 0 > a1.1 then 0 else a1.1) then 100 else (if 0 > a1.1 then 0 else a1.1)) ∧ (56 : Int) * (if 100 < (if 0 > a1.1 then 0 else a1.1) then 100 else (if 0 > a1.1 then 0 else a1.1)) ≤ 140737488355328 ∧ (if 100 < (if 0 > a1.1 then 0 else a1.1) then 100 else (if 0 > a1.1 then 0 else a1.1)) ≤ 140737488355328 then
   some (([(List.replicate (if 100 < (if 0 > a1.1 then 0 else a1.1) then 100 else (if 0 > a1.1 then 0 else a1.1)).toNat ([] : List T1383.T))], (0, (-1, (1, (0, (0, (0, ([], ((List.replicate (if 100 < (if 0 > a1.1 then 0 else a1.1) then 100 else (if 0 > a1.1 then 0 else a1.1)).toNat ((0, (0, (0, (0, [])))) : T23b6.T)), ([(1, 0)], ([], ([], 0)))))))))))), ())
  else none
 else none
noncomputable def S : Spec := ⟨ps, rs, .any, none, fun x r => ∃ k, f k x.1 = some r⟩
theorem rl {k a1 r} (e : f k a1 = some r) : S.rel (a1, ()) r := ⟨k, e⟩
theorem f_ok {r k a1} (H : f k a1 = some r) : Gw P 0 (Q r) (Px c0 1 []) (⟨16, [(0, .cv (.agg (encC .any T5477 a1)))], []⟩) := by
 unfold f at H
 refine Rg V_ok 2 [(0, hb 0), (1, hb 1)] az ?_
 refine Ra ?_
 obtain ⟨n1, H⟩ := of_if H
 obtain ⟨n2, H⟩ := of_if H
 refine Rg V_ok 1 [(1, ho), (4, hb 2)] (ac n1 (ac n2 az)) ?_
 exact Le H
theorem fits : Fits P 15 S := fitsA V_ok func15 fun x r ⟨k, H⟩ => of_G (f_ok H)
end f_control_New

namespace f_slices_Clone_Rule
noncomputable def c0 : Code := bo f77
abbrev ps : Sg := [(false, (.slice T1383))]
abbrev rs : Sg := [(false, (.slice T1383))]
noncomputable def V : Env := eV []
theorem V_ok : EnvOk P V := eOk (slk_nil)
abbrev R := Tup rs
noncomputable abbrev Q (r : R) : Exit → St → Prop := Qr tt f77.results ⟨ps, rs, .any, none, fun _ _ => True⟩ r
noncomputable def f (k : Nat) (a1 : List T1383.T) : Option R :=
 if (0 + a1.length) * 48 ≤ 140737488355328 then
  if 0 = 0 ∨ 0 < a1.length then
   some (([] ++ a1), ())
  else none
 else none
noncomputable def S : Spec := ⟨ps, rs, .any, none, fun x r => ∃ k, f k x.1 = some r⟩
theorem rl {k a1 r} (e : f k a1 = some r) : S.rel (a1, ()) r := ⟨k, e⟩
theorem f_ok {r k a1} (H : f k a1 = some r) : Gw P 0 (Q r) (Px c0 1 []) (⟨8, [(0, .cv (.one (.sl T1383 a1 .any)))], []⟩) := by
 unfold f at H
 refine Ra ?_
 refine NL (t := 0) (e := T1383) (xs := a1) (by kernel_rfl) (by kernel_rfl) (fun hx1 => ?_) ?_
 ·subst hx1
  replace H := Eq.trans (by kernel_rfl : (some ([], ()) : Option R) = _) H
  refine Ra ?_
  refine C1 rfl ?_
  refine Ra ?_
  exact Le H
 ·refine Ra ?_
  refine C0 rfl ?_
  obtain ⟨n2, H⟩ := of_if H
  obtain ⟨n3, H⟩ := of_if H
  refine Rg V_ok 1 [(2, hb 0)] (ac n2 (ac n3 az)) ?_
  exact Le H
theorem fits : Fits P 77 S := fitsA V_ok func77 fun x r ⟨k, H⟩ => of_G (f_ok H)
end f_slices_Clone_Rule

namespace f_slices_Clone_Msg
noncomputable def c0 : Code := bo f79
abbrev ps : Sg := [(false, (.slice T4414))]
abbrev rs : Sg := [(false, (.slice T4414))]
noncomputable def V : Env := eV []
theorem V_ok : EnvOk P V := eOk (slk_nil)
abbrev R := Tup rs
noncomputable abbrev Q (r : R) : Exit → St → Prop := Qr tt f79.results ⟨ps, rs, .any, none, fun _ _ => True⟩ r
noncomputable def f (k : Nat) (a1 : List T4414.T) : Option R :=
 if (0 + a1.length) * 80 ≤ 140737488355328 then
  if 0 = 0 ∨ 0 < a1.length then
   some (([] ++ a1), ())
  else none
 else none
noncomputable def S : Spec := ⟨ps, rs, .any, none, fun x r => ∃ k, f k x.1 = some r⟩
theorem rl {k a1 r} (e : f k a1 = some r) : S.rel (a1, ()) r := ⟨k, e⟩
theorem f_ok {r k a1} (H : f k a1 = some r) : Gw P 0 (Q r) (Px c0 1 []) (⟨8, [(0, .cv (.one (.sl T4414 a1 .any)))], []⟩) := by
 unfold f at H
 refine Ra ?_
 refine NL (t := 0) (e := T4414) (xs := a1) (by kernel_rfl) (by kernel_rfl) (fun hx1 => ?_) ?_
 ·subst hx1
  replace H := Eq.trans (by kernel_rfl : (some ([], ()) : Option R) = _) H
  refine Ra ?_
  refine C1 rfl ?_
  refine Ra ?_
  exact Le H
 ·refine Ra ?_
  refine C0 rfl ?_
  obtain ⟨n2, H⟩ := of_if H
  obtain ⟨n3, H⟩ := of_if H
  refine Rg V_ok 1 [(2, hb 0)] (ac n2 (ac n3 az)) ?_
  exact Le H
theorem fits : Fits P 79 S := fitsA V_ok func79 fun x r ⟨k, H⟩ => of_G (f_ok H)
end f_slices_Clone_Msg

namespace f_slices_Index_int
noncomputable def c0 : Code := bo f153
abbrev ps : Sg := [(false, (.slice (.int .i64))), (false, (.int .i64))]
abbrev rs : Sg := [(false, (.int .i64))]
noncomputable def V : Env := eV []
theorem V_ok : EnvOk P V := eOk (slk_nil)
abbrev R := Tup rs
noncomputable abbrev Q (r : R) : Exit → St → Prop := Qr tt f153.results ⟨ps, rs, .any, none, fun _ _ => True⟩ r
noncomputable def s1 (p1 : List Int) (p2 p3 p4 : Int) : St := ⟨19, [(0, .cv (.one (.sl (.int .i64) p1 .any))), (1, .cv (.one (.i p2))), (7, .cv (.one (.i p3))), (8, .cv (.one (.i p4)))], []⟩
noncomputable def b1 (L1 : List Int → Int → Int → Int → Option R) (k : Nat) (p1 : List Int) (p2 p3 p4 : Int) : Option R :=
 if (decide (p4 < p3)) = true then
 if 0 ≤ p4 then
  if p4 < (p1.length : Int) then
   if (p2 == (att (.int .i64) p1 p4)) = true then
    some (p4, ())
   else
    L1 p1 p2 p3 (IntKind.i64.wrap (p4 + 1))
  else none
 else none
else
 some ((-1 : Int), ())
theorem b1_ok {r} {L1 : List Int → Int → Int → Int → Option R} {m1 : Nat} (hL1 : ∀ p1 p2 p3 p4, L1 p1 p2 p3 p4 = some r → Gw P 0 (Q r) (Pb c0 21 [] m1) (s1 p1 p2 p3 p4)) {k p1 p2 p3 p4} (H : b1 L1 k p1 p2 p3 p4 = some r) : Gw P 0 (Q r) (Px c0 37 [m1]) (s1 p1 p2 p3 p4) := by
 unfold b1 at H
 refine Ra ?_
 rcases of_ite H with ⟨hb1, H⟩ | ⟨hb1, H⟩
 ·refine C1 hb1 ?_
  refine Ra ?_
  obtain ⟨n2, H⟩ := of_if H
  obtain ⟨n3, H⟩ := of_if H
  refine Rg V_ok 0 [] (ac n2 (ac n3 az)) ?_
  rcases of_ite H with ⟨hb4, H⟩ | ⟨hb4, H⟩
  ·refine C1 hb4 ?_
   refine Ra ?_
   exact Le H
  ·refine C0 hb4 ?_
   refine Ra ?_
   exact Jm (tn [0, 1, 7, 8] 0) (hL1 p1 p2 p3 (IntKind.i64.wrap (p4 + 1)) H)
 ·refine C0 hb1 ?_
  refine Ra ?_
  exact Le H
noncomputable def l1 (k : Nat) : Nat → List Int → Int → Int → Int → Option R
 | 0, _, _, _, _ => none
 | m + 1, p1, p2, p3, p4 => b1 (l1 k m) k p1 p2 p3 p4
theorem l1_ok {r} (k : Nat) : ∀ (m1 : Nat) (p1 : List Int) (p2 p3 : Int) (p4 : Int), l1 k m1 p1 p2 p3 p4 = some r → Gw P 0 (Q r) (Pb c0 21 [] m1) (s1 p1 p2 p3 p4)
 | 0, _, _, _, _, H => by cases H
 | m1 + 1, p1, p2, p3, p4, H => SU (by kernel_rfl) (b1_ok (l1_ok k m1) H)
noncomputable def f (k : Nat) (a1 : List Int) (a2 : Int) : Option R :=
 l1 k k a1 a2 (a1.length : Int) 0
noncomputable def S : Spec := ⟨ps, rs, .any, none, fun x r => ∃ k, f k x.1 x.2.1 = some r⟩
theorem rl {k a1 a2 r} (e : f k a1 a2 = some r) : S.rel (a1, a2, ()) r := ⟨k, e⟩
theorem f_ok {r k a1 a2} (H : f k a1 a2 = some r) : Gw P 0 (Q r) (Px c0 1 []) (⟨19, [(0, .cv (.one (.sl (.int .i64) a1 .any))), (1, .cv (.one (.i a2)))], []⟩) := by
 unfold f at H
 refine Ra ?_
 refine Ra ?_
 exact LP k (Jm (tn [0, 1, 7, 8] 0) (l1_ok k k a1 a2 (a1.length : Int) 0 H))
theorem fits : Fits P 153 S := fitsA V_ok func153 fun x r ⟨k, H⟩ => of_G (f_ok H)
end f_slices_Index_int

namespace f_slices_Contains_int
noncomputable def c0 : Code := bo f119
abbrev ps : Sg := [(false, (.slice (.int .i64))), (false, (.int .i64))]
abbrev rs : Sg := [(false, .bool)]
noncomputable def V : Env := eV [(153, f_slices_Index_int.S)]
theorem V_ok : EnvOk P V := eOk (slk_cons f_slices_Index_int.fits (slk_nil))
abbrev R := Tup rs
noncomputable abbrev Q (r : R) : Exit → St → Prop := Qr tt f119.results ⟨ps, rs, .any, none, fun _ _ => True⟩ r
noncomputable def f (k : Nat) (a1 : List Int) (a2 : Int) : Option R :=
 (f_slices_Index_int.f k a1 a2).bind fun y1 =>
  some ((decide (y1.1 ≥ (0 : Int))), ())
noncomputable def S : Spec := ⟨ps, rs, .any, none, fun x r => ∃ k, f k x.1 x.2.1 = some r⟩
theorem rl {k a1 a2 r} (e : f k a1 a2 = some r) : S.rel (a1, a2, ()) r := ⟨k, e⟩
theorem f_ok {r k a1 a2} (H : f k a1 a2 = some r) : Gw P 0 (Q r) (Px c0 1 []) (⟨9, [(0, .cv (.one (.sl (.int .i64) a1 .any))), (1, .cv (.one (.i a2)))], []⟩) := by
 unfold f at H
 refine Ra ?_
 obtain ⟨y1, e2, H⟩ := of_bind H
 refine Rg V_ok 0 [(2, hr f_slices_Index_int.S y1)] (ac (f_slices_Index_int.rl e2) az) ?_
 exact Le H
theorem fits : Fits P 119 S := fitsA V_ok func119 fun x r ⟨k, H⟩ => of_G (f_ok H)
end f_slices_Contains_int

namespace f_frame_unless
noncomputable def c0 : Code := bo f67
abbrev ps : Sg := [(false, .bool), (false, (.int .i64))]
abbrev rs : Sg := [(false, (.int .i64))]
noncomputable def V : Env := eV []
theorem V_ok : EnvOk P V := eOk (slk_nil)
abbrev R := Tup rs
noncomputable abbrev Q (r : R) : Exit → St → Prop := Qr tt f67.results ⟨ps, rs, .any, none, fun _ _ => True⟩ r
noncomputable def f (k : Nat) (a1 : Bool) (a2 : Int) : Option R :=
 if a1 = true then
  some (a2, ())
 else
  some ((0 : Int), ())
noncomputable def S : Spec := ⟨ps, rs, .any, none, fun x r => ∃ k, f k x.1 x.2.1 = some r⟩
theorem rl {k a1 a2 r} (e : f k a1 a2 = some r) : S.rel (a1, a2, ()) r := ⟨k, e⟩
theorem f_ok {r k a1 a2} (H : f k a1 a2 = some r) : Gw P 0 (Q r) (Px c0 1 []) (⟨7, [(0, .cv (.one (.bool a1))), (1, .cv (.one (.i a2)))], []⟩) := by
 unfold f at H
 refine Ra ?_
 refine Ra ?_
 rcases of_ite H with ⟨hb1, H⟩ | ⟨hb1, H⟩
 ·refine C1 hb1 ?_
  refine Ra ?_
  exact Le H
 ·refine C0 hb1 ?_
  refine Ra ?_
  exact Le H
theorem fits : Fits P 67 S := fitsA V_ok func67 fun x r ⟨k, H⟩ => of_G (f_ok H)
end f_frame_unless

namespace f_octets_Get
noncomputable def c0 : Code := bo f152
abbrev ps : Sg := [(false, (.slice (.int .u8))), (false, (.int .i64))]
abbrev rs : Sg := [(false, (.int .i64)), (false, (.int .i64))]
noncomputable def V : Env := eV [(162, f_octets_may.S)]
theorem V_ok : EnvOk P V := eOk (slk_cons f_octets_may.fits (slk_nil))
abbrev R := Tup rs
noncomputable abbrev Q (r : R) : Exit → St → Prop := Qr tt f152.results ⟨ps, rs, .any, none, fun _ _ => True⟩ r
noncomputable def s1 (p1 : Int) (p2 : List Int) (p3 p4 : Int) : St := ⟨34, [(6, .cv (.one (.int .u32 p1))), (20, .cv (.one (.sl (.int .u8) p2 .any))), (21, .cv (.one (.i p3))), (22, .cv (.one (.i p4)))], []⟩
noncomputable def b1 (L1 : Int → List Int → Int → Int → Option R) (k : Nat) (p1 : Int) (p2 : List Int) (p3 p4 : Int) : Option R :=
 if (decide (p4 < p3)) = true then
 if 0 ≤ p4 then
  if p4 < (p2.length : Int) then
   L1 (IntKind.u32.wrap (((BitVec.ofInt IntKind.u32.bits (IntKind.u32.wrap (p1 * (2 ^ (min (8 : Int).toNat (IntKind.u32.bits))))) ||| BitVec.ofInt IntKind.u32.bits (IntKind.u32.wrap (att (.int .u8) p2 p4))).toNat : Int))) p2 p3 (IntKind.i64.wrap (p4 + 1))
  else none
 else none
else
 some ((IntKind.i64.wrap p1), ((0 : Int), ()))
theorem b1_ok {r} {L1 : Int → List Int → Int → Int → Option R} {m1 : Nat} (hL1 : ∀ p1 p2 p3 p4, L1 p1 p2 p3 p4 = some r → Gw P 0 (Q r) (Pb c0 87 [] m1) (s1 p1 p2 p3 p4)) {k p1 p2 p3 p4} (H : b1 L1 k p1 p2 p3 p4 = some r) : Gw P 0 (Q r) (Px c0 151 [m1]) (s1 p1 p2 p3 p4) := by
 unfold b1 at H
 refine Ra ?_
 rcases of_ite H with ⟨hb6, H⟩ | ⟨hb6, H⟩
 ·refine C1 hb6 ?_
  obtain ⟨n7, H⟩ := of_if H
  obtain ⟨n8, H⟩ := of_if H
  refine Rg V_ok 0 [] (ac n7 (ac n8 az)) ?_
  refine Rg V_ok 0 [] (ac (show 0 ≤ (8 : Int) by decide) az) ?_
  refine Ra ?_
  exact Jm (tn [6, 20, 21, 22] 0) (hL1 (IntKind.u32.wrap (((BitVec.ofInt IntKind.u32.bits (IntKind.u32.wrap (p1 * (2 ^ (min (8 : Int).toNat (IntKind.u32.bits))))) ||| BitVec.ofInt IntKind.u32.bits (IntKind.u32.wrap (att (.int .u8) p2 p4))).toNat : Int))) p2 p3 (IntKind.i64.wrap (p4 + 1)) H)
 ·refine C0 hb6 ?_
  refine Ra ?_
  exact Le H
noncomputable def l1 (k : Nat) : Nat → Int → List Int → Int → Int → Option R
 | 0, _, _, _, _ => none
 | m + 1, p1, p2, p3, p4 => b1 (l1 k m) k p1 p2 p3 p4
theorem l1_ok {r} (k : Nat) : ∀ (m1 : Nat) (p1 : Int) (p2 : List Int) (p3 : Int) (p4 : Int), l1 k m1 p1 p2 p3 p4 = some r → Gw P 0 (Q r) (Pb c0 87 [] m1) (s1 p1 p2 p3 p4)
 | 0, _, _, _, _, H => by cases H
 | m1 + 1, p1, p2, p3, p4, H => SU (by kernel_rfl) (b1_ok (l1_ok k m1) H)
noncomputable def f (k : Nat) (a1 : List Int) (a2 : Int) : Option R :=
 (f_octets_may.f k a2).bind fun y1 =>
  if (!y1.1) = true then
   some ((0 : Int), ((1 : Int), ()))
  else
   if (decide ((a1.length : Int) < a2)) = true then
    some ((0 : Int), ((3 : Int), ()))
   else
    if 0 ≤ (0 : Int) ∧ (0 : Int) ≤ a2 ∧ a2 ≤ (a1.length : Int) then
     l1 k k 0 ((a1.take a2.toNat).drop (0 : Int).toNat) (((a1.take a2.toNat).drop (0 : Int).toNat).length : Int) 0
    else none
noncomputable def S : Spec := ⟨ps, rs, .any, none, fun x r => ∃ k, f k x.1 x.2.1 = some r⟩
theorem rl {k a1 a2 r} (e : f k a1 a2 = some r) : S.rel (a1, a2, ()) r := ⟨k, e⟩
theorem f_ok {r k a1 a2} (H : f k a1 a2 = some r) : Gw P 0 (Q r) (Px c0 1 []) (⟨34, [(0, .cv (.one (.sl (.int .u8) a1 .any))), (1, .cv (.one (.i a2)))], []⟩) := by
 unfold f at H
 refine Ra ?_
 obtain ⟨y1, e2, H⟩ := of_bind H
 refine Rg V_ok 0 [(1, hr f_octets_may.S y1)] (ac (f_octets_may.rl e2) az) ?_
 rcases of_ite H with ⟨hb3, H⟩ | ⟨hb3, H⟩
 ·refine C1 hb3 ?_
  refine Ra ?_
  exact Le H
 ·refine C0 hb3 ?_
  refine Ra ?_
  rcases of_ite H with ⟨hb4, H⟩ | ⟨hb4, H⟩
  ·refine C1 hb4 ?_
   refine Ra ?_
   exact Le H
  ·refine C0 hb4 ?_
   refine Ra ?_
   obtain ⟨n5, H⟩ := of_if H
   refine Rg V_ok 0 [] (ac n5 az) ?_
   exact LP k (Jm (tn [6, 20, 21, 22] 0) (l1_ok k k 0 ((a1.take a2.toNat).drop (0 : Int).toNat) (((a1.take a2.toNat).drop (0 : Int).toNat).length : Int) 0 H))
theorem fits : Fits P 152 S := fitsA V_ok func152 fun x r ⟨k, H⟩ => of_G (f_ok H)
end f_octets_Get

namespace f_octets_GetAll
noncomputable def c0 : Code := bo f116
abbrev ps : Sg := [(false, (.slice (.int .u8))), (false, (.slice (.int .i64)))]
abbrev rs : Sg := [(false, (.slice (.int .i64))), (false, (.int .i64)), (false, (.int .i64))]
noncomputable def V : Env := eV [(152, f_octets_Get.S)]
theorem V_ok : EnvOk P V := eOk (slk_cons f_octets_Get.fits (slk_nil))
abbrev R := Tup rs
noncomputable abbrev Q (r : R) : Exit → St → Prop := Qr tt f116.results ⟨ps, rs, .any, none, fun _ _ => True⟩ r
noncomputable def s1 (p1 p2 p3 : List Int) (p4 p5 : Int) (p6 : List Int) : St := ⟨43, [(0, .cv (.one (.sl (.int .u8) p1 .any))), (7, .cv (.one (.own 0))), (8, .cv (.one (.sl (.int .u8) p2 .any))), (14, .cv (.one (.sl (.int .i64) p3 .any))), (15, .cv (.one (.i p4))), (16, .cv (.one (.i p5)))], [(.buf 3 (.int .i64) p6, [])]⟩
noncomputable def b1 (L1 : List Int → List Int → List Int → Int → Int → List Int → Option R) (k : Nat) (p1 p2 p3 : List Int) (p4 p5 : Int) (p6 : List Int) : Option R :=
 if (decide (p5 < p4)) = true then
 if 0 ≤ p5 then
  if p5 < (p3.length : Int) then
   (f_octets_Get.f k p2 (att (.int .i64) p3 p5)).bind fun y4 =>
    if (y4.2.1 != (0 : Int)) = true then
     some ([], ((0 : Int), (y4.2.1, ())))
    else
     if (p6.length + 1) * 8 ≤ 140737488355328 then
      if 0 ≤ (att (.int .i64) p3 p5) ∧ (att (.int .i64) p3 p5) ≤ (p2.length : Int) ∧ (p2.length : Int) ≤ (p2.length : Int) then
       L1 p1 ((p2.take (p2.length : Int).toNat).drop (att (.int .i64) p3 p5).toNat) p3 p4 (IntKind.i64.wrap (p5 + 1)) (p6 ++ [y4.1])
      else none
     else none
  else none
 else none
else
 some (p6, ((IntKind.i64.wrap ((p1.length : Int) - (p2.length : Int))), ((0 : Int), ())))
theorem b1_ok {r} {L1 : List Int → List Int → List Int → Int → Int → List Int → Option R} {m1 : Nat} (hL1 : ∀ p1 p2 p3 p4 p5 p6, L1 p1 p2 p3 p4 p5 p6 = some r → Gw P 0 (Q r) (Pb c0 87 [] m1) (s1 p1 p2 p3 p4 p5 p6)) {k p1 p2 p3 p4 p5 p6} (H : b1 L1 k p1 p2 p3 p4 p5 p6 = some r) : Gw P 0 (Q r) (Px c0 151 [m1]) (s1 p1 p2 p3 p4 p5 p6) := by
 unfold b1 at H
 refine Ra ?_
 rcases of_ite H with ⟨hb1, H⟩ | ⟨hb1, H⟩
 ·refine C1 hb1 ?_
  obtain ⟨n2, H⟩ := of_if H
  obtain ⟨n3, H⟩ := of_if H
  refine Rg V_ok 0 [] (ac n2 (ac n3 az)) ?_
  obtain ⟨y4, e5, H⟩ := of_bind H
  refine Rg V_ok 0 [(2, hr f_octets_Get.S y4)] (ac (f_octets_Get.rl e5) az) ?_
  refine Ra ?_
  rcases of_ite H with ⟨hb6, H⟩ | ⟨hb6, H⟩
  ·refine C1 hb6 ?_
   refine Ra ?_
   exact Le H
  ·refine C0 hb6 ?_
   obtain ⟨n7, H⟩ := of_if H
   obtain ⟨n8, H⟩ := of_if H
   refine Rg V_ok 1 [(3, hb 1)] (ac n7 (ac n8 az)) ?_
   refine Ra ?_
   exact Jm (tl [0, 7, 8, 14, 15, 16] [1]) (hL1 p1 ((p2.take (p2.length : Int).toNat).drop (att (.int .i64) p3 p5).toNat) p3 p4 (IntKind.i64.wrap (p5 + 1)) (p6 ++ [y4.1]) H)
 ·refine C0 hb1 ?_
  refine Ra ?_
  exact Le H
noncomputable def l1 (k : Nat) : Nat → List Int → List Int → List Int → Int → Int → List Int → Option R
 | 0, _, _, _, _, _, _ => none
 | m + 1, p1, p2, p3, p4, p5, p6 => b1 (l1 k m) k p1 p2 p3 p4 p5 p6
theorem l1_ok {r} (k : Nat) : ∀ (m1 : Nat) (p1 p2 p3 : List Int) (p4 p5 : Int) (p6 : List Int), l1 k m1 p1 p2 p3 p4 p5 p6 = some r → Gw P 0 (Q r) (Pb c0 87 [] m1) (s1 p1 p2 p3 p4 p5 p6)
 | 0, _, _, _, _, _, _, H => by cases H
 | m1 + 1, p1, p2, p3, p4, p5, p6, H => SU (by kernel_rfl) (b1_ok (l1_ok k m1) H)
noncomputable def f (k : Nat) (a1 a2 : List Int) : Option R :=
 l1 k k a1 a1 a2 (a2.length : Int) 0 []
noncomputable def S : Spec := ⟨ps, rs, .any, none, fun x r => ∃ k, f k x.1 x.2.1 = some r⟩
theorem rl {k a1 a2 r} (e : f k a1 a2 = some r) : S.rel (a1, a2, ()) r := ⟨k, e⟩
theorem f_ok {r k a1 a2} (H : f k a1 a2 = some r) : Gw P 0 (Q r) (Px c0 1 []) (⟨43, [(0, .cv (.one (.sl (.int .u8) a1 .any))), (1, .cv (.one (.sl (.int .i64) a2 .any)))], []⟩) := by
 unfold f at H
 refine Ra ?_
 refine Ra ?_
 refine Ra ?_
 refine Ra ?_
 exact LP k (Jm {fz := [], gr := 1, ad := [.ownT 7 0 3 (.int .i64)], live := [0, 7, 8, 14, 15, 16], src := [some 0]} (l1_ok k k a1 a1 a2 (a2.length : Int) 0 [] H))
theorem fits : Fits P 116 S := fitsA V_ok func116 fun x r ⟨k, H⟩ => of_G (f_ok H)
end f_octets_GetAll

namespace f_rule_Get
noncomputable def c0 : Code := bo f117
abbrev ps : Sg := [(false, (.slice (.int .u8)))]
abbrev rs : Sg := [(true, T1383), (false, (.int .i64))]
noncomputable def V : Env := eV [(133, f_rule_May.S), (152, f_octets_Get.S)]
theorem V_ok : EnvOk P V := eOk (slk_cons f_rule_May.fits (slk_cons f_octets_Get.fits (slk_nil)))
abbrev R := Tup rs
noncomputable abbrev Q (r : R) : Exit → St → Prop := Qr tt f117.results ⟨ps, rs, .any, none, fun _ _ => True⟩ r
noncomputable def s1 (p1 : Bool) (p2 p3 : T1383.T) : St := ⟨50, [(2, .cv (.one (.ptr 0 0))), (6, .cv (.one (.ptr 1 0))), (47, .cv (.one (.bool p1)))], [(.box 6, (encC .any T1383 p2)), (.box 6, (encC .any T1383 p3))]⟩
noncomputable def j1 (k : Nat) (p1 : Bool) (p2 p3 : T1383.T) : Option R :=
 if p1 = true then
 some (((0, 0), (0, (0, (0, 0)))), ((2 : Int), ()))
else
 some (p3, ((0 : Int), ()))
theorem j1_ok {r} {k p1 p2 p3} (H : j1 k p1 p2 p3 = some r) : Gw P 0 (Q r) (Px c0 111 []) (s1 p1 p2 p3) := by
 unfold j1 at H
 rcases of_ite H with ⟨hb11, H⟩ | ⟨hb11, H⟩
 ·refine C1 hb11 ?_
  refine Ra ?_
  exact Le H
 ·refine C0 hb11 ?_
  refine Ra ?_
  exact Le H
noncomputable def f (k : Nat) (a1 : List Int) : Option R :=
 if (decide ((a1.length : Int) < (9 : Int))) = true then
  some (((0, 0), (0, (0, (0, 0)))), ((3 : Int), ()))
 else
  (f_octets_Get.f k a1 (4 : Int)).bind fun y2 =>
   if (4 : Int) < (a1.length : Int) then
    if (5 : Int) < (a1.length : Int) then
     if (6 : Int) < (a1.length : Int) then
      if (7 : Int) < (a1.length : Int) then
       if (8 : Int) < (a1.length : Int) then
        if (y2.2.1 != (0 : Int)) = true then
         j1 k true ((0, 0), (0, (0, (0, 0)))) ((y2.1, (IntKind.i64.wrap (att (.int .u8) a1 4))), ((IntKind.i64.wrap ((IntKind.i64.wrap (att (.int .u8) a1 5)) - 1)), ((IntKind.i64.wrap (att (.int .u8) a1 6)), ((IntKind.i64.wrap (att (.int .u8) a1 7)), (IntKind.i64.wrap (att (.int .u8) a1 8))))))
        else
         (f_rule_May.f k ((y2.1, (IntKind.i64.wrap (att (.int .u8) a1 4))), ((IntKind.i64.wrap ((IntKind.i64.wrap (att (.int .u8) a1 5)) - 1)), ((IntKind.i64.wrap (att (.int .u8) a1 6)), ((IntKind.i64.wrap (att (.int .u8) a1 7)), (IntKind.i64.wrap (att (.int .u8) a1 8))))))).bind fun y9 =>
          j1 k (!y9.1) ((0, 0), (0, (0, (0, 0)))) ((y2.1, (IntKind.i64.wrap (att (.int .u8) a1 4))), ((IntKind.i64.wrap ((IntKind.i64.wrap (att (.int .u8) a1 5)) - 1)), ((IntKind.i64.wrap (att (.int .u8) a1 6)), ((IntKind.i64.wrap (att (.int .u8) a1 7)), (IntKind.i64.wrap (att (.int .u8) a1 8))))))
       else none
      else none
     else none
    else none
   else none
noncomputable def S : Spec := ⟨ps, rs, .any, none, fun x r => ∃ k, f k x.1 = some r⟩
theorem rl {k a1 r} (e : f k a1 = some r) : S.rel (a1, ()) r := ⟨k, e⟩
theorem f_ok {r k a1} (H : f k a1 = some r) : Gw P 0 (Q r) (Px c0 1 []) (⟨50, [(0, .cv (.one (.sl (.int .u8) a1 .any)))], []⟩) := by
 unfold f at H
 refine Rg V_ok 1 [(0, hb 0)] az ?_
 refine Ra ?_
 rcases of_ite H with ⟨hb1, H⟩ | ⟨hb1, H⟩
 ·refine C1 hb1 ?_
  refine Ra ?_
  exact Le H
 ·refine C0 hb1 ?_
  obtain ⟨y2, e3, H⟩ := of_bind H
  refine Rg V_ok 0 [(1, hr f_octets_Get.S y2)] (ac (f_octets_Get.rl e3) az) ?_
  obtain ⟨n4, H⟩ := of_if H
  obtain ⟨n5, H⟩ := of_if H
  obtain ⟨n6, H⟩ := of_if H
  obtain ⟨n7, H⟩ := of_if H
  obtain ⟨n8, H⟩ := of_if H
  refine Rg V_ok 1 [(25, hb 1)] (ac (show 0 ≤ (4 : Int) by decide) (ac n4 (ac (show 0 ≤ (5 : Int) by decide) (ac n5 (ac (show 0 ≤ (6 : Int) by decide) (ac n6 (ac (show 0 ≤ (7 : Int) by decide) (ac n7 (ac (show 0 ≤ (8 : Int) by decide) (ac n8 az)))))))))) ?_
  rcases of_ite H with ⟨hb10, H⟩ | ⟨hb10, H⟩
  ·refine Rg V_ok 0 [(1, {bv := some true})] (ac hb10 az) ?_
   exact Jm (tn [2, 6, 47] 2) (j1_ok H)
  ·obtain ⟨y9, e12, H⟩ := of_bind H
   refine Rg V_ok 0 [(1, {bv := some false}), (4, hr f_rule_May.S y9)] (ac hb10 (ac (f_rule_May.rl e12) az)) ?_
   exact Jm (tn [2, 6, 47] 2) (j1_ok H)
theorem fits : Fits P 117 S := fitsA V_ok func117 fun x r ⟨k, H⟩ => of_G (f_ok H)
end f_rule_Get

namespace f_msg_Get
noncomputable def c0 : Code := bo f73
abbrev ps : Sg := [(false, (.slice (.int .u8)))]
abbrev rs : Sg := [(true, T4414), (false, (.int .i64))]
noncomputable def V : Env := eV [(113, f_msg_May.S), (116, f_octets_GetAll.S), (117, f_rule_Get.S)]
theorem V_ok : EnvOk P V := eOk (slk_cons f_msg_May.fits (slk_cons f_octets_GetAll.fits (slk_cons f_rule_Get.fits (slk_nil))))
abbrev R := Tup rs
noncomputable abbrev Q (r : R) : Exit → St → Prop := Qr tt f73.results ⟨ps, rs, .any, none, fun _ _ => True⟩ r
noncomputable def s1 (p1 : List Int) (p2 p3 : Int) (p4 p5 : T4414.T) : St := ⟨67, [(0, .cv (.one (.sl (.int .u8) p1 .any))), (2, .cv (.one (.ptr 0 0))), (5, .cv (.one (.i p2))), (7, .cv (.one (.ptr 1 0))), (8, .cv (.one (.i p3)))], [(.box 10, (encC .any T4414 p4)), (.box 10, (encC .any T4414 p5))]⟩
noncomputable def s2 (p1 p2 : T4414.T) : St := ⟨67, [(2, .cv (.one (.ptr 0 0))), (7, .cv (.one (.ptr 1 0)))], [(.box 10, (encC .any T4414 p1)), (.box 10, (encC .any T4414 p2))]⟩
noncomputable def j2 (k : Nat) (p1 p2 : T4414.T) : Option R :=
 (f_msg_May.f k p2).bind fun y16 =>
 if (!y16.1) = true then
  some ((0, (0, (0, (0, ((0, 0), (0, (0, (0, 0)))))))), ((2 : Int), ()))
 else
  some (p2, ((0 : Int), ()))
theorem j2_ok {r} {k p1 p2} (H : j2 k p1 p2 = some r) : Gw P 0 (Q r) (Px c0 255 []) (s2 p1 p2) := by
 unfold j2 at H
 obtain ⟨y16, e17, H⟩ := of_bind H
 refine Rg V_ok 0 [(1, hr f_msg_May.S y16)] (ac (f_msg_May.rl e17) az) ?_
 rcases of_ite H with ⟨hb18, H⟩ | ⟨hb18, H⟩
 ·refine C1 hb18 ?_
  refine Ra ?_
  exact Le H
 ·refine C0 hb18 ?_
  refine Ra ?_
  exact Le H
noncomputable def j1 (k : Nat) (p1 : List Int) (p2 p3 : Int) (p4 p5 : T4414.T) : Option R :=
 if (decide ((p1.length : Int) < p3)) = true then
 some ((0, (0, (0, (0, ((0, 0), (0, (0, (0, 0)))))))), ((3 : Int), ()))
else
 if (decide ((p1.length : Int) > p3)) = true then
  some ((0, (0, (0, (0, ((0, 0), (0, (0, (0, 0)))))))), ((2 : Int), ()))
 else
  if (p3 == (18 : Int)) = true then
   if 0 ≤ p2 ∧ p2 ≤ (p1.length : Int) ∧ (p1.length : Int) ≤ (p1.length : Int) then
    (f_rule_Get.f k ((p1.take (p1.length : Int).toNat).drop p2.toNat)).bind fun y12 =>
     if (y12.2.1 != (0 : Int)) = true then
      some ((0, (0, (0, (0, ((0, 0), (0, (0, (0, 0)))))))), ((2 : Int), ()))
     else
      j2 k p4 (p5.1, (p5.2.1, (p5.2.2.1, (p5.2.2.2.1, y12.1))))
   else none
  else
   j2 k p4 p5
theorem j1_ok {r} {k p1 p2 p3 p4 p5} (H : j1 k p1 p2 p3 p4 p5 = some r) : Gw P 0 (Q r) (Px c0 127 []) (s1 p1 p2 p3 p4 p5) := by
 unfold j1 at H
 refine Ra ?_
 rcases of_ite H with ⟨hb9, H⟩ | ⟨hb9, H⟩
 ·refine C1 hb9 ?_
  refine Ra ?_
  exact Le H
 ·refine C0 hb9 ?_
  refine Ra ?_
  rcases of_ite H with ⟨hb10, H⟩ | ⟨hb10, H⟩
  ·refine C1 hb10 ?_
   refine Ra ?_
   exact Le H
  ·refine C0 hb10 ?_
   refine Ra ?_
   rcases of_ite H with ⟨hb11, H⟩ | ⟨hb11, H⟩
   ·refine C1 hb11 ?_
    obtain ⟨n13, H⟩ := of_if H
    obtain ⟨y12, e14, H⟩ := of_bind H
    refine Rg V_ok 0 [(3, hr f_rule_Get.S y12)] (ac n13 (ac (f_rule_Get.rl e14) az)) ?_
    refine Ra ?_
    rcases of_ite H with ⟨hb15, H⟩ | ⟨hb15, H⟩
    ·refine C1 hb15 ?_
     refine Ra ?_
     exact Le H
    ·refine C0 hb15 ?_
     exact Jm (tn [2, 7] 2) (j2_ok H)
   ·refine C0 hb11 ?_
    exact Jm (tn [2, 7] 2) (j2_ok H)
noncomputable def f (k : Nat) (a1 : List Int) : Option R :=
 (f_octets_GetAll.f k a1 [1, 3, 3, 2]).bind fun y1 =>
  if (y1.2.2.1 != (0 : Int)) = true then
   some ((0, (0, (0, (0, ((0, 0), (0, (0, (0, 0)))))))), (y1.2.2.1, ()))
  else
   if (0 : Int) < (y1.1.length : Int) then
    if (1 : Int) < (y1.1.length : Int) then
     if (2 : Int) < (y1.1.length : Int) then
      if (3 : Int) < (y1.1.length : Int) then
       if ((att (.int .i64) y1.1 0) == (2 : Int)) = true then
        j1 k a1 y1.2.1 18 (0, (0, (0, (0, ((0, 0), (0, (0, (0, 0)))))))) ((att (.int .i64) y1.1 0), ((att (.int .i64) y1.1 1), ((att (.int .i64) y1.1 2), ((att (.int .i64) y1.1 3), ((0, 0), (0, (0, (0, 0))))))))
       else
        j1 k a1 y1.2.1 9 (0, (0, (0, (0, ((0, 0), (0, (0, (0, 0)))))))) ((att (.int .i64) y1.1 0), ((att (.int .i64) y1.1 1), ((att (.int .i64) y1.1 2), ((att (.int .i64) y1.1 3), ((0, 0), (0, (0, (0, 0))))))))
      else none
     else none
    else none
   else none
noncomputable def S : Spec := ⟨ps, rs, .any, none, fun x r => ∃ k, f k x.1 = some r⟩
theorem rl {k a1 r} (e : f k a1 = some r) : S.rel (a1, ()) r := ⟨k, e⟩
theorem f_ok {r k a1} (H : f k a1 = some r) : Gw P 0 (Q r) (Px c0 1 []) (⟨67, [(0, .cv (.one (.sl (.int .u8) a1 .any)))], []⟩) := by
 unfold f at H
 refine Rg V_ok 1 [(0, hb 0)] az ?_
 obtain ⟨y1, e2, H⟩ := of_bind H
 refine Rg V_ok 0 [(2, hr f_octets_GetAll.S y1)] (ac (f_octets_GetAll.rl e2) az) ?_
 refine Ra ?_
 rcases of_ite H with ⟨hb3, H⟩ | ⟨hb3, H⟩
 ·refine C1 hb3 ?_
  refine Ra ?_
  exact Le H
 ·refine C0 hb3 ?_
  obtain ⟨n4, H⟩ := of_if H
  obtain ⟨n5, H⟩ := of_if H
  obtain ⟨n6, H⟩ := of_if H
  obtain ⟨n7, H⟩ := of_if H
  refine Rg V_ok 1 [(13, hb 1)] (ac (show 0 ≤ (0 : Int) by decide) (ac n4 (ac (show 0 ≤ (1 : Int) by decide) (ac n5 (ac (show 0 ≤ (2 : Int) by decide) (ac n6 (ac (show 0 ≤ (3 : Int) by decide) (ac n7 az)))))))) ?_
  refine Ra ?_
  refine Ra ?_
  rcases of_ite H with ⟨hb8, H⟩ | ⟨hb8, H⟩
  ·refine C1 hb8 ?_
   refine Ra ?_
   exact Jm (tn [0, 2, 5, 7, 8] 2) (j1_ok H)
  ·refine C0 hb8 ?_
   exact Jm (tn [0, 2, 5, 7, 8] 2) (j1_ok H)
theorem fits : Fits P 73 S := fitsA V_ok func73 fun x r ⟨k, H⟩ => of_G (f_ok H)
end f_msg_Get

namespace i_frame_Open_2_2b5
noncomputable def c0 : Code := bo f66
noncomputable def V : Env := eV [(67, f_frame_unless.S)]
theorem V_ok : EnvOk P V := eOk (slk_cons f_frame_unless.fits (slk_nil))
noncomputable def h0 (p1 : List Int) (p2 : T4414.T) (p3 : Int) (l : Hl) : Hl := (.box 1, [.sl (.int .u8) p1 .any]) :: (.box 10, (encC .any T4414 p2)) :: (.box 1, [.i p3]) :: (.box 6, [.fn 66 [] [(0, 0)], .fn 68 [] [(0, 0), (2, 0)], .fn 69 [] [(0, 0), (4, 0)], .fn 70 [] [(0, 0), (4, 0)], .fn 71 [] [(0, 0)], .fn 72 [] [(2, 0), (0, 0)]]) :: (.box 1, [.fn 65 [] [(2, 0)]]) :: l
abbrev R := (Int) × Unit
noncomputable def s0 (p1 : List Int) (p2 : T4414.T) (p3 : Int) : St := ⟨6, [(0, .cv (.one (.ptr 0 0)))], (h0 p1 p2 p3 [])⟩
noncomputable def out (p1 : List Int) (p2 : T4414.T) (p3 : Int) (r : R) : St := ⟨6, [(1, .cv (.one (.i r.1)))], (h0 p1 p2 p3 [])⟩
abbrev Q (p1 : List Int) (p2 : T4414.T) (p3 : Int) (r : R) := CallQ 5 (out p1 p2 p3 r)
noncomputable def f (k : Nat) (p1 : List Int) (p2 : T4414.T) (p3 : Int) : Option R :=
 (f_frame_unless.f k (decide ((p1.length : Int) < (4 : Int))) (3 : Int)).bind fun y1 =>
  some (y1.1, ())
theorem f_ok {r k p1 p2 p3} (H : f k p1 p2 p3 = some r) : Gw P 5 (Q p1 p2 p3 r) (Px c0 1 []) (s0 p1 p2 p3) := by
 unfold f at H
 refine Ra ?_
 obtain ⟨y1, e2, H⟩ := of_bind H
 refine Rg V_ok 0 [(3, hr f_frame_unless.S y1)] (ac (f_frame_unless.rl e2) az) ?_
 obtain rfl := Option.some.inj H
 exact Lq (tn [1] 5)
theorem at_ : FnAt P 66 6 c0 f66.results := fnA func66
end i_frame_Open_2_2b5
namespace i_frame_Open_3_96f
noncomputable def c0 : Code := bo f68
noncomputable def V : Env := eV [(67, f_frame_unless.S)]
theorem V_ok : EnvOk P V := eOk (slk_cons f_frame_unless.fits (slk_nil))
noncomputable def h0 (l : Hl) : Hl := (.box 6, [.fn 66 [] [(0, 0)], .fn 68 [] [(0, 0), (2, 0)], .fn 69 [] [(0, 0), (4, 0)], .fn 70 [] [(0, 0), (4, 0)], .fn 71 [] [(0, 0)], .fn 72 [] [(2, 0), (0, 0)]]) :: (.box 1, [.fn 65 [] [(2, 0)]]) :: l
abbrev R := (Int) × (Int) × Unit
noncomputable def s0 (p1 : List Int) (p2 : T4414.T) (p3 : Int) : St := ⟨12, [(0, .cv (.one (.ptr 0 0))), (1, .cv (.one (.ptr 2 0)))], ((.box 1, [.sl (.int .u8) p1 .any]) :: (.box 10, (encC .any T4414 p2)) :: (.box 1, [.i p3]) :: (h0 []))⟩
noncomputable def out (p1 : List Int) (p2 : T4414.T) (p3 : Int) (r : R) : St := ⟨12, [(2, .cv (.one (.i r.1)))], ((.box 1, [.sl (.int .u8) p1 .any]) :: (.box 10, (encC .any T4414 p2)) :: (.box 1, [.i r.2.1]) :: (h0 []))⟩
abbrev Q (p1 : List Int) (p2 : T4414.T) (p3 : Int) (r : R) := CallQ 5 (out p1 p2 p3 r)
noncomputable def f (k : Nat) (p1 : List Int) (p2 : T4414.T) (p3 : Int) : Option R :=
 if (1 : Int) < (p1.length : Int) then
  if (0 : Int) < (p1.length : Int) then
   (f_frame_unless.f k ((att (.int .u8) p1 0) != (197 : Int)) (2 : Int)).bind fun y2 =>
    some (y2.1, ((IntKind.i64.wrap (att (.int .u8) p1 1)), ()))
  else none
 else none
theorem f_ok {r k p1 p2 p3} (H : f k p1 p2 p3 = some r) : Gw P 5 (Q p1 p2 p3 r) (Px c0 1 []) (s0 p1 p2 p3) := by
 unfold f at H
 refine Ra ?_
 obtain ⟨n1, H⟩ := of_if H
 refine Rg V_ok 0 [] (ac (show 0 ≤ (1 : Int) by decide) (ac n1 az)) ?_
 obtain ⟨n3, H⟩ := of_if H
 obtain ⟨y2, e4, H⟩ := of_bind H
 refine Rg V_ok 0 [(4, hr f_frame_unless.S y2)] (ac (show 0 ≤ (0 : Int) by decide) (ac n3 (ac (f_frame_unless.rl e4) az))) ?_
 obtain rfl := Option.some.inj H
 exact Lq (tn [2] 5)
theorem at_ : FnAt P 68 12 c0 f68.results := fnA func68
end i_frame_Open_3_96f
namespace i_frame_Open_1_da9
noncomputable def c0 : Code := bo f65
noncomputable def V : Env := eV []
theorem V_ok : EnvOk P V := eOk (slk_nil)
noncomputable def h0 (p1 : List Int) (p2 : T4414.T) (p3 : Int) (l : Hl) : Hl := (.box 1, [.sl (.int .u8) p1 .any]) :: (.box 10, (encC .any T4414 p2)) :: (.box 1, [.i p3]) :: (.box 1, [.fn 65 [] [(2, 0)]]) :: (.box 6, [.fn 66 [] [(0, 0)], .fn 68 [] [(0, 0), (2, 0)], .fn 69 [] [(0, 0), (3, 0)], .fn 70 [] [(0, 0), (3, 0)], .fn 71 [] [(0, 0)], .fn 72 [] [(2, 0), (0, 0)]]) :: l
abbrev R := (Int) × Unit
noncomputable def s0 (p1 : List Int) (p2 : T4414.T) (p3 : Int) : St := ⟨8, [(0, .cv (.one (.ptr 2 0)))], (h0 p1 p2 p3 [])⟩
noncomputable def out (p1 : List Int) (p2 : T4414.T) (p3 : Int) (r : R) : St := ⟨8, [(1, .cv (.one (.i r.1)))], (h0 p1 p2 p3 [])⟩
abbrev Q (p1 : List Int) (p2 : T4414.T) (p3 : Int) (r : R) := CallQ 5 (out p1 p2 p3 r)
noncomputable def f (k : Nat) (p1 : List Int) (p2 : T4414.T) (p3 : Int) : Option R :=
 some ((IntKind.i64.wrap ((IntKind.i64.wrap ((IntKind.i64.wrap (2 + p3)) + (Int.tmod p3 2))) + 2)), ())
theorem f_ok {r k p1 p2 p3} (H : f k p1 p2 p3 = some r) : Gw P 5 (Q p1 p2 p3 r) (Px c0 1 []) (s0 p1 p2 p3) := by
 unfold f at H
 refine Ra ?_
 refine Rg V_ok 0 [] (ac (show (2 : Int) ≠ 0 by decide) az) ?_
 obtain rfl := Option.some.inj H
 exact Lq (tn [1] 5)
theorem at_ : FnAt P 65 8 c0 f65.results := fnA func65
end i_frame_Open_1_da9
namespace i_frame_Open_4_316
noncomputable def c0 : Code := bo f69
noncomputable def V : Env := eV [(67, f_frame_unless.S)]
theorem V_ok : EnvOk P V := eOk (slk_cons f_frame_unless.fits (slk_nil))
noncomputable def h0 (p1 : List Int) (p2 : T4414.T) (p3 : Int) (l : Hl) : Hl := (.box 1, [.sl (.int .u8) p1 .any]) :: (.box 10, (encC .any T4414 p2)) :: (.box 1, [.i p3]) :: (.box 1, [.fn 65 [] [(2, 0)]]) :: (.box 6, [.fn 66 [] [(0, 0)], .fn 68 [] [(0, 0), (2, 0)], .fn 69 [] [(0, 0), (3, 0)], .fn 70 [] [(0, 0), (3, 0)], .fn 71 [] [(0, 0)], .fn 72 [] [(2, 0), (0, 0)]]) :: l
abbrev R := (Int) × Unit
noncomputable def s0 (p1 : List Int) (p2 : T4414.T) (p3 : Int) : St := ⟨9, [(0, .cv (.one (.ptr 0 0))), (1, .cv (.one (.ptr 3 0)))], (h0 p1 p2 p3 [])⟩
noncomputable def out (p1 : List Int) (p2 : T4414.T) (p3 : Int) (r : R) : St := ⟨9, [(2, .cv (.one (.i r.1)))], (h0 p1 p2 p3 [])⟩
abbrev Q (p1 : List Int) (p2 : T4414.T) (p3 : Int) (r : R) := CallQ 5 (out p1 p2 p3 r)
noncomputable def f (k : Nat) (p1 : List Int) (p2 : T4414.T) (p3 : Int) : Option R :=
 (i_frame_Open_1_da9.f k p1 p2 p3).bind fun y1 =>
  (f_frame_unless.f k (decide ((p1.length : Int) < y1.1)) (3 : Int)).bind fun y3 =>
    some (y3.1, ())
theorem f_ok {r k p1 p2 p3} (H : f k p1 p2 p3 = some r) : Gw P 5 (Q p1 p2 p3 r) (Px c0 1 []) (s0 p1 p2 p3) := by
 unfold f at H
 refine Ra ?_
 obtain ⟨y1, e2, H⟩ := of_bind H
 obtain ⟨y3, e4, H⟩ := of_bind H
 let x : Nx := (Px c0 5 [])
 let t0 : St := ⟨9, [(0, .cv (.one (.ptr 0 0))), (1, .cv (.one (.ptr 3 0)))], (h0 p1 p2 p3 [])⟩
 refine Jm (x' := x) (τ := t0) (tn [0, 1] 5) ?_
 let Φ := phiX P 5 (Q p1 p2 p3 r) x
 let o := fun (k m : Nat) (t : St) => WA P 5 (opsX x) k (bs 7 m) Φ t
 let t1 : St := stpS V x 0 [] 0 (tn [0, 1, 3] 5) t0
 let t2 : St := stpS V x 0 [] 2 (tn [0, 1, 5] 5) t0
 let t3 : St := stpS V x 0 [] 1 (tn [0, 1, 4] 5) t1
 let t4 : St := stpS V x 0 [] 2 (tn [0, 1, 3, 5] 5) t1
 let u0 : St := i_frame_Open_1_da9.out p1 p2 p3 y1
 let t5 : St := clT V.tt x 3 f65.results (tn [0, 1, 6] 5) t2 u0
 let t6 : St := stpS V x 0 [] 2 (tn [0, 1, 4, 5] 5) t3
 let t7 : St := clT V.tt x 3 f65.results (tn [0, 1, 3, 6] 5) t4 u0
 let t8 : St := clT V.tt x 3 f65.results (tn [0, 1, 4, 6] 5) t6 u0
 let t9 : St := stpS V x 0 [] 4 (tn [0, 1, 7] 5) t8
 let t10 : St := stpS V x 0 [(5, hr f_frame_unless.S y3)] 5 (tn [0, 1, 8] 5) t9
 let t11 : St := stpS V x 0 [] 6 (tn [2] 5) t10
 have w11 : o 0 127 t11 := by
  refine WA_nil (by kernel_rfl) (RAn (by kernel_rfl) ?_)
  obtain rfl := Option.some.inj H
  exact Lq (tn [2] 5)
 have w10 : o 1 63 t10 := Wt az w11
 have w9 : o 2 31 t9 := WAs (an (We (ac (f_frame_unless.rl e4) az) w10) aN)
 have w8 : o 3 15 t8 := WAs (an (We az w9) aN)
 have w7 : o 4 13 t7 := WAs (an (WE V_ok 0 [] 1 (tn [0, 1, 4, 6] 5) az w8) aN)
 have w6 : o 4 7 t6 := WAs (an (Wc V_ok i_frame_Open_1_da9.at_ (of_G (i_frame_Open_1_da9.f_ok e2)) w8) aN)
 have w5 : o 5 12 t5 := WAs (an (WE V_ok 0 [] 0 (tn [0, 1, 3, 6] 5) az w7) aN)
 have w4 : o 5 5 t4 := WAs (an (WE V_ok 0 [] 1 (tn [0, 1, 4, 5] 5) az w6) (an (Wc V_ok i_frame_Open_1_da9.at_ (of_G (i_frame_Open_1_da9.f_ok e2)) w7) aN))
 have w3 : o 5 3 t3 := WAs (an (We az w6) aN)
 have w2 : o 6 4 t2 := WAs (an (WE V_ok 0 [] 0 (tn [0, 1, 3, 5] 5) az w4) (an (Wc V_ok i_frame_Open_1_da9.at_ (of_G (i_frame_Open_1_da9.f_ok e2)) w5) aN))
 have w1 : o 6 1 t1 := WAs (an (We az w3) (an (We az w4) aN))
 have w0 : o 7 0 t0 := WAs (an (We az w1) (an (We az w2) aN))
 exact RA V_ok 7 (by kernel_rfl) (by kernel_rfl) (by kernel_rfl) w0
theorem at_ : FnAt P 69 9 c0 f69.results := fnA func69
end i_frame_Open_4_316
namespace i_frame_Open_5_316
noncomputable def c0 : Code := bo f70
noncomputable def V : Env := eV [(67, f_frame_unless.S)]
theorem V_ok : EnvOk P V := eOk (slk_cons f_frame_unless.fits (slk_nil))
noncomputable def h0 (p1 : List Int) (p2 : T4414.T) (p3 : Int) (l : Hl) : Hl := (.box 1, [.sl (.int .u8) p1 .any]) :: (.box 10, (encC .any T4414 p2)) :: (.box 1, [.i p3]) :: (.box 1, [.fn 65 [] [(2, 0)]]) :: (.box 6, [.fn 66 [] [(0, 0)], .fn 68 [] [(0, 0), (2, 0)], .fn 69 [] [(0, 0), (3, 0)], .fn 70 [] [(0, 0), (3, 0)], .fn 71 [] [(0, 0)], .fn 72 [] [(2, 0), (0, 0)]]) :: l
abbrev R := (Int) × Unit
noncomputable def s0 (p1 : List Int) (p2 : T4414.T) (p3 : Int) : St := ⟨9, [(0, .cv (.one (.ptr 0 0))), (1, .cv (.one (.ptr 3 0)))], (h0 p1 p2 p3 [])⟩
noncomputable def out (p1 : List Int) (p2 : T4414.T) (p3 : Int) (r : R) : St := ⟨9, [(2, .cv (.one (.i r.1)))], (h0 p1 p2 p3 [])⟩
abbrev Q (p1 : List Int) (p2 : T4414.T) (p3 : Int) (r : R) := CallQ 5 (out p1 p2 p3 r)
noncomputable def f (k : Nat) (p1 : List Int) (p2 : T4414.T) (p3 : Int) : Option R :=
 (i_frame_Open_1_da9.f k p1 p2 p3).bind fun y1 =>
  (f_frame_unless.f k (decide ((p1.length : Int) > y1.1)) (2 : Int)).bind fun y3 =>
    some (y3.1, ())
theorem f_ok {r k p1 p2 p3} (H : f k p1 p2 p3 = some r) : Gw P 5 (Q p1 p2 p3 r) (Px c0 1 []) (s0 p1 p2 p3) := by
 unfold f at H
 refine Ra ?_
 obtain ⟨y1, e2, H⟩ := of_bind H
 obtain ⟨y3, e4, H⟩ := of_bind H
 let x : Nx := (Px c0 5 [])
 let t0 : St := ⟨9, [(0, .cv (.one (.ptr 0 0))), (1, .cv (.one (.ptr 3 0)))], (h0 p1 p2 p3 [])⟩
 refine Jm (x' := x) (τ := t0) (tn [0, 1] 5) ?_
 let Φ := phiX P 5 (Q p1 p2 p3 r) x
 let o := fun (k m : Nat) (t : St) => WA P 5 (opsX x) k (bs 7 m) Φ t
 let t1 : St := stpS V x 0 [] 0 (tn [0, 1, 3] 5) t0
 let t2 : St := stpS V x 0 [] 2 (tn [0, 1, 5] 5) t0
 let t3 : St := stpS V x 0 [] 1 (tn [0, 1, 4] 5) t1
 let t4 : St := stpS V x 0 [] 2 (tn [0, 1, 3, 5] 5) t1
 let u0 : St := i_frame_Open_1_da9.out p1 p2 p3 y1
 let t5 : St := clT V.tt x 3 f65.results (tn [0, 1, 6] 5) t2 u0
 let t6 : St := stpS V x 0 [] 2 (tn [0, 1, 4, 5] 5) t3
 let t7 : St := clT V.tt x 3 f65.results (tn [0, 1, 3, 6] 5) t4 u0
 let t8 : St := clT V.tt x 3 f65.results (tn [0, 1, 4, 6] 5) t6 u0
 let t9 : St := stpS V x 0 [] 4 (tn [0, 1, 7] 5) t8
 let t10 : St := stpS V x 0 [(5, hr f_frame_unless.S y3)] 5 (tn [0, 1, 8] 5) t9
 let t11 : St := stpS V x 0 [] 6 (tn [2] 5) t10
 have w11 : o 0 127 t11 := by
  refine WA_nil (by kernel_rfl) (RAn (by kernel_rfl) ?_)
  obtain rfl := Option.some.inj H
  exact Lq (tn [2] 5)
 have w10 : o 1 63 t10 := Wt az w11
 have w9 : o 2 31 t9 := WAs (an (We (ac (f_frame_unless.rl e4) az) w10) aN)
 have w8 : o 3 15 t8 := WAs (an (We az w9) aN)
 have w7 : o 4 13 t7 := WAs (an (WE V_ok 0 [] 1 (tn [0, 1, 4, 6] 5) az w8) aN)
 have w6 : o 4 7 t6 := WAs (an (Wc V_ok i_frame_Open_1_da9.at_ (of_G (i_frame_Open_1_da9.f_ok e2)) w8) aN)
 have w5 : o 5 12 t5 := WAs (an (WE V_ok 0 [] 0 (tn [0, 1, 3, 6] 5) az w7) aN)
 have w4 : o 5 5 t4 := WAs (an (WE V_ok 0 [] 1 (tn [0, 1, 4, 5] 5) az w6) (an (Wc V_ok i_frame_Open_1_da9.at_ (of_G (i_frame_Open_1_da9.f_ok e2)) w7) aN))
 have w3 : o 5 3 t3 := WAs (an (We az w6) aN)
 have w2 : o 6 4 t2 := WAs (an (WE V_ok 0 [] 0 (tn [0, 1, 3, 5] 5) az w4) (an (Wc V_ok i_frame_Open_1_da9.at_ (of_G (i_frame_Open_1_da9.f_ok e2)) w5) aN))
 have w1 : o 6 1 t1 := WAs (an (We az w3) (an (We az w4) aN))
 have w0 : o 7 0 t0 := WAs (an (We az w1) (an (We az w2) aN))
 exact RA V_ok 7 (by kernel_rfl) (by kernel_rfl) (by kernel_rfl) w0
theorem at_ : FnAt P 70 9 c0 f70.results := fnA func70
end i_frame_Open_5_316
namespace i_frame_Open_6_2b5
noncomputable def c0 : Code := bo f71
noncomputable def V : Env := eV [(64, f_octets_Sum.S), (67, f_frame_unless.S)]
theorem V_ok : EnvOk P V := eOk (slk_cons f_octets_Sum.fits (slk_cons f_frame_unless.fits (slk_nil)))
noncomputable def h0 (p1 : List Int) (p2 : T4414.T) (p3 : Int) (l : Hl) : Hl := (.box 1, [.sl (.int .u8) p1 .any]) :: (.box 10, (encC .any T4414 p2)) :: (.box 1, [.i p3]) :: (.box 6, [.fn 66 [] [(0, 0)], .fn 68 [] [(0, 0), (2, 0)], .fn 69 [] [(0, 0), (4, 0)], .fn 70 [] [(0, 0), (4, 0)], .fn 71 [] [(0, 0)], .fn 72 [] [(2, 0), (0, 0)]]) :: (.box 1, [.fn 65 [] [(2, 0)]]) :: l
abbrev R := (Int) × Unit
noncomputable def s0 (p1 : List Int) (p2 : T4414.T) (p3 : Int) : St := ⟨6, [(0, .cv (.one (.ptr 0 0)))], (h0 p1 p2 p3 [])⟩
noncomputable def out (p1 : List Int) (p2 : T4414.T) (p3 : Int) (r : R) : St := ⟨6, [(1, .cv (.one (.i r.1)))], (h0 p1 p2 p3 [])⟩
abbrev Q (p1 : List Int) (p2 : T4414.T) (p3 : Int) (r : R) := CallQ 5 (out p1 p2 p3 r)
noncomputable def f (k : Nat) (p1 : List Int) (p2 : T4414.T) (p3 : Int) : Option R :=
 (f_octets_Sum.f k p1).bind fun y1 =>
  (f_frame_unless.f k (y1.1 != (0 : Int)) (4 : Int)).bind fun y2 =>
   some (y2.1, ())
theorem f_ok {r k p1 p2 p3} (H : f k p1 p2 p3 = some r) : Gw P 5 (Q p1 p2 p3 r) (Px c0 1 []) (s0 p1 p2 p3) := by
 unfold f at H
 refine Ra ?_
 obtain ⟨y1, e3, H⟩ := of_bind H
 obtain ⟨y2, e4, H⟩ := of_bind H
 refine Rg V_ok 0 [(1, hr f_octets_Sum.S y1), (3, hr f_frame_unless.S y2)] (ac (f_octets_Sum.rl e3) (ac (f_frame_unless.rl e4) az)) ?_
 obtain rfl := Option.some.inj H
 exact Lq (tn [1] 5)
theorem at_ : FnAt P 71 6 c0 f71.results := fnA func71
end i_frame_Open_6_2b5
namespace i_frame_Open_7_0bb
noncomputable def c0 : Code := bo f72
noncomputable def V : Env := eV [(67, f_frame_unless.S)]
theorem V_ok : EnvOk P V := eOk (slk_cons f_frame_unless.fits (slk_nil))
noncomputable def h0 (p1 : List Int) (p2 : T4414.T) (p3 : Int) (l : Hl) : Hl := (.box 1, [.sl (.int .u8) p1 .any]) :: (.box 10, (encC .any T4414 p2)) :: (.box 1, [.i p3]) :: (.box 6, [.fn 66 [] [(0, 0)], .fn 68 [] [(0, 0), (2, 0)], .fn 69 [] [(0, 0), (4, 0)], .fn 70 [] [(0, 0), (4, 0)], .fn 71 [] [(0, 0)], .fn 72 [] [(2, 0), (0, 0)]]) :: (.box 1, [.fn 65 [] [(2, 0)]]) :: l
abbrev R := (Int) × Unit
noncomputable def s0 (p1 : List Int) (p2 : T4414.T) (p3 : Int) : St := ⟨15, [(0, .cv (.one (.ptr 2 0))), (1, .cv (.one (.ptr 0 0)))], (h0 p1 p2 p3 [])⟩
noncomputable def out (p1 : List Int) (p2 : T4414.T) (p3 : Int) (r : R) : St := ⟨15, [(2, .cv (.one (.i r.1)))], (h0 p1 p2 p3 [])⟩
abbrev Q (p1 : List Int) (p2 : T4414.T) (p3 : Int) (r : R) := CallQ 5 (out p1 p2 p3 r)
noncomputable def f (k : Nat) (p1 : List Int) (p2 : T4414.T) (p3 : Int) : Option R :=
 if ((Int.tmod p3 2) == (1 : Int)) = true then
  if 0 ≤ (IntKind.i64.wrap (2 + p3)) then
   if (IntKind.i64.wrap (2 + p3)) < (p1.length : Int) then
    (f_frame_unless.f k ((att (.int .u8) p1 (IntKind.i64.wrap (2 + p3))) != (0 : Int)) (2 : Int)).bind fun y1 =>
     some (y1.1, ())
   else none
  else none
 else
  (f_frame_unless.f k false (2 : Int)).bind fun y1 =>
   some (y1.1, ())
theorem f_ok {r k p1 p2 p3} (H : f k p1 p2 p3 = some r) : Gw P 5 (Q p1 p2 p3 r) (Px c0 1 []) (s0 p1 p2 p3) := by
 unfold f at H
 refine Ra ?_
 rcases of_ite H with ⟨hb2, H⟩ | ⟨hb2, H⟩
 ·obtain ⟨n3, H⟩ := of_if H
  obtain ⟨n4, H⟩ := of_if H
  obtain ⟨y1, e5, H⟩ := of_bind H
  refine Rg V_ok 0 [(2, {bv := some true}), (11, hr f_frame_unless.S y1)] (ac (show (2 : Int) ≠ 0 by decide) (ac hb2 (ac n3 (ac n4 (ac (f_frame_unless.rl e5) az))))) ?_
  obtain rfl := Option.some.inj H
  exact Lq (tn [2] 5)
 ·obtain ⟨y1, e6, H⟩ := of_bind H
  refine Rg V_ok 0 [(2, {bv := some false}), (11, hr f_frame_unless.S y1)] (ac (show (2 : Int) ≠ 0 by decide) (ac hb2 (ac (f_frame_unless.rl e6) az))) ?_
  obtain rfl := Option.some.inj H
  exact Lq (tn [2] 5)
theorem at_ : FnAt P 72 15 c0 f72.results := fnA func72
end i_frame_Open_7_0bb
namespace f_frame_Open
noncomputable def c0 : Code := bo f27
abbrev ps : Sg := [(false, (.slice (.int .u8)))]
abbrev rs : Sg := [(true, T4414), (false, (.int .i64))]
noncomputable def V : Env := eV [(73, f_msg_Get.S)]
theorem V_ok : EnvOk P V := eOk (slk_cons f_msg_Get.fits (slk_nil))
abbrev R := Tup rs
noncomputable abbrev Q (r : R) : Exit → St → Prop := Qr tt f27.results ⟨ps, rs, .any, none, fun _ _ => True⟩ r
noncomputable def f (k : Nat) (a1 : List Int) : Option R :=
 (i_frame_Open_2_2b5.f k a1 (0, (0, (0, (0, ((0, 0), (0, (0, (0, 0)))))))) (0 : Int)).bind fun y1 =>
  if (y1.1 != (0 : Int)) = true then
   some ((0, (0, (0, (0, ((0, 0), (0, (0, (0, 0)))))))), (y1.1, ()))
  else
   (i_frame_Open_3_96f.f k a1 (0, (0, (0, (0, ((0, 0), (0, (0, (0, 0)))))))) (0 : Int)).bind fun y4 =>
    if (y4.1 != (0 : Int)) = true then
     some ((0, (0, (0, (0, ((0, 0), (0, (0, (0, 0)))))))), (y4.1, ()))
    else
     (i_frame_Open_4_316.f k a1 (0, (0, (0, (0, ((0, 0), (0, (0, (0, 0)))))))) y4.2.1).bind fun y7 =>
      if (y7.1 != (0 : Int)) = true then
       some ((0, (0, (0, (0, ((0, 0), (0, (0, (0, 0)))))))), (y7.1, ()))
      else
       (i_frame_Open_5_316.f k a1 (0, (0, (0, (0, ((0, 0), (0, (0, (0, 0)))))))) y4.2.1).bind fun y10 =>
        if (y10.1 != (0 : Int)) = true then
         some ((0, (0, (0, (0, ((0, 0), (0, (0, (0, 0)))))))), (y10.1, ()))
        else
         (i_frame_Open_6_2b5.f k a1 (0, (0, (0, (0, ((0, 0), (0, (0, (0, 0)))))))) y4.2.1).bind fun y13 =>
          if (y13.1 != (0 : Int)) = true then
           some ((0, (0, (0, (0, ((0, 0), (0, (0, (0, 0)))))))), (y13.1, ()))
          else
           (i_frame_Open_7_0bb.f k a1 (0, (0, (0, (0, ((0, 0), (0, (0, (0, 0)))))))) y4.2.1).bind fun y16 =>
            if (y16.1 != (0 : Int)) = true then
             some ((0, (0, (0, (0, ((0, 0), (0, (0, (0, 0)))))))), (y16.1, ()))
            else
             if 0 ≤ (2 : Int) ∧ (2 : Int) ≤ (IntKind.i64.wrap (2 + y4.2.1)) ∧ (IntKind.i64.wrap (2 + y4.2.1)) ≤ (a1.length : Int) then
              (f_msg_Get.f k ((a1.take (IntKind.i64.wrap (2 + y4.2.1)).toNat).drop (2 : Int).toNat)).bind fun y19 =>
               some (y19.1, (y19.2.1, ()))
             else none
noncomputable def S : Spec := ⟨ps, rs, .any, none, fun x r => ∃ k, f k x.1 = some r⟩
theorem rl {k a1 r} (e : f k a1 = some r) : S.rel (a1, ()) r := ⟨k, e⟩
theorem f_ok {r k a1} (H : f k a1 = some r) : Gw P 0 (Q r) (Px c0 1 []) (⟨35, [(0, .cv (.one (.sl (.int .u8) a1 .any)))], []⟩) := by
 unfold f at H
 refine Rg V_ok 2 [(0, hb 0), (1, hb 1)] az ?_
 refine Rg V_ok 1 [(0, hb 2)] az ?_
 refine Rg V_ok 1 [(1, hb 3)] az ?_
 refine Rg V_ok 1 [(6, hb 4)] az ?_
 refine GT (tl [1, 2, 4, 15, 16, 17] [0, 1, 2, 4, 3]) (LP 31 (UN ?_))
 refine Ra ?_
 refine C1 rfl ?_
 refine Rg V_ok 0 [] (ac (show 0 ≤ (0 : Int) by decide) (ac (show (0 : Int) < (6 : Int) by decide) az)) ?_
 refine GT (tn [1, 2, 4, 7, 15, 16, 17] 5) (RI ?_)
 refine EV V_ok 0 [] 1 az ?_
 obtain ⟨y1, e2, H⟩ := of_bind H
 refine CL V_ok i_frame_Open_2_2b5.at_ (of_G (i_frame_Open_2_2b5.f_ok e2)) ?_
 refine EV V_ok 0 [] 1 az ?_
 refine RN ?_
 refine Ra ?_
 rcases of_ite H with ⟨hb3, H⟩ | ⟨hb3, H⟩
 ·refine C1 hb3 ?_
  refine Ra ?_
  exact Le H
 ·refine C0 hb3 ?_
  refine Ra ?_
  refine GT (tn [1, 2, 4, 15, 16, 17] 5) (UN ?_)
  refine Ra ?_
  refine C1 rfl ?_
  refine Rg V_ok 0 [] (ac (show 0 ≤ (1 : Int) by decide) (ac (show (1 : Int) < (6 : Int) by decide) az)) ?_
  refine GT (tn [1, 2, 4, 7, 15, 16, 17] 5) (RI ?_)
  refine EV V_ok 0 [] 1 az ?_
  obtain ⟨y4, e5, H⟩ := of_bind H
  refine CL V_ok i_frame_Open_3_96f.at_ (of_G (i_frame_Open_3_96f.f_ok e5)) ?_
  refine EV V_ok 0 [] 1 az ?_
  refine RN ?_
  refine Ra ?_
  rcases of_ite H with ⟨hb6, H⟩ | ⟨hb6, H⟩
  ·refine C1 hb6 ?_
   refine Ra ?_
   exact Le H
  ·refine C0 hb6 ?_
   refine Ra ?_
   refine GT (tn [1, 2, 4, 15, 16, 17] 5) (UN ?_)
   refine Ra ?_
   refine C1 rfl ?_
   refine Rg V_ok 0 [] (ac (show 0 ≤ (2 : Int) by decide) (ac (show (2 : Int) < (6 : Int) by decide) az)) ?_
   refine GT (tl [1, 2, 4, 7, 15, 16, 17] [0, 1, 2, 4, 3]) (RI ?_)
   refine EV V_ok 0 [] 1 az ?_
   obtain ⟨y7, e8, H⟩ := of_bind H
   refine CL V_ok i_frame_Open_4_316.at_ (of_G (i_frame_Open_4_316.f_ok e8)) ?_
   refine EV V_ok 0 [] 1 az ?_
   refine RN ?_
   refine Ra ?_
   rcases of_ite H with ⟨hb9, H⟩ | ⟨hb9, H⟩
   ·refine C1 hb9 ?_
    refine Ra ?_
    exact Le H
   ·refine C0 hb9 ?_
    refine Ra ?_
    refine GT (tl [1, 2, 4, 15, 16, 17] [0, 1, 2, 4, 3]) (UN ?_)
    refine Ra ?_
    refine C1 rfl ?_
    refine Rg V_ok 0 [] (ac (show 0 ≤ (3 : Int) by decide) (ac (show (3 : Int) < (6 : Int) by decide) az)) ?_
    refine GT (tl [1, 2, 4, 7, 15, 16, 17] [0, 1, 2, 4, 3]) (RI ?_)
    refine EV V_ok 0 [] 1 az ?_
    obtain ⟨y10, e11, H⟩ := of_bind H
    refine CL V_ok i_frame_Open_5_316.at_ (of_G (i_frame_Open_5_316.f_ok e11)) ?_
    refine EV V_ok 0 [] 1 az ?_
    refine RN ?_
    refine Ra ?_
    rcases of_ite H with ⟨hb12, H⟩ | ⟨hb12, H⟩
    ·refine C1 hb12 ?_
     refine Ra ?_
     exact Le H
    ·refine C0 hb12 ?_
     refine Ra ?_
     refine GT (tl [1, 2, 4, 15, 16, 17] [0, 1, 2, 4, 3]) (UN ?_)
     refine Ra ?_
     refine C1 rfl ?_
     refine Rg V_ok 0 [] (ac (show 0 ≤ (4 : Int) by decide) (ac (show (4 : Int) < (6 : Int) by decide) az)) ?_
     refine GT (tn [1, 2, 4, 7, 15, 16, 17] 5) (RI ?_)
     refine EV V_ok 0 [] 1 az ?_
     obtain ⟨y13, e14, H⟩ := of_bind H
     refine CL V_ok i_frame_Open_6_2b5.at_ (of_G (i_frame_Open_6_2b5.f_ok e14)) ?_
     refine EV V_ok 0 [] 1 az ?_
     refine RN ?_
     refine Ra ?_
     rcases of_ite H with ⟨hb15, H⟩ | ⟨hb15, H⟩
     ·refine C1 hb15 ?_
      refine Ra ?_
      exact Le H
     ·refine C0 hb15 ?_
      refine Ra ?_
      refine GT (tn [1, 2, 4, 15, 16, 17] 5) (UN ?_)
      refine Ra ?_
      refine C1 rfl ?_
      refine Rg V_ok 0 [] (ac (show 0 ≤ (5 : Int) by decide) (ac (show (5 : Int) < (6 : Int) by decide) az)) ?_
      refine GT (tn [1, 2, 4, 7, 15, 16, 17] 5) (RI ?_)
      refine EV V_ok 0 [] 1 az ?_
      obtain ⟨y16, e17, H⟩ := of_bind H
      refine CL V_ok i_frame_Open_7_0bb.at_ (of_G (i_frame_Open_7_0bb.f_ok e17)) ?_
      refine EV V_ok 0 [] 1 az ?_
      refine RN ?_
      refine Ra ?_
      rcases of_ite H with ⟨hb18, H⟩ | ⟨hb18, H⟩
      ·refine C1 hb18 ?_
       refine Ra ?_
       exact Le H
      ·refine C0 hb18 ?_
       refine Ra ?_
       refine GT (tn [1, 2, 4, 15, 16, 17] 5) (UN ?_)
       refine Ra ?_
       refine C0 rfl ?_
       obtain ⟨n20, H⟩ := of_if H
       obtain ⟨y19, e21, H⟩ := of_bind H
       refine Rg V_ok 0 [(4, hr f_msg_Get.S y19)] (ac n20 (ac (f_msg_Get.rl e21) az)) ?_
       exact Le H
theorem fits : Fits P 27 S := fitsA V_ok func27 fun x r ⟨k, H⟩ => of_G (f_ok H)
end f_frame_Open

namespace f_sess_New
noncomputable def c0 : Code := bo f86
abbrev ps : Sg := [(false, (.int .i64))]
abbrev rs : Sg := [(true, Tb104)]
noncomputable def V : Env := eV []
theorem V_ok : EnvOk P V := eOk (slk_nil)
abbrev R := Tup rs
noncomputable abbrev Q (r : R) : Exit → St → Prop := Qr tt f86.results ⟨ps, rs, .any, none, fun _ _ => True⟩ r
noncomputable def f (k : Nat) (a1 : Int) : Option R :=
 some ((a1, (1, [])), ())
noncomputable def S : Spec := ⟨ps, rs, .any, none, fun x r => ∃ k, f k x.1 = some r⟩
theorem rl {k a1 r} (e : f k a1 = some r) : S.rel (a1, ()) r := ⟨k, e⟩
theorem f_ok {r k a1} (H : f k a1 = some r) : Gw P 0 (Q r) (Px c0 1 []) (⟨5, [(0, .cv (.one (.i a1)))], []⟩) := by
 unfold f at H
 refine Rg V_ok 1 [(0, hb 0)] az ?_
 refine Ra ?_
 exact Le H
theorem fits : Fits P 86 S := fitsA V_ok func86 fun x r ⟨k, H⟩ => of_G (f_ok H)
end f_sess_New

namespace f_conf_At
noncomputable def c0 : Code := bo f44
abbrev ps : Sg := [(false, (.slice (.slice T1383))), (false, (.int .i64))]
abbrev rs : Sg := [(false, (.slice T1383))]
noncomputable def V : Env := eV [(77, f_slices_Clone_Rule.S)]
theorem V_ok : EnvOk P V := eOk (slk_cons f_slices_Clone_Rule.fits (slk_nil))
abbrev R := Tup rs
noncomputable abbrev Q (r : R) : Exit → St → Prop := Qr tt f44.results ⟨ps, rs, .any, none, fun _ _ => True⟩ r
noncomputable def s1 (a1 : List (List T1383.T)) (a2 : Int) (p3 : Bool) : St := ⟨18, [(0, .cv (.one (.sl (.slice T1383) a1 .any))), (1, .cv (.one (.i a2))), (12, .cv (.one (.bool p3)))], []⟩
noncomputable def j1 (a1 : List (List T1383.T)) (a2 : Int) (k : Nat) (p3 : Bool) : Option R :=
 if p3 = true then
 some ([], ())
else
 if 0 ≤ a2 then
  if a2 < (a1.length : Int) then
   (f_slices_Clone_Rule.f k (att (.slice T1383) a1 a2)).bind fun y3 =>
    some (y3.1, ())
  else none
 else none
theorem j1_ok {r a1 a2} {k p3} (H : j1 a1 a2 k p3 = some r) : Gw P 0 (Q r) (Px c0 13 []) (s1 a1 a2 p3) := by
 unfold j1 at H
 rcases of_ite H with ⟨hb2, H⟩ | ⟨hb2, H⟩
 ·refine C1 hb2 ?_
  refine Ra ?_
  exact Le H
 ·refine C0 hb2 ?_
  obtain ⟨n4, H⟩ := of_if H
  obtain ⟨n5, H⟩ := of_if H
  obtain ⟨y3, e6, H⟩ := of_bind H
  refine Rg V_ok 0 [(4, hr f_slices_Clone_Rule.S y3)] (ac n4 (ac n5 (ac (f_slices_Clone_Rule.rl e6) az))) ?_
  exact Le H
noncomputable def f (k : Nat) (a1 : List (List T1383.T)) (a2 : Int) : Option R :=
 if (decide (a2 < (0 : Int))) = true then
  j1 a1 a2 k true
 else
  j1 a1 a2 k (decide (a2 ≥ (a1.length : Int)))
noncomputable def S : Spec := ⟨ps, rs, .any, none, fun x r => ∃ k, f k x.1 x.2.1 = some r⟩
theorem rl {k a1 a2 r} (e : f k a1 a2 = some r) : S.rel (a1, a2, ()) r := ⟨k, e⟩
theorem f_ok {r k a1 a2} (H : f k a1 a2 = some r) : Gw P 0 (Q r) (Px c0 1 []) (⟨18, [(0, .cv (.one (.sl (.slice T1383) a1 .any))), (1, .cv (.one (.i a2)))], []⟩) := by
 unfold f at H
 refine Ra ?_
 rcases of_ite H with ⟨hb1, H⟩ | ⟨hb1, H⟩
 ·refine Rg V_ok 0 [(1, {bv := some true})] (ac hb1 az) ?_
  exact Jm (tn [0, 1, 12] 0) (j1_ok H)
 ·refine Rg V_ok 0 [(1, {bv := some false})] (ac hb1 az) ?_
  exact Jm (tn [0, 1, 12] 0) (j1_ok H)
theorem fits : Fits P 44 S := fitsA V_ok func44 fun x r ⟨k, H⟩ => of_G (f_ok H)
end f_conf_At

namespace i_plan_Adds_1_5da
noncomputable def c0 : Code := bo f142
noncomputable def V : Env := eV []
theorem V_ok : EnvOk P V := eOk (slk_nil)
abbrev R := (List T4414.T) × Unit
noncomputable def s0 (p1 : T1383.T) (p2 : Int) (p3 : T1383.T) (p4 : List T4414.T) : St := ⟨10, [(0, .cv (.agg (encC .any T1383 p1))), (1, .cv (.one (.ptr 1 0))), (2, .cv (.one (.ptr 0 0)))], [(.box 1, [.i p2]), (.box 1, [.own 3]), (.box 6, (encC .any T1383 p3)), (.buf 66 T4414 p4, [])]⟩
noncomputable def out (p1 : T1383.T) (p2 : Int) (p3 : T1383.T) (p4 : List T4414.T) (r : R) : St := ⟨10, [], [(.box 1, [.i p2]), (.box 1, [.own 4]), (.box 6, (encC .any T1383 p3)), (.dead, []), (.buf 66 T4414 r.1, [])]⟩
abbrev Q (p1 : T1383.T) (p2 : Int) (p3 : T1383.T) (p4 : List T4414.T) (r : R) := CallQ 4 (out p1 p2 p3 p4 r)
noncomputable def f (k : Nat) (p1 : T1383.T) (p2 : Int) (p3 : T1383.T) (p4 : List T4414.T) : Option R :=
 if (p4.length + 1) * 80 ≤ 140737488355328 then
  some ((p4 ++ [(2, (0, (0, (p2, p1))))]), ())
 else none
theorem f_ok {r k p1 p2 p3 p4} (H : f k p1 p2 p3 p4 = some r) : Gw P 4 (Q p1 p2 p3 p4 r) (Px c0 1 []) (s0 p1 p2 p3 p4) := by
 unfold f at H
 refine Rg V_ok 1 [(0, hb 4)] az ?_
 obtain ⟨n1, H⟩ := of_if H
 refine Rg V_ok 1 [(5, hb 5)] (ac n1 az) ?_
 obtain rfl := Option.some.inj H
 exact Lq (tl [] [0, 1, 2, 3, 5])
theorem at_ : FnAt P 142 10 c0 f142.results := fnA func142
end i_plan_Adds_1_5da
namespace i_plan_many_Rule_do_2f5
noncomputable def c0 : Code := bo f141
noncomputable def V : Env := eV []
theorem V_ok : EnvOk P V := eOk (slk_nil)
abbrev R := (Int) × (List T4414.T) × Unit
noncomputable def s0 (p1 : List T1383.T) (p2 : Int) : St := ⟨16, [(0, .cv (.one (.sl T1383 p1 .any))), (1, .cv (.one (.fn 142 [] [(1, 0), (0, 0)])))], [(.box 1, [.i p2]), (.box 1, [.nils])]⟩
noncomputable def out (r : R) : St := ⟨16, [], [(.box 1, [.i r.1]), (.box 1, [.own 2]), (.buf 66 T4414 r.2.1, [])]⟩
abbrev Q (r : R) := CallQ 2 (out r)
noncomputable def s1 (p1 : List T1383.T) (p2 p3 p4 : Int) (p5 : List T4414.T) : St := ⟨16, [(1, .cv (.one (.fn 142 [] [(1, 0), (0, 0)]))), (6, .cv (.one (.sl T1383 p1 .any))), (7, .cv (.one (.i p2))), (8, .cv (.one (.i p3)))], [(.box 1, [.i p4]), (.box 1, [.own 2]), (.buf 66 T4414 p5, [])]⟩
noncomputable def b1 (L1 : List T1383.T → Int → Int → Int → List T4414.T → Option R) (k : Nat) (p1 : List T1383.T) (p2 p3 p4 : Int) (p5 : List T4414.T) : Option R :=
 if (decide (p3 < p2)) = true then
 if 0 ≤ p3 then
  if p3 < (p1.length : Int) then
   (i_plan_Adds_1_5da.f k (att T1383 p1 p3) p4 (att T1383 p1 p3) p5).bind fun y4 =>
    L1 p1 p2 (IntKind.i64.wrap (p3 + 1)) p4 y4.1
  else none
 else none
else
 some (p4, (p5, ()))
theorem b1_ok {r} {L1 : List T1383.T → Int → Int → Int → List T4414.T → Option R} {m1 : Nat} (hL1 : ∀ p1 p2 p3 p4 p5, L1 p1 p2 p3 p4 p5 = some r → Gw P 2 (Q r) (Pb c0 5 [] m1) (s1 p1 p2 p3 p4 p5)) {k p1 p2 p3 p4 p5} (H : b1 L1 k p1 p2 p3 p4 p5 = some r) : Gw P 2 (Q r) (Px c0 9 [m1]) (s1 p1 p2 p3 p4 p5) := by
 unfold b1 at H
 refine Ra ?_
 rcases of_ite H with ⟨hb1, H⟩ | ⟨hb1, H⟩
 ·refine C1 hb1 ?_
  obtain ⟨n2, H⟩ := of_if H
  obtain ⟨n3, H⟩ := of_if H
  refine Rg V_ok 1 [(2, hb 3)] (ac n2 (ac n3 az)) ?_
  refine GT (tl [1, 5, 6, 7, 8] [0, 1, 3, 2]) (RI ?_)
  refine EV V_ok 0 [] 2 az ?_
  obtain ⟨y4, e5, H⟩ := of_bind H
  refine CL V_ok i_plan_Adds_1_5da.at_ (of_G (i_plan_Adds_1_5da.f_ok e5)) ?_
  refine RN ?_
  refine Ra ?_
  exact Jm (tl [1, 6, 7, 8] [0, 1, 4]) (hL1 p1 p2 (IntKind.i64.wrap (p3 + 1)) p4 y4.1 H)
 ·refine C0 hb1 ?_
  obtain rfl := Option.some.inj H
  exact Lq (tn [] 3)
noncomputable def l1 (k : Nat) : Nat → List T1383.T → Int → Int → Int → List T4414.T → Option R
 | 0, _, _, _, _, _ => none
 | m + 1, p1, p2, p3, p4, p5 => b1 (l1 k m) k p1 p2 p3 p4 p5
theorem l1_ok {r} (k : Nat) : ∀ (m1 : Nat) (p1 : List T1383.T) (p2 p3 p4 : Int) (p5 : List T4414.T), l1 k m1 p1 p2 p3 p4 p5 = some r → Gw P 2 (Q r) (Pb c0 5 [] m1) (s1 p1 p2 p3 p4 p5)
 | 0, _, _, _, _, _, H => by cases H
 | m1 + 1, p1, p2, p3, p4, p5, H => SU (by kernel_rfl) (b1_ok (l1_ok k m1) H)
noncomputable def f (k : Nat) (p1 : List T1383.T) (p2 : Int) : Option R :=
 l1 k k p1 (p1.length : Int) 0 p2 []
theorem f_ok {r k p1 p2} (H : f k p1 p2 = some r) : Gw P 2 (Q r) (Px c0 1 []) (s0 p1 p2) := by
 unfold f at H
 refine Ra ?_
 exact LP k (Jm {fz := [], gr := 1, ad := [.ownC 1 0 2 66 T4414], live := [1, 6, 7, 8], src := [some 0, some 1, some 2]} (l1_ok k k p1 (p1.length : Int) 0 p2 [] H))
theorem at_ : FnAt P 141 16 c0 f141.results := fnA func141
end i_plan_many_Rule_do_2f5
namespace f_plan_Adds
noncomputable def c0 : Code := bo f101
abbrev ps : Sg := [(false, (.int .i64)), (false, (.slice T1383))]
abbrev rs : Sg := [(false, (.slice T4414))]
noncomputable def V : Env := eV []
theorem V_ok : EnvOk P V := eOk (slk_nil)
abbrev R := Tup rs
noncomputable abbrev Q (r : R) : Exit → St → Prop := Qr tt f101.results ⟨ps, rs, .any, none, fun _ _ => True⟩ r
noncomputable def f (k : Nat) (a1 : Int) (a2 : List T1383.T) : Option R :=
 (i_plan_many_Rule_do_2f5.f k a2 a1).bind fun y1 =>
  some (y1.2.1, ())
noncomputable def S : Spec := ⟨ps, rs, .any, none, fun x r => ∃ k, f k x.1 x.2.1 = some r⟩
theorem rl {k a1 a2 r} (e : f k a1 a2 = some r) : S.rel (a1, a2, ()) r := ⟨k, e⟩
theorem f_ok {r k a1 a2} (H : f k a1 a2 = some r) : Gw P 0 (Q r) (Px c0 1 []) (⟨10, [(0, .cv (.one (.i a1))), (1, .cv (.one (.sl T1383 a2 .any)))], []⟩) := by
 unfold f at H
 refine Rg V_ok 1 [(0, hb 0)] az ?_
 refine Rg V_ok 1 [(0, hb 1)] az ?_
 refine GT (tn [1, 2, 5] 2) (RI ?_)
 refine EV V_ok 0 [] 2 az ?_
 obtain ⟨y1, e2, H⟩ := of_bind H
 refine CL V_ok i_plan_many_Rule_do_2f5.at_ (of_G (i_plan_many_Rule_do_2f5.f_ok e2)) ?_
 refine RN ?_
 refine Ra ?_
 exact Le H
theorem fits : Fits P 101 S := fitsA V_ok func101 fun x r ⟨k, H⟩ => of_G (f_ok H)
end f_plan_Adds

namespace i_plan_Sync_1_a74
noncomputable def c0 : Code := bo f123
noncomputable def V : Env := eV [(101, f_plan_Adds.S)]
theorem V_ok : EnvOk P V := eOk (slk_cons f_plan_Adds.fits (slk_nil))
abbrev R := (List T4414.T) × Unit
noncomputable def s0 (p1 p2 : T814c.T) (p3 : List T4414.T) : St := ⟨10, [(0, .cv (.agg [.i p1.1, .sl T1383 p1.2 .any])), (1, .cv (.one (.ptr 0 0)))], [(.box 1, [.own 2]), (.box 2, [.i p2.1, .sl T1383 p2.2 .any]), (.buf 66 T4414 p3, [])]⟩
noncomputable def out (p1 p2 : T814c.T) (p3 : List T4414.T) (r : R) : St := ⟨10, [], [(.box 1, [.own 3]), (.box 2, [.i p2.1, .sl T1383 p2.2 .any]), (.dead, []), (.buf 66 T4414 r.1, [])]⟩
abbrev Q (p1 p2 : T814c.T) (p3 : List T4414.T) (r : R) := CallQ 3 (out p1 p2 p3 r)
noncomputable def f (k : Nat) (p1 p2 : T814c.T) (p3 : List T4414.T) : Option R :=
 (f_plan_Adds.f k p1.1 p1.2).bind fun y1 =>
  if (p3.length + y1.1.length) * 80 ≤ 140737488355328 then
   some ((p3 ++ y1.1), ())
  else none
theorem f_ok {r k p1 p2 p3} (H : f k p1 p2 p3 = some r) : Gw P 3 (Q p1 p2 p3 r) (Px c0 1 []) (s0 p1 p2 p3) := by
 unfold f at H
 refine Rg V_ok 1 [(0, hb 3)] az ?_
 obtain ⟨y1, e2, H⟩ := of_bind H
 obtain ⟨n3, H⟩ := of_if H
 refine Rg V_ok 1 [(5, hr f_plan_Adds.S y1), (6, hb 4)] (ac (f_plan_Adds.rl e2) (ac n3 az)) ?_
 obtain rfl := Option.some.inj H
 exact Lq (tl [] [0, 1, 2, 4])
theorem at_ : FnAt P 123 10 c0 f123.results := fnA func123
end i_plan_Sync_1_a74
namespace i_plan_many_Ver_do_d01
noncomputable def c0 : Code := bo f122
noncomputable def V : Env := eV []
theorem V_ok : EnvOk P V := eOk (slk_nil)
abbrev R := (List T4414.T) × Unit
noncomputable def s0 (p1 : List T814c.T) : St := ⟨16, [(0, .cv (.one (.sl T814c p1 .any))), (1, .cv (.one (.fn 123 [] [(0, 0)])))], [(.box 1, [.nils])]⟩
noncomputable def out (r : R) : St := ⟨16, [], [(.box 1, [.own 1]), (.buf 66 T4414 r.1, [])]⟩
abbrev Q (r : R) := CallQ 1 (out r)
noncomputable def s1 (p1 : List T814c.T) (p2 p3 : Int) (p4 : List T4414.T) : St := ⟨16, [(1, .cv (.one (.fn 123 [] [(0, 0)]))), (6, .cv (.one (.sl T814c p1 .any))), (7, .cv (.one (.i p2))), (8, .cv (.one (.i p3)))], [(.box 1, [.own 1]), (.buf 66 T4414 p4, [])]⟩
noncomputable def b1 (L1 : List T814c.T → Int → Int → List T4414.T → Option R) (k : Nat) (p1 : List T814c.T) (p2 p3 : Int) (p4 : List T4414.T) : Option R :=
 if (decide (p3 < p2)) = true then
 if 0 ≤ p3 then
  if p3 < (p1.length : Int) then
   (i_plan_Sync_1_a74.f k (att T814c p1 p3) (att T814c p1 p3) p4).bind fun y4 =>
    L1 p1 p2 (IntKind.i64.wrap (p3 + 1)) y4.1
  else none
 else none
else
 some (p4, ())
theorem b1_ok {r} {L1 : List T814c.T → Int → Int → List T4414.T → Option R} {m1 : Nat} (hL1 : ∀ p1 p2 p3 p4, L1 p1 p2 p3 p4 = some r → Gw P 1 (Q r) (Pb c0 5 [] m1) (s1 p1 p2 p3 p4)) {k p1 p2 p3 p4} (H : b1 L1 k p1 p2 p3 p4 = some r) : Gw P 1 (Q r) (Px c0 9 [m1]) (s1 p1 p2 p3 p4) := by
 unfold b1 at H
 refine Ra ?_
 rcases of_ite H with ⟨hb1, H⟩ | ⟨hb1, H⟩
 ·refine C1 hb1 ?_
  obtain ⟨n2, H⟩ := of_if H
  obtain ⟨n3, H⟩ := of_if H
  refine Rg V_ok 1 [(2, hb 2)] (ac n2 (ac n3 az)) ?_
  refine GT (tl [1, 5, 6, 7, 8] [0, 2, 1]) (RI ?_)
  refine EV V_ok 0 [] 2 az ?_
  obtain ⟨y4, e5, H⟩ := of_bind H
  refine CL V_ok i_plan_Sync_1_a74.at_ (of_G (i_plan_Sync_1_a74.f_ok e5)) ?_
  refine RN ?_
  refine Ra ?_
  exact Jm (tl [1, 6, 7, 8] [0, 3]) (hL1 p1 p2 (IntKind.i64.wrap (p3 + 1)) y4.1 H)
 ·refine C0 hb1 ?_
  obtain rfl := Option.some.inj H
  exact Lq (tn [] 2)
noncomputable def l1 (k : Nat) : Nat → List T814c.T → Int → Int → List T4414.T → Option R
 | 0, _, _, _, _ => none
 | m + 1, p1, p2, p3, p4 => b1 (l1 k m) k p1 p2 p3 p4
theorem l1_ok {r} (k : Nat) : ∀ (m1 : Nat) (p1 : List T814c.T) (p2 p3 : Int) (p4 : List T4414.T), l1 k m1 p1 p2 p3 p4 = some r → Gw P 1 (Q r) (Pb c0 5 [] m1) (s1 p1 p2 p3 p4)
 | 0, _, _, _, _, H => by cases H
 | m1 + 1, p1, p2, p3, p4, H => SU (by kernel_rfl) (b1_ok (l1_ok k m1) H)
noncomputable def f (k : Nat) (p1 : List T814c.T) : Option R :=
 l1 k k p1 (p1.length : Int) 0 []
theorem f_ok {r k p1} (H : f k p1 = some r) : Gw P 1 (Q r) (Px c0 1 []) (s0 p1) := by
 unfold f at H
 refine Ra ?_
 exact LP k (Jm {fz := [], gr := 1, ad := [.ownC 0 0 1 66 T4414], live := [1, 6, 7, 8], src := [some 0, some 1]} (l1_ok k k p1 (p1.length : Int) 0 [] H))
theorem at_ : FnAt P 122 16 c0 f122.results := fnA func122
end i_plan_many_Ver_do_d01
namespace f_plan_Sync
noncomputable def c0 : Code := bo f87
abbrev ps : Sg := [(false, (.slice T814c)), (false, (.int .i64))]
abbrev rs : Sg := [(false, (.slice T4414))]
noncomputable def V : Env := eV []
theorem V_ok : EnvOk P V := eOk (slk_nil)
abbrev R := Tup rs
noncomputable abbrev Q (r : R) : Exit → St → Prop := Qr tt f87.results ⟨ps, rs, .any, none, fun _ _ => True⟩ r
noncomputable def f (k : Nat) (a1 : List T814c.T) (a2 : Int) : Option R :=
 (i_plan_many_Ver_do_d01.f k a1).bind fun y1 =>
  if (y1.1.length + 2) * 80 ≤ 140737488355328 then
   some ((y1.1 ++ [(3, (0, (0, (a2, ((0, 0), (0, (0, (0, 0)))))))), (5, (0, (0, (0, ((0, 0), (0, (0, (0, 0))))))))]), ())
  else none
noncomputable def S : Spec := ⟨ps, rs, .any, none, fun x r => ∃ k, f k x.1 x.2.1 = some r⟩
theorem rl {k a1 a2 r} (e : f k a1 a2 = some r) : S.rel (a1, a2, ()) r := ⟨k, e⟩
theorem f_ok {r k a1 a2} (H : f k a1 a2 = some r) : Gw P 0 (Q r) (Px c0 1 []) (⟨15, [(0, .cv (.one (.sl T814c a1 .any))), (1, .cv (.one (.i a2)))], []⟩) := by
 unfold f at H
 refine Ra ?_
 refine Rg V_ok 1 [(0, hb 0)] az ?_
 refine GT (tn [0, 1, 5] 1) (RI ?_)
 refine EV V_ok 0 [] 2 az ?_
 obtain ⟨y1, e2, H⟩ := of_bind H
 refine CL V_ok i_plan_many_Ver_do_d01.at_ (of_G (i_plan_many_Ver_do_d01.f_ok e2)) ?_
 refine RN ?_
 obtain ⟨n3, H⟩ := of_if H
 refine Rg V_ok 1 [(5, hb 2)] (ac n3 az) ?_
 exact Le H
theorem fits : Fits P 87 S := fitsA V_ok func87 fun x r ⟨k, H⟩ => of_G (f_ok H)
end f_plan_Sync

namespace i_sess_own_9f5
noncomputable def c0 : Code := bo f124
noncomputable def V : Env := eV []
theorem V_ok : EnvOk P V := eOk (slk_nil)
abbrev R := (Int) × (Int) × (List T4414.T) × Unit
noncomputable def s0 (p1 p2 : Tb104.T) (p3 p4 p5 : Int) : St := ⟨15, [(0, .cv (.agg (encC .any Tb104 p1)))], [(.box 3, (encC .any Tb104 p2)), (.box 1, [.i p3]), (.box 3, [.i p4, .i p5, .nils])]⟩
noncomputable def out (p1 p2 : Tb104.T) (p3 p4 p5 : Int) (r : R) : St := ⟨15, [(2, .cv (.one (.ptr 3 0)))], [(.box 3, (encC .any Tb104 p2)), (.box 1, [.i p3]), (.box 3, [.i p4, .i p5, .nils]), (.box 3, [.i r.1, .i r.2.1, .own 4]), (.buf 66 T4414 r.2.2.1, [])]⟩
abbrev Q (p1 p2 : Tb104.T) (p3 p4 p5 : Int) (r : R) := CallQ 3 (out p1 p2 p3 p4 p5 r)
noncomputable def f (k : Nat) (p1 p2 : Tb104.T) (p3 p4 p5 : Int) : Option R :=
 if 0 ≤ (p1.2.2.length : Int) ∧ (p1.2.2.length : Int) = (p1.2.2.length : Int) ∧ (80 : Int) * (p1.2.2.length : Int) ≤ 140737488355328 ∧ (p1.2.2.length : Int) ≤ 140737488355328 then
  if p1.2.2.length = (List.replicate (p1.2.2.length : Int).toNat ((0, (0, (0, (0, ((0, 0), (0, (0, (0, 0)))))))) : T4414.T)).length then
   some (p1.1, (p1.2.1, (p1.2.2, ())))
  else none
 else none
theorem f_ok {r k p1 p2 p3 p4 p5} (H : f k p1 p2 p3 p4 p5 = some r) : Gw P 3 (Q p1 p2 p3 p4 p5 r) (Px c0 1 []) (s0 p1 p2 p3 p4 p5) := by
 unfold f at H
 refine Rg V_ok 2 [(0, hb 3), (1, hb 4)] az ?_
 obtain ⟨n1, H⟩ := of_if H
 refine Rg V_ok 1 [(3, hb 5)] (ac n1 az) ?_
 obtain ⟨n2, H⟩ := of_if H
 refine Rg V_ok 0 [] (ac n2 az) ?_
 refine Ra ?_
 refine Ra ?_
 obtain rfl := Option.some.inj H
 exact Lq (tl [2] [0, 1, 2, 4, 5])
theorem at_ : FnAt P 124 15 c0 f124.results := fnA func124
end i_sess_own_9f5
namespace i_sess_Done_1_0ff
noncomputable def c0 : Code := bo f126
noncomputable def V : Env := eV []
theorem V_ok : EnvOk P V := eOk (slk_nil)
abbrev R := (Bool) × Unit
noncomputable def s0 (p1 : T4414.T) (p2 p3 p4 p5 p6 : Int) (p7 : List T4414.T) : St := ⟨8, [(0, .cv (.agg (encC .any T4414 p1))), (1, .cv (.one (.ptr 1 0)))], [(.box 3, [.i p2, .i p3, .own 3]), (.box 1, [.i p4]), (.box 3, [.i p5, .i p6, .nils]), (.buf 66 T4414 p7, [])]⟩
noncomputable def out (p1 : T4414.T) (p2 p3 p4 p5 p6 : Int) (p7 : List T4414.T) (r : R) : St := ⟨8, [(3, .cv (.one (.bool r.1)))], [(.box 3, [.i p2, .i p3, .own 3]), (.box 1, [.i p4]), (.box 3, [.i p5, .i p6, .nils]), (.buf 66 T4414 p7, [])]⟩
abbrev Q (p1 : T4414.T) (p2 p3 p4 p5 p6 : Int) (p7 : List T4414.T) (r : R) := CallQ 4 (out p1 p2 p3 p4 p5 p6 p7 r)
noncomputable def f (k : Nat) (p1 : T4414.T) (p2 p3 p4 p5 p6 : Int) (p7 : List T4414.T) : Option R :=
 some ((decide (p1.2.2.1 ≤ p4)), ())
theorem f_ok {r k p1 p2 p3 p4 p5 p6 p7} (H : f k p1 p2 p3 p4 p5 p6 p7 = some r) : Gw P 4 (Q p1 p2 p3 p4 p5 p6 p7 r) (Px c0 1 []) (s0 p1 p2 p3 p4 p5 p6 p7) := by
 unfold f at H
 refine Rg V_ok 1 [(0, hb 4)] az ?_
 refine Ra ?_
 obtain rfl := Option.some.inj H
 exact Lq (tn [3] 4)
theorem at_ : FnAt P 126 8 c0 f126.results := fnA func126
end i_sess_Done_1_0ff
namespace i_slices_IndexFunc_Msg_c91
noncomputable def c0 : Code := bo f154
noncomputable def V : Env := eV []
theorem V_ok : EnvOk P V := eOk (slk_nil)
abbrev R := (Int) × (Int) × (Int) × (Int) × (Int) × (Int) × (List T4414.T) × Unit
noncomputable def s0 (p1 p2 p3 p4 p5 : Int) (p6 : List T4414.T) : St := ⟨19, [(0, .cv (.one (.own 3))), (1, .cv (.one (.fn 126 [] [(1, 0)])))], [(.box 3, [.i p1, .i p2, .own 3]), (.box 1, [.i p3]), (.box 3, [.i p4, .i p5, .nils]), (.buf 66 T4414 p6, [])]⟩
noncomputable def out (r : R) : St := ⟨19, [(4, .cv (.one (.i r.1)))], [(.box 3, [.i r.2.1, .i r.2.2.1, .own 3]), (.box 1, [.i r.2.2.2.1]), (.box 3, [.i r.2.2.2.2.1, .i r.2.2.2.2.2.1, .nils]), (.buf 66 T4414 r.2.2.2.2.2.2.1, [])]⟩
abbrev Q (r : R) := CallQ 4 (out r)
noncomputable def s1 (p1 p2 p3 p4 p5 p6 p7 : Int) (p8 : List T4414.T) : St := ⟨19, [(0, .cv (.one (.own 3))), (1, .cv (.one (.fn 126 [] [(1, 0)]))), (7, .cv (.one (.i p1))), (8, .cv (.one (.i p2)))], [(.box 3, [.i p3, .i p4, .own 3]), (.box 1, [.i p5]), (.box 3, [.i p6, .i p7, .nils]), (.buf 66 T4414 p8, [])]⟩
noncomputable def b1 (L1 : Int → Int → Int → Int → Int → Int → Int → List T4414.T → Option R) (k : Nat) (p1 p2 p3 p4 p5 p6 p7 : Int) (p8 : List T4414.T) : Option R :=
 if (decide (p2 < p1)) = true then
 if 0 ≤ p2 then
  if p2 < (p8.length : Int) then
   (i_sess_Done_1_0ff.f k (att T4414 p8 p2) p3 p4 p5 p6 p7 p8).bind fun y4 =>
    if y4.1 = true then
     some (p2, (p3, (p4, (p5, (p6, (p7, (p8, ())))))))
    else
     L1 p1 (IntKind.i64.wrap (p2 + 1)) p3 p4 p5 p6 p7 p8
  else none
 else none
else
 some ((-1), (p3, (p4, (p5, (p6, (p7, (p8, ())))))))
theorem b1_ok {r} {L1 : Int → Int → Int → Int → Int → Int → Int → List T4414.T → Option R} {m1 : Nat} (hL1 : ∀ p1 p2 p3 p4 p5 p6 p7 p8, L1 p1 p2 p3 p4 p5 p6 p7 p8 = some r → Gw P 4 (Q r) (Pb c0 21 [] m1) (s1 p1 p2 p3 p4 p5 p6 p7 p8)) {k p1 p2 p3 p4 p5 p6 p7 p8} (H : b1 L1 k p1 p2 p3 p4 p5 p6 p7 p8 = some r) : Gw P 4 (Q r) (Px c0 37 [m1]) (s1 p1 p2 p3 p4 p5 p6 p7 p8) := by
 unfold b1 at H
 refine Ra ?_
 rcases of_ite H with ⟨hb1, H⟩ | ⟨hb1, H⟩
 ·refine C1 hb1 ?_
  refine Ra ?_
  refine GT (tn [0, 1, 5, 7, 8] 4) (RI ?_)
  obtain ⟨n2, H⟩ := of_if H
  obtain ⟨n3, H⟩ := of_if H
  refine EV V_ok 0 [] 5 (ac n2 (ac n3 az)) ?_
  obtain ⟨y4, e5, H⟩ := of_bind H
  refine CL V_ok i_sess_Done_1_0ff.at_ (of_G (i_sess_Done_1_0ff.f_ok e5)) ?_
  refine RN ?_
  rcases of_ite H with ⟨hb6, H⟩ | ⟨hb6, H⟩
  ·refine C1 hb6 ?_
   refine Ra ?_
   obtain rfl := Option.some.inj H
   exact Lq (tn [4] 4)
  ·refine C0 hb6 ?_
   refine Ra ?_
   exact Jm (tn [0, 1, 7, 8] 4) (hL1 p1 (IntKind.i64.wrap (p2 + 1)) p3 p4 p5 p6 p7 p8 H)
 ·refine C0 hb1 ?_
  refine Ra ?_
  obtain rfl := Option.some.inj H
  exact Lq (tn [4] 4)
noncomputable def l1 (k : Nat) : Nat → Int → Int → Int → Int → Int → Int → Int → List T4414.T → Option R
 | 0, _, _, _, _, _, _, _, _ => none
 | m + 1, p1, p2, p3, p4, p5, p6, p7, p8 => b1 (l1 k m) k p1 p2 p3 p4 p5 p6 p7 p8
theorem l1_ok {r} (k : Nat) : ∀ (m1 : Nat) (p1 p2 p3 p4 p5 p6 p7 : Int) (p8 : List T4414.T), l1 k m1 p1 p2 p3 p4 p5 p6 p7 p8 = some r → Gw P 4 (Q r) (Pb c0 21 [] m1) (s1 p1 p2 p3 p4 p5 p6 p7 p8)
 | 0, _, _, _, _, _, _, _, _, H => by cases H
 | m1 + 1, p1, p2, p3, p4, p5, p6, p7, p8, H => SU (by kernel_rfl) (b1_ok (l1_ok k m1) H)
noncomputable def f (k : Nat) (p1 p2 p3 p4 p5 : Int) (p6 : List T4414.T) : Option R :=
 l1 k k (p6.length : Int) 0 p1 p2 p3 p4 p5 p6
theorem f_ok {r k p1 p2 p3 p4 p5 p6} (H : f k p1 p2 p3 p4 p5 p6 = some r) : Gw P 4 (Q r) (Px c0 1 []) (s0 p1 p2 p3 p4 p5 p6) := by
 unfold f at H
 refine Ra ?_
 refine Ra ?_
 exact LP k (Jm (tn [0, 1, 7, 8] 4) (l1_ok k k (p6.length : Int) 0 p1 p2 p3 p4 p5 p6 H))
theorem at_ : FnAt P 154 19 c0 f154.results := fnA func154
end i_slices_IndexFunc_Msg_c91
namespace i_sess_Done_1_67f
noncomputable def c0 : Code := bo f126
noncomputable def V : Env := eV []
theorem V_ok : EnvOk P V := eOk (slk_nil)
abbrev R := (Bool) × Unit
noncomputable def s0 (p1 : T4414.T) (p2 p3 p4 p5 p6 : Int) (p7 : List T4414.T) (p8 : T4414.T) : St := ⟨8, [(0, .cv (.agg (encC .any T4414 p1))), (1, .cv (.one (.ptr 1 0)))], [(.box 3, [.i p2, .i p3, .own 3]), (.box 1, [.i p4]), (.box 3, [.i p5, .i p6, .nils]), (.buf 66 T4414 p7, []), (.box 10, (encC .any T4414 p8))]⟩
noncomputable def out (p1 : T4414.T) (p2 p3 p4 p5 p6 : Int) (p7 : List T4414.T) (p8 : T4414.T) (r : R) : St := ⟨8, [(3, .cv (.one (.bool r.1)))], [(.box 3, [.i p2, .i p3, .own 3]), (.box 1, [.i p4]), (.box 3, [.i p5, .i p6, .nils]), (.buf 66 T4414 p7, []), (.box 10, (encC .any T4414 p8))]⟩
abbrev Q (p1 : T4414.T) (p2 p3 p4 p5 p6 : Int) (p7 : List T4414.T) (p8 : T4414.T) (r : R) := CallQ 5 (out p1 p2 p3 p4 p5 p6 p7 p8 r)
noncomputable def f (k : Nat) (p1 : T4414.T) (p2 p3 p4 p5 p6 : Int) (p7 : List T4414.T) (p8 : T4414.T) : Option R :=
 some ((decide (p1.2.2.1 ≤ p4)), ())
theorem f_ok {r k p1 p2 p3 p4 p5 p6 p7 p8} (H : f k p1 p2 p3 p4 p5 p6 p7 p8 = some r) : Gw P 5 (Q p1 p2 p3 p4 p5 p6 p7 p8 r) (Px c0 1 []) (s0 p1 p2 p3 p4 p5 p6 p7 p8) := by
 unfold f at H
 refine Rg V_ok 1 [(0, hb 5)] az ?_
 refine Ra ?_
 obtain rfl := Option.some.inj H
 exact Lq (tn [3] 5)
theorem at_ : FnAt P 126 8 c0 f126.results := fnA func126
end i_sess_Done_1_67f
namespace i_slices_DeleteFunc_Msg_c91
noncomputable def c0 : Code := bo f125
noncomputable def V : Env := eV []
theorem V_ok : EnvOk P V := eOk (slk_nil)
abbrev R := (List T4414.T) × (Int) × (Int) × (Int) × (Int) × (Int) × Unit
noncomputable def s0 (p1 p2 p3 p4 p5 : Int) (p6 : List T4414.T) : St := ⟨42, [(0, .cv (.one (.own 3))), (1, .cv (.one (.fn 126 [] [(1, 0)])))], [(.box 3, [.i p1, .i p2, .own 3]), (.box 1, [.i p3]), (.box 3, [.i p4, .i p5, .nils]), (.buf 66 T4414 p6, [])]⟩
noncomputable def out (r : R) : St := ⟨42, [(4, .cv (.one (.sl T4414 r.1 .any)))], [(.box 3, [.i r.2.1, .i r.2.2.1, .bad]), (.box 1, [.i r.2.2.2.1]), (.box 3, [.i r.2.2.2.2.1, .i r.2.2.2.2.2.1, .nils]), (.dead, [])]⟩
abbrev Q (r : R) := CallQ 4 (out r)
noncomputable def s1 (p1 p2 p3 p4 p5 p6 p7 : Int) (p8 : List T4414.T) : St := ⟨42, [(0, .cv (.one (.own 3))), (1, .cv (.one (.fn 126 [] [(1, 0)]))), (5, .cv (.one (.i p1))), (6, .cv (.one (.i p2)))], [(.box 3, [.i p3, .i p4, .own 3]), (.box 1, [.i p5]), (.box 3, [.i p6, .i p7, .nils]), (.buf 66 T4414 p8, [])]⟩
noncomputable def s2 (p1 p2 p3 p4 p5 p6 p7 : Int) (p8 : List T4414.T) : St := ⟨42, [(0, .cv (.one (.own 3))), (1, .cv (.one (.fn 126 [] [(1, 0)]))), (5, .cv (.one (.i p1))), (6, .cv (.one (.i p2)))], [(.box 3, [.i p3, .i p4, .own 3]), (.box 1, [.i p5]), (.box 3, [.i p6, .i p7, .nils]), (.buf 66 T4414 p8, [])]⟩
noncomputable def j2 (L1 : Int → Int → Int → Int → Int → Int → Int → List T4414.T → Option R) (k : Nat) (p1 p2 p3 p4 p5 p6 p7 : Int) (p8 : List T4414.T) : Option R :=
 L1 p1 (IntKind.i64.wrap (p2 + 1)) p3 p4 p5 p6 p7 p8
theorem j2_ok {r} {L1 : Int → Int → Int → Int → Int → Int → Int → List T4414.T → Option R} {m1 : Nat} (hL1 : ∀ p1 p2 p3 p4 p5 p6 p7 p8, L1 p1 p2 p3 p4 p5 p6 p7 p8 = some r → Gw P 4 (Q r) (Pb c0 87 [] m1) (s1 p1 p2 p3 p4 p5 p6 p7 p8)) {k p1 p2 p3 p4 p5 p6 p7 p8} (H : j2 L1 k p1 p2 p3 p4 p5 p6 p7 p8 = some r) : Gw P 4 (Q r) (Px c0 919 [m1]) (s2 p1 p2 p3 p4 p5 p6 p7 p8) := by
 unfold j2 at H
 refine Ra ?_
 exact Jm (tn [0, 1, 5, 6] 4) (hL1 p1 (IntKind.i64.wrap (p2 + 1)) p3 p4 p5 p6 p7 p8 H)
noncomputable def b1 (L1 : Int → Int → Int → Int → Int → Int → Int → List T4414.T → Option R) (k : Nat) (p1 p2 p3 p4 p5 p6 p7 : Int) (p8 : List T4414.T) : Option R :=
 if (decide (p2 < (p8.length : Int))) = true then
 if 0 ≤ p2 then
  if p2 < (p8.length : Int) then
   (i_sess_Done_1_67f.f k (att T4414 p8 p2) p3 p4 p5 p6 p7 p8 (att T4414 p8 p2)).bind fun y7 =>
    if (!y7.1) = true then
     if 0 ≤ p1 then
      if p1 < (p8.length : Int) then
       j2 L1 k (IntKind.i64.wrap (p1 + 1)) p2 p3 p4 p5 p6 p7 (p8.set p1.toNat (att T4414 p8 p2))
      else none
     else none
    else
     j2 L1 k p1 p2 p3 p4 p5 p6 p7 p8
  else none
 else none
else
 if 0 ≤ p1 ∧ p1 ≤ (p8.length : Int) then
  if 0 ≤ p1 ∧ p1 ≤ ((p8.take p1.toNat ++ List.replicate (p8.length - p1.toNat) ((0, (0, (0, (0, ((0, 0), (0, (0, (0, 0)))))))) : T4414.T)).length : Int) then
   some (((p8.take p1.toNat ++ List.replicate (p8.length - p1.toNat) ((0, (0, (0, (0, ((0, 0), (0, (0, (0, 0)))))))) : T4414.T)).take p1.toNat), (p3, (p4, (p5, (p6, (p7, ()))))))
  else none
 else none
theorem b1_ok {r} {L1 : Int → Int → Int → Int → Int → Int → Int → List T4414.T → Option R} {m1 : Nat} (hL1 : ∀ p1 p2 p3 p4 p5 p6 p7 p8, L1 p1 p2 p3 p4 p5 p6 p7 p8 = some r → Gw P 4 (Q r) (Pb c0 87 [] m1) (s1 p1 p2 p3 p4 p5 p6 p7 p8)) {k p1 p2 p3 p4 p5 p6 p7 p8} (H : b1 L1 k p1 p2 p3 p4 p5 p6 p7 p8 = some r) : Gw P 4 (Q r) (Px c0 151 [m1]) (s1 p1 p2 p3 p4 p5 p6 p7 p8) := by
 unfold b1 at H
 refine Ra ?_
 rcases of_ite H with ⟨hb4, H⟩ | ⟨hb4, H⟩
 ·refine C1 hb4 ?_
  obtain ⟨n5, H⟩ := of_if H
  obtain ⟨n6, H⟩ := of_if H
  refine Rg V_ok 1 [(4, hb 4)] (ac n5 (ac n6 az)) ?_
  refine GT (tn [0, 1, 5, 6, 7] 5) (RI ?_)
  refine EV V_ok 0 [] 2 az ?_
  obtain ⟨y7, e8, H⟩ := of_bind H
  refine CL V_ok i_sess_Done_1_67f.at_ (of_G (i_sess_Done_1_67f.f_ok e8)) ?_
  refine EV V_ok 0 [] 1 az ?_
  refine RN ?_
  rcases of_ite H with ⟨hb9, H⟩ | ⟨hb9, H⟩
  ·refine C1 hb9 ?_
   obtain ⟨n10, H⟩ := of_if H
   obtain ⟨n11, H⟩ := of_if H
   refine Rg V_ok 0 [] (ac n10 (ac n11 az)) ?_
   refine Ra ?_
   exact Jm (tn [0, 1, 5, 6] 4) (j2_ok hL1 H)
  ·refine C0 hb9 ?_
   exact Jm (tn [0, 1, 5, 6] 4) (j2_ok hL1 H)
 ·refine C0 hb4 ?_
  obtain ⟨n12, H⟩ := of_if H
  refine Rg V_ok 0 [] (ac n12 az) ?_
  obtain ⟨n13, H⟩ := of_if H
  refine Rg V_ok 1 [(2, hb 4)] (ac n13 az) ?_
  obtain rfl := Option.some.inj H
  exact Lq {fz := [4], gr := 0, ad := [.cell 0 2 (.bad)], live := [4], src := [some 0, some 1, some 2, some 3]}
noncomputable def l1 (k : Nat) : Nat → Int → Int → Int → Int → Int → Int → Int → List T4414.T → Option R
 | 0, _, _, _, _, _, _, _, _ => none
 | m + 1, p1, p2, p3, p4, p5, p6, p7, p8 => b1 (l1 k m) k p1 p2 p3 p4 p5 p6 p7 p8
theorem l1_ok {r} (k : Nat) : ∀ (m1 : Nat) (p1 p2 p3 p4 p5 p6 p7 : Int) (p8 : List T4414.T), l1 k m1 p1 p2 p3 p4 p5 p6 p7 p8 = some r → Gw P 4 (Q r) (Pb c0 87 [] m1) (s1 p1 p2 p3 p4 p5 p6 p7 p8)
 | 0, _, _, _, _, _, _, _, _, H => by cases H
 | m1 + 1, p1, p2, p3, p4, p5, p6, p7, p8, H => SU (by kernel_rfl) (b1_ok (l1_ok k m1) H)
noncomputable def f (k : Nat) (p1 p2 p3 p4 p5 : Int) (p6 : List T4414.T) : Option R :=
 (i_slices_IndexFunc_Msg_c91.f k p1 p2 p3 p4 p5 p6).bind fun y1 =>
  if (y1.1 == (-1 : Int)) = true then
   some (y1.2.2.2.2.2.2.1, (y1.2.1, (y1.2.2.1, (y1.2.2.2.1, (y1.2.2.2.2.1, (y1.2.2.2.2.2.1, ()))))))
  else
   l1 k k y1.1 (IntKind.i64.wrap (y1.1 + 1)) y1.2.1 y1.2.2.1 y1.2.2.2.1 y1.2.2.2.2.1 y1.2.2.2.2.2.1 y1.2.2.2.2.2.2.1
theorem f_ok {r k p1 p2 p3 p4 p5 p6} (H : f k p1 p2 p3 p4 p5 p6 = some r) : Gw P 4 (Q r) (Px c0 1 []) (s0 p1 p2 p3 p4 p5 p6) := by
 unfold f at H
 refine Ra ?_
 refine GT (tn [0, 1] 4) (RI ?_)
 refine EV V_ok 0 [] 2 az ?_
 obtain ⟨y1, e2, H⟩ := of_bind H
 refine CL V_ok i_slices_IndexFunc_Msg_c91.at_ (of_G (i_slices_IndexFunc_Msg_c91.f_ok e2)) ?_
 refine EV V_ok 0 [] 1 az ?_
 refine RN ?_
 refine Ra ?_
 rcases of_ite H with ⟨hb3, H⟩ | ⟨hb3, H⟩
 ·refine C1 hb3 ?_
  refine Ra ?_
  obtain rfl := Option.some.inj H
  exact Lq {fz := [3], gr := 0, ad := [.cell 0 2 (.bad)], live := [4], src := [some 0, some 1, some 2, some 3]}
 ·refine C0 hb3 ?_
  refine Ra ?_
  exact LP k (Jm (tn [0, 1, 5, 6] 4) (l1_ok k k y1.1 (IntKind.i64.wrap (y1.1 + 1)) y1.2.1 y1.2.2.1 y1.2.2.2.1 y1.2.2.2.2.1 y1.2.2.2.2.2.1 y1.2.2.2.2.2.2.1 H))
theorem at_ : FnAt P 125 42 c0 f125.results := fnA func125
end i_slices_DeleteFunc_Msg_c91
namespace f_sess_Done
noncomputable def c0 : Code := bo f88
abbrev ps : Sg := [(true, Tb104), (false, (.int .i64)), (false, (.int .i64))]
abbrev rs : Sg := [(true, Tb104)]
noncomputable def V : Env := eV []
theorem V_ok : EnvOk P V := eOk (slk_nil)
abbrev R := Tup rs
noncomputable abbrev Q (r : R) : Exit → St → Prop := Qr tt f88.results ⟨ps, rs, .any, none, fun _ _ => True⟩ r
noncomputable def s1 (p1 : Tb104.T) (p2 p3 : Int) : St := ⟨19, [(3, .cv (.one (.ptr 0 0))), (6, .cv (.one (.ptr 1 0)))], [(.box 3, (encC .any Tb104 p1)), (.box 3, [.i p2, .i p3, .nils])]⟩
noncomputable def j1 (k : Nat) (p1 : Tb104.T) (p2 p3 : Int) : Option R :=
 some (p1, ())
theorem j1_ok {r} {k p1 p2 p3} (H : j1 k p1 p2 p3 = some r) : Gw P 0 (Q r) (Px c0 15 []) (s1 p1 p2 p3) := by
 unfold j1 at H
 refine Ra ?_
 exact Le H
noncomputable def s2 (p1 p2 p3 p4 : Int) (p5 : List T4414.T) : St := ⟨19, [(3, .cv (.one (.ptr 0 0))), (6, .cv (.one (.ptr 1 0)))], [(.box 3, [.i p1, .i p2, .own 2]), (.box 3, [.i p3, .i p4, .nils]), (.buf 66 T4414 p5, [])]⟩
noncomputable def j2 (k : Nat) (p1 p2 p3 p4 : Int) (p5 : List T4414.T) : Option R :=
 some ((p1, (p2, p5)), ())
theorem j2_ok {r} {k p1 p2 p3 p4 p5} (H : j2 k p1 p2 p3 p4 p5 = some r) : Gw P 0 (Q r) (Px c0 15 []) (s2 p1 p2 p3 p4 p5) := by
 unfold j2 at H
 refine Ra ?_
 exact Le H
noncomputable def f (k : Nat) (a1 : Tb104.T) (a2 a3 : Int) : Option R :=
 (i_sess_own_9f5.f k a1 a1 a3 (0 : Int) (0 : Int)).bind fun y1 =>
  if (a2 == y1.1) = true then
   (i_slices_DeleteFunc_Msg_c91.f k y1.1 y1.2.1 a3 (0 : Int) (0 : Int) y1.2.2.1).bind fun y4 =>
    j1 k (y4.2.1, (y4.2.2.1, y4.1)) y4.2.2.2.2.1 y4.2.2.2.2.2.1
  else
   j2 k y1.1 y1.2.1 (0 : Int) (0 : Int) y1.2.2.1
noncomputable def S : Spec := ⟨ps, rs, .any, none, fun x r => ∃ k, f k x.1 x.2.1 x.2.2.1 = some r⟩
theorem rl {k a1 a2 a3 r} (e : f k a1 a2 a3 = some r) : S.rel (a1, a2, a3, ()) r := ⟨k, e⟩
theorem f_ok {r k a1 a2 a3} (H : f k a1 a2 a3 = some r) : Gw P 0 (Q r) (Px c0 1 []) (⟨19, [(0, .cv (.agg (encC .any Tb104 a1))), (1, .cv (.one (.i a2))), (2, .cv (.one (.i a3)))], []⟩) := by
 unfold f at H
 refine Rg V_ok 3 [(0, hb 0), (1, hb 1), (2, hb 2)] az ?_
 refine GT (tn [1, 3, 5, 6] 3) (RI ?_)
 refine EV V_ok 0 [] 1 az ?_
 obtain ⟨y1, e2, H⟩ := of_bind H
 refine CL V_ok i_sess_own_9f5.at_ (of_G (i_sess_own_9f5.f_ok e2)) ?_
 refine EV V_ok 0 [] 1 az ?_
 refine RN ?_
 refine Ra ?_
 rcases of_ite H with ⟨hb3, H⟩ | ⟨hb3, H⟩
 ·refine C1 hb3 ?_
  refine GT (tl [3, 5, 6] [0, 1, 2, 4]) (RI ?_)
  refine EV V_ok 0 [] 3 az ?_
  obtain ⟨y4, e5, H⟩ := of_bind H
  refine CL V_ok i_slices_DeleteFunc_Msg_c91.at_ (of_G (i_slices_DeleteFunc_Msg_c91.f_ok e5)) ?_
  refine EV V_ok 0 [] 2 az ?_
  refine RN ?_
  exact Jm (tl [3, 6] [0, 2]) (j1_ok H)
 ·refine C0 hb3 ?_
  exact Jm (tl [3, 6] [0, 2, 4]) (j2_ok H)
theorem fits : Fits P 88 S := fitsA V_ok func88 fun x r ⟨k, H⟩ => of_G (f_ok H)
end f_sess_Done

namespace i_sess_own_b60
noncomputable def c0 : Code := bo f124
noncomputable def V : Env := eV []
theorem V_ok : EnvOk P V := eOk (slk_nil)
abbrev R := (Int) × (Int) × (List T4414.T) × Unit
noncomputable def s0 (p1 p2 : Tb104.T) (p3 : T4414.T) (p4 p5 : Int) : St := ⟨15, [(0, .cv (.agg (encC .any Tb104 p1)))], [(.box 3, (encC .any Tb104 p2)), (.box 10, (encC .any T4414 p3)), (.box 3, [.i p4, .i p5, .nils])]⟩
noncomputable def out (p1 p2 : Tb104.T) (p3 : T4414.T) (p4 p5 : Int) (r : R) : St := ⟨15, [(2, .cv (.one (.ptr 3 0)))], [(.box 3, (encC .any Tb104 p2)), (.box 10, (encC .any T4414 p3)), (.box 3, [.i p4, .i p5, .nils]), (.box 3, [.i r.1, .i r.2.1, .own 4]), (.buf 66 T4414 r.2.2.1, [])]⟩
abbrev Q (p1 p2 : Tb104.T) (p3 : T4414.T) (p4 p5 : Int) (r : R) := CallQ 3 (out p1 p2 p3 p4 p5 r)
noncomputable def f (k : Nat) (p1 p2 : Tb104.T) (p3 : T4414.T) (p4 p5 : Int) : Option R :=
 if 0 ≤ (p1.2.2.length : Int) ∧ (p1.2.2.length : Int) = (p1.2.2.length : Int) ∧ (80 : Int) * (p1.2.2.length : Int) ≤ 140737488355328 ∧ (p1.2.2.length : Int) ≤ 140737488355328 then
  if p1.2.2.length = (List.replicate (p1.2.2.length : Int).toNat ((0, (0, (0, (0, ((0, 0), (0, (0, (0, 0)))))))) : T4414.T)).length then
   some (p1.1, (p1.2.1, (p1.2.2, ())))
  else none
 else none
theorem f_ok {r k p1 p2 p3 p4 p5} (H : f k p1 p2 p3 p4 p5 = some r) : Gw P 3 (Q p1 p2 p3 p4 p5 r) (Px c0 1 []) (s0 p1 p2 p3 p4 p5) := by
 unfold f at H
 refine Rg V_ok 2 [(0, hb 3), (1, hb 4)] az ?_
 obtain ⟨n1, H⟩ := of_if H
 refine Rg V_ok 1 [(3, hb 5)] (ac n1 az) ?_
 obtain ⟨n2, H⟩ := of_if H
 refine Rg V_ok 0 [] (ac n2 az) ?_
 refine Ra ?_
 refine Ra ?_
 obtain rfl := Option.some.inj H
 exact Lq (tl [2] [0, 1, 2, 4, 5])
theorem at_ : FnAt P 124 15 c0 f124.results := fnA func124
end i_sess_own_b60
namespace f_sess_Push
noncomputable def c0 : Code := bo f121
abbrev ps : Sg := [(true, Tb104), (true, T4414)]
abbrev rs : Sg := [(true, Tb104), (false, (.int .i64))]
noncomputable def V : Env := eV []
theorem V_ok : EnvOk P V := eOk (slk_nil)
abbrev R := Tup rs
noncomputable abbrev Q (r : R) : Exit → St → Prop := Qr tt f121.results ⟨ps, rs, .any, none, fun _ _ => True⟩ r
noncomputable def f (k : Nat) (a1 : Tb104.T) (a2 : T4414.T) : Option R :=
 (i_sess_own_b60.f k a1 a1 a2 (0 : Int) (0 : Int)).bind fun y1 =>
  if (decide (y1.2.1 > (1048576 : Int))) = true then
   some ((y1.1, (y1.2.1, y1.2.2.1)), ((7 : Int), ()))
  else
   if (y1.2.2.1.length + 1) * 80 ≤ 140737488355328 then
    some ((y1.1, ((IntKind.i64.wrap (y1.2.1 + 1)), (y1.2.2.1 ++ [(a2.1, (y1.1, (y1.2.1, a2.2.2.2)))]))), ((0 : Int), ()))
   else none
noncomputable def S : Spec := ⟨ps, rs, .any, none, fun x r => ∃ k, f k x.1 x.2.1 = some r⟩
theorem rl {k a1 a2 r} (e : f k a1 a2 = some r) : S.rel (a1, a2, ()) r := ⟨k, e⟩
theorem f_ok {r k a1 a2} (H : f k a1 a2 = some r) : Gw P 0 (Q r) (Px c0 1 []) (⟨29, [(0, .cv (.agg (encC .any Tb104 a1))), (1, .cv (.agg (encC .any T4414 a2)))], []⟩) := by
 unfold f at H
 refine Rg V_ok 3 [(0, hb 0), (1, hb 1), (2, hb 2)] az ?_
 refine GT (tn [2, 3, 4] 3) (RI ?_)
 refine EV V_ok 0 [] 1 az ?_
 obtain ⟨y1, e2, H⟩ := of_bind H
 refine CL V_ok i_sess_own_b60.at_ (of_G (i_sess_own_b60.f_ok e2)) ?_
 refine EV V_ok 0 [] 1 az ?_
 refine RN ?_
 refine Ra ?_
 rcases of_ite H with ⟨hb3, H⟩ | ⟨hb3, H⟩
 ·refine C1 hb3 ?_
  refine Ra ?_
  exact Le H
 ·refine C0 hb3 ?_
  refine Ra ?_
  obtain ⟨n4, H⟩ := of_if H
  refine Rg V_ok 1 [(4, hb 5)] (ac n4 az) ?_
  refine Ra ?_
  exact Le H
theorem fits : Fits P 121 S := fitsA V_ok func121 fun x r ⟨k, H⟩ => of_G (f_ok H)
end f_sess_Push

namespace f_plan_Push
noncomputable def c0 : Code := bo f85
abbrev ps : Sg := [(true, Tb104), (false, (.slice T4414))]
abbrev rs : Sg := [(true, Tb104)]
noncomputable def V : Env := eV [(88, f_sess_Done.S), (121, f_sess_Push.S)]
theorem V_ok : EnvOk P V := eOk (slk_cons f_sess_Done.fits (slk_cons f_sess_Push.fits (slk_nil)))
abbrev R := Tup rs
noncomputable abbrev Q (r : R) : Exit → St → Prop := Qr tt f85.results ⟨ps, rs, .any, none, fun _ _ => True⟩ r
noncomputable def s1 (p1 : List T4414.T) (p2 p3 : Int) (p4 : Tb104.T) (p5 p6 : Int) : St := ⟨31, [(2, .cv (.one (.ptr 0 0))), (4, .cv (.one (.ptr 1 0))), (14, .cv (.one (.sl T4414 p1 .any))), (15, .cv (.one (.i p2))), (16, .cv (.one (.i p3)))], [(.box 3, (encC .any Tb104 p4)), (.box 3, [.i p5, .i p6, .nils])]⟩
noncomputable def s2 (p1 : Tb104.T) (p2 p3 : Int) : St := ⟨31, [(2, .cv (.one (.ptr 0 0))), (4, .cv (.one (.ptr 1 0)))], [(.box 3, (encC .any Tb104 p1)), (.box 3, [.i p2, .i p3, .nils])]⟩
noncomputable def j2 (k : Nat) (p1 : Tb104.T) (p2 p3 : Int) : Option R :=
 some (p1, ())
theorem j2_ok {r} {k p1 p2 p3} (H : j2 k p1 p2 p3 = some r) : Gw P 0 (Q r) (Px c0 15 []) (s2 p1 p2 p3) := by
 unfold j2 at H
 refine Ra ?_
 exact Le H
noncomputable def b1 (L1 : List T4414.T → Int → Int → Tb104.T → Int → Int → Option R) (k : Nat) (p1 : List T4414.T) (p2 p3 : Int) (p4 : Tb104.T) (p5 p6 : Int) : Option R :=
 if (decide (p3 < p2)) = true then
 if 0 ≤ p3 then
  if p3 < (p1.length : Int) then
   (f_sess_Push.f k p4 (att T4414 p1 p3)).bind fun y6 =>
    if (y6.2.1 != (0 : Int)) = true then
     j2 k p4 p5 p6
    else
     L1 p1 p2 (IntKind.i64.wrap (p3 + 1)) y6.1 p5 p6
  else none
 else none
else
 j2 k p4 p5 p6
theorem b1_ok {r} {L1 : List T4414.T → Int → Int → Tb104.T → Int → Int → Option R} {m1 : Nat} (hL1 : ∀ p1 p2 p3 p4 p5 p6, L1 p1 p2 p3 p4 p5 p6 = some r → Gw P 0 (Q r) (Pb c0 43 [] m1) (s1 p1 p2 p3 p4 p5 p6)) {k p1 p2 p3 p4 p5 p6} (H : b1 L1 k p1 p2 p3 p4 p5 p6 = some r) : Gw P 0 (Q r) (Px c0 75 [m1]) (s1 p1 p2 p3 p4 p5 p6) := by
 unfold b1 at H
 refine Ra ?_
 rcases of_ite H with ⟨hb3, H⟩ | ⟨hb3, H⟩
 ·refine C1 hb3 ?_
  obtain ⟨n4, H⟩ := of_if H
  obtain ⟨n5, H⟩ := of_if H
  refine Rg V_ok 1 [(2, hb 2)] (ac n4 (ac n5 az)) ?_
  obtain ⟨y6, e7, H⟩ := of_bind H
  refine Rg V_ok 1 [(2, hr f_sess_Push.S y6), (6, hb 3)] (ac (f_sess_Push.rl e7) az) ?_
  refine Ra ?_
  rcases of_ite H with ⟨hb8, H⟩ | ⟨hb8, H⟩
  ·refine C1 hb8 ?_
   exact Jm (tn [2, 4] 2) (j2_ok H)
  ·refine C0 hb8 ?_
   refine Ra ?_
   refine Ra ?_
   exact Jm (tn [2, 4, 14, 15, 16] 2) (hL1 p1 p2 (IntKind.i64.wrap (p3 + 1)) y6.1 p5 p6 H)
 ·refine C0 hb3 ?_
  exact Jm (tn [2, 4] 2) (j2_ok H)
noncomputable def l1 (k : Nat) : Nat → List T4414.T → Int → Int → Tb104.T → Int → Int → Option R
 | 0, _, _, _, _, _, _ => none
 | m + 1, p1, p2, p3, p4, p5, p6 => b1 (l1 k m) k p1 p2 p3 p4 p5 p6
theorem l1_ok {r} (k : Nat) : ∀ (m1 : Nat) (p1 : List T4414.T) (p2 p3 : Int) (p4 : Tb104.T) (p5 : Int) (p6 : Int), l1 k m1 p1 p2 p3 p4 p5 p6 = some r → Gw P 0 (Q r) (Pb c0 43 [] m1) (s1 p1 p2 p3 p4 p5 p6)
 | 0, _, _, _, _, _, _, H => by cases H
 | m1 + 1, p1, p2, p3, p4, p5, p6, H => SU (by kernel_rfl) (b1_ok (l1_ok k m1) H)
noncomputable def f (k : Nat) (a1 : Tb104.T) (a2 : List T4414.T) : Option R :=
 (f_sess_Done.f k a1 (IntKind.i64.wrap (a1.1 - 1)) (0 : Int)).bind fun y1 =>
  l1 k k a2 (a2.length : Int) 0 y1.1 0 0
noncomputable def S : Spec := ⟨ps, rs, .any, none, fun x r => ∃ k, f k x.1 x.2.1 = some r⟩
theorem rl {k a1 a2 r} (e : f k a1 a2 = some r) : S.rel (a1, a2, ()) r := ⟨k, e⟩
theorem f_ok {r k a1 a2} (H : f k a1 a2 = some r) : Gw P 0 (Q r) (Px c0 1 []) (⟨31, [(0, .cv (.agg (encC .any Tb104 a1))), (1, .cv (.one (.sl T4414 a2 .any)))], []⟩) := by
 unfold f at H
 refine Rg V_ok 2 [(0, hb 0), (1, hb 1)] az ?_
 obtain ⟨y1, e2, H⟩ := of_bind H
 refine Rg V_ok 0 [(4, hr f_sess_Done.S y1)] (ac (f_sess_Done.rl e2) az) ?_
 refine Ra ?_
 exact LP k (Jm (tn [2, 4, 14, 15, 16] 2) (l1_ok k k a2 (a2.length : Int) 0 y1.1 0 0 H))
theorem fits : Fits P 85 S := fitsA V_ok func85 fun x r ⟨k, H⟩ => of_G (f_ok H)
end f_plan_Push

namespace f_slices_Clone_ConfO
noncomputable def c0 : Code := bo f75
abbrev ps : Sg := [(false, (.slice (.slice (.slice T1383))))]
abbrev rs : Sg := [(false, .slice (.slice (.slice T1383)))]
noncomputable def V : Env := eV []
theorem V_ok : EnvOk P V := eOk (slk_nil)
abbrev R := Tup rs
noncomputable abbrev Q (r : R) : Exit → St → Prop := QrO f75.results 38 (.slice (.slice T1383)) r
noncomputable def f (k : Nat) (a1 : List (List (List T1383.T))) : Option R :=
 if (0 + a1.length) * 24 ≤ 140737488355328 then
  if 0 = 0 ∨ 0 < a1.length then
   some (([] ++ a1), ())
  else none
 else none
noncomputable def S : Spec := ⟨ps, rs, .any, some 38, fun x r => ∃ k, f k x.1 = some r⟩
theorem rl {k a1 r} (e : f k a1 = some r) : S.rel (a1, ()) r := ⟨k, e⟩
theorem f_ok {r k a1} (H : f k a1 = some r) : Gw P 0 (Q r) (Px c0 1 []) (⟨8, [(0, .cv (.one (.sl (.slice (.slice T1383)) a1 .any)))], []⟩) := by
 unfold f at H
 refine Ra ?_
 refine NL (t := 0) (e := (.slice (.slice T1383))) (xs := a1) (by kernel_rfl) (by kernel_rfl) (fun hx1 => ?_) ?_
 ·subst hx1
  replace H := Eq.trans (by kernel_rfl : (some ([], ()) : Option R) = _) H
  refine Ra ?_
  refine C1 rfl ?_
  refine Ra ?_
  refine GT {gr := 1, ad := [.ownT 2 0 38 (.slice (.slice T1383))], live := [2], src := [some 0]} ?_
  obtain rfl := Option.some.inj H
  exact LfO (by kernel_rfl)
 ·refine Ra ?_
  refine C0 rfl ?_
  obtain ⟨n2, H⟩ := of_if H
  obtain ⟨n3, H⟩ := of_if H
  refine Rg V_ok 1 [(2, hb 0)] (ac n2 (ac n3 az)) ?_
  obtain rfl := Option.some.inj H
  exact LfO (by kernel_rfl)
theorem fits : Fits P 75 S := fits_ofO V_ok func75 (by kernel_rfl) (by decide) (by decide) (fun x r ⟨k, H⟩ => of_G (f_ok H))
end f_slices_Clone_ConfO

namespace f_slices_Clone_Conf_RuleO
noncomputable def c0 : Code := bo f76
abbrev ps : Sg := [(false, (.slice (.slice T1383)))]
abbrev rs : Sg := [(false, .slice (.slice T1383))]
noncomputable def V : Env := eV []
theorem V_ok : EnvOk P V := eOk (slk_nil)
abbrev R := Tup rs
noncomputable abbrev Q (r : R) : Exit → St → Prop := QrO f76.results 89 (.slice T1383) r
noncomputable def f (k : Nat) (a1 : List (List T1383.T)) : Option R :=
 if (0 + a1.length) * 24 ≤ 140737488355328 then
  if 0 = 0 ∨ 0 < a1.length then
   some (([] ++ a1), ())
  else none
 else none
noncomputable def S : Spec := ⟨ps, rs, .any, some 89, fun x r => ∃ k, f k x.1 = some r⟩
theorem rl {k a1 r} (e : f k a1 = some r) : S.rel (a1, ()) r := ⟨k, e⟩
theorem f_ok {r k a1} (H : f k a1 = some r) : Gw P 0 (Q r) (Px c0 1 []) (⟨8, [(0, .cv (.one (.sl (.slice T1383) a1 .any)))], []⟩) := by
 unfold f at H
 refine Ra ?_
 refine NL (t := 0) (e := (.slice T1383)) (xs := a1) (by kernel_rfl) (by kernel_rfl) (fun hx1 => ?_) ?_
 ·subst hx1
  replace H := Eq.trans (by kernel_rfl : (some ([], ()) : Option R) = _) H
  refine Ra ?_
  refine C1 rfl ?_
  refine Ra ?_
  refine GT {gr := 1, ad := [.ownT 2 0 89 (.slice T1383)], live := [2], src := [some 0]} ?_
  obtain rfl := Option.some.inj H
  exact LfO (by kernel_rfl)
 ·refine Ra ?_
  refine C0 rfl ?_
  obtain ⟨n2, H⟩ := of_if H
  obtain ⟨n3, H⟩ := of_if H
  refine Rg V_ok 1 [(2, hb 0)] (ac n2 (ac n3 az)) ?_
  obtain rfl := Option.some.inj H
  exact LfO (by kernel_rfl)
theorem fits : Fits P 76 S := fits_ofO V_ok func76 (by kernel_rfl) (by decide) (by decide) (fun x r ⟨k, H⟩ => of_G (f_ok H))
end f_slices_Clone_Conf_RuleO

namespace f_slices_Clone_PeerO
noncomputable def c0 : Code := bo f78
abbrev ps : Sg := [(false, (.slice T23b6))]
abbrev rs : Sg := [(false, .slice T23b6)]
noncomputable def V : Env := eV []
theorem V_ok : EnvOk P V := eOk (slk_nil)
abbrev R := Tup rs
noncomputable abbrev Q (r : R) : Exit → St → Prop := QrO f78.results 58 T23b6 r
noncomputable def f (k : Nat) (a1 : List T23b6.T) : Option R :=
 if (0 + a1.length) * 56 ≤ 140737488355328 then
  if 0 = 0 ∨ 0 < a1.length then
   some (([] ++ a1), ())
  else none
 else none
noncomputable def S : Spec := ⟨ps, rs, .any, some 58, fun x r => ∃ k, f k x.1 = some r⟩
theorem rl {k a1 r} (e : f k a1 = some r) : S.rel (a1, ()) r := ⟨k, e⟩
theorem f_ok {r k a1} (H : f k a1 = some r) : Gw P 0 (Q r) (Px c0 1 []) (⟨8, [(0, .cv (.one (.sl T23b6 a1 .any)))], []⟩) := by
 unfold f at H
 refine Ra ?_
 refine NL (t := 0) (e := T23b6) (xs := a1) (by kernel_rfl) (by kernel_rfl) (fun hx1 => ?_) ?_
 ·subst hx1
  replace H := Eq.trans (by kernel_rfl : (some ([], ()) : Option R) = _) H
  refine Ra ?_
  refine C1 rfl ?_
  refine Ra ?_
  refine GT {gr := 1, ad := [.ownT 2 0 58 T23b6], live := [2], src := [some 0]} ?_
  obtain rfl := Option.some.inj H
  exact LfO (by kernel_rfl)
 ·refine Ra ?_
  refine C0 rfl ?_
  obtain ⟨n2, H⟩ := of_if H
  obtain ⟨n3, H⟩ := of_if H
  refine Rg V_ok 1 [(2, hb 0)] (ac n2 (ac n3 az)) ?_
  obtain rfl := Option.some.inj H
  exact LfO (by kernel_rfl)
theorem fits : Fits P 78 S := fits_ofO V_ok func78 (by kernel_rfl) (by decide) (by decide) (fun x r ⟨k, H⟩ => of_G (f_ok H))
end f_slices_Clone_PeerO

namespace f_slices_Clone_intO
noncomputable def c0 : Code := bo f80
abbrev ps : Sg := [(false, (.slice (.int .i64)))]
abbrev rs : Sg := [(false, .slice (.int .i64))]
noncomputable def V : Env := eV []
theorem V_ok : EnvOk P V := eOk (slk_nil)
abbrev R := Tup rs
noncomputable abbrev Q (r : R) : Exit → St → Prop := QrO f80.results 3 (.int .i64) r
noncomputable def f (k : Nat) (a1 : List Int) : Option R :=
 if (0 + a1.length) * 8 ≤ 140737488355328 then
  if 0 = 0 ∨ 0 < a1.length then
   some (([] ++ a1), ())
  else none
 else none
noncomputable def S : Spec := ⟨ps, rs, .any, some 3, fun x r => ∃ k, f k x.1 = some r⟩
theorem rl {k a1 r} (e : f k a1 = some r) : S.rel (a1, ()) r := ⟨k, e⟩
theorem f_ok {r k a1} (H : f k a1 = some r) : Gw P 0 (Q r) (Px c0 1 []) (⟨8, [(0, .cv (.one (.sl (.int .i64) a1 .any)))], []⟩) := by
 unfold f at H
 refine Ra ?_
 refine NL (t := 0) (e := (.int .i64)) (xs := a1) (by kernel_rfl) (by kernel_rfl) (fun hx1 => ?_) ?_
 ·subst hx1
  replace H := Eq.trans (by kernel_rfl : (some ([], ()) : Option R) = _) H
  refine Ra ?_
  refine C1 rfl ?_
  refine Ra ?_
  refine GT {gr := 1, ad := [.ownT 2 0 3 (.int .i64)], live := [2], src := [some 0]} ?_
  obtain rfl := Option.some.inj H
  exact LfO (by kernel_rfl)
 ·refine Ra ?_
  refine C0 rfl ?_
  obtain ⟨n2, H⟩ := of_if H
  obtain ⟨n3, H⟩ := of_if H
  refine Rg V_ok 1 [(2, hb 0)] (ac n2 (ac n3 az)) ?_
  obtain rfl := Option.some.inj H
  exact LfO (by kernel_rfl)
theorem fits : Fits P 80 S := fits_ofO V_ok func80 (by kernel_rfl) (by decide) (by decide) (fun x r ⟨k, H⟩ => of_G (f_ok H))
end f_slices_Clone_intO

namespace f_slices_Clone_GivenO
noncomputable def c0 : Code := bo f81
abbrev ps : Sg := [(false, (.slice T713d))]
abbrev rs : Sg := [(false, .slice T713d)]
noncomputable def V : Env := eV []
theorem V_ok : EnvOk P V := eOk (slk_nil)
abbrev R := Tup rs
noncomputable abbrev Q (r : R) : Exit → St → Prop := QrO f81.results 93 T713d r
noncomputable def f (k : Nat) (a1 : List T713d.T) : Option R :=
 if (0 + a1.length) * 16 ≤ 140737488355328 then
  if 0 = 0 ∨ 0 < a1.length then
   some (([] ++ a1), ())
  else none
 else none
noncomputable def S : Spec := ⟨ps, rs, .any, some 93, fun x r => ∃ k, f k x.1 = some r⟩
theorem rl {k a1 r} (e : f k a1 = some r) : S.rel (a1, ()) r := ⟨k, e⟩
theorem f_ok {r k a1} (H : f k a1 = some r) : Gw P 0 (Q r) (Px c0 1 []) (⟨8, [(0, .cv (.one (.sl T713d a1 .any)))], []⟩) := by
 unfold f at H
 refine Ra ?_
 refine NL (t := 0) (e := T713d) (xs := a1) (by kernel_rfl) (by kernel_rfl) (fun hx1 => ?_) ?_
 ·subst hx1
  replace H := Eq.trans (by kernel_rfl : (some ([], ()) : Option R) = _) H
  refine Ra ?_
  refine C1 rfl ?_
  refine Ra ?_
  refine GT {gr := 1, ad := [.ownT 2 0 93 T713d], live := [2], src := [some 0]} ?_
  obtain rfl := Option.some.inj H
  exact LfO (by kernel_rfl)
 ·refine Ra ?_
  refine C0 rfl ?_
  obtain ⟨n2, H⟩ := of_if H
  obtain ⟨n3, H⟩ := of_if H
  refine Rg V_ok 1 [(2, hb 0)] (ac n2 (ac n3 az)) ?_
  obtain rfl := Option.some.inj H
  exact LfO (by kernel_rfl)
theorem fits : Fits P 81 S := fits_ofO V_ok func81 (by kernel_rfl) (by decide) (by decide) (fun x r ⟨k, H⟩ => of_G (f_ok H))
end f_slices_Clone_GivenO

end Go.Proofs.YtkhjemahenkdiaaGreatDoor.V
