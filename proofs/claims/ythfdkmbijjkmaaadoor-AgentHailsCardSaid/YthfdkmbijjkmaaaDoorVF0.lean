/- Functions of the program, as Lean functions, and that the code answers so. Printed by vgen.py. -/
import Derived.Test.YthfdkmbijjkmaaaDoorVBase
namespace Go.Proofs.YthfdkmbijjkmaaaDoor.V
open Go Go.RowKit
set_option linter.unusedVariables false
set_option linter.unusedSimpArgs false
set_option maxRecDepth 100000
set_option maxHeartbeats 4000000
/-! ### function 81, wayfinder/bits.bound -/
namespace f_bits_bound
noncomputable def c0 : Code := (Go.Proofs.Tryd.f81.body).getD .skip
abbrev ps : Sg := [(false, (.int .i64))]
abbrev rs : Sg := [(false, (.int .i64))]
noncomputable def V : Env := { tt := tt, Γ := slk [] }
theorem V_ok : EnvOk P V := { ck := tt_ck, fits := slk_nil, mixed := mixed }
abbrev R := Tup rs
noncomputable abbrev Q (r : R) : Exit → St → Prop := Qr tt Go.Proofs.Tryd.f81.results ⟨ps, rs, .any, none, fun _ _ => True⟩ r
noncomputable def f (k : Nat) (a1 : Int) : Option R :=
  some ((if 32 < (if 0 > a1 then 0 else a1) then 32 else (if 0 > a1 then 0 else a1)), ())
noncomputable def S : Spec := ⟨ps, rs, .any, none, fun x r => ∃ k, f k x.1 = some r⟩
theorem rl {k a1 r} (e : f k a1 = some r) : S.rel (a1, ()) r := ⟨k, e⟩
theorem f_ok {r k a1} (H : f k a1 = some r) : Gw P 0 (Q r) (Px c0 1 []) (⟨6, [(0, .cv (.one (.i a1)))], []⟩) := by
  unfold f at H
  refine Rg V_ok 0 [] az ?_
  refine Rg V_ok 0 [] az ?_
  exact Lf (Eq.trans (by kernel_rfl) H)
theorem fits : Fits P 81 S := fits_of V_ok Go.Proofs.Tryd.func81 (by kernel_rfl) (by decide) (by decide) rfl (fun x r ⟨k, H⟩ => of_G (f_ok H))
end f_bits_bound
/-! ### function 72, wayfinder/bits.Mask -/
namespace f_bits_Mask
noncomputable def c0 : Code := (Go.Proofs.Tryd.f72.body).getD .skip
abbrev ps : Sg := [(false, (.int .i64))]
abbrev rs : Sg := [(false, (.int .i64))]
noncomputable def V : Env := { tt := tt, Γ := slk [(81, f_bits_bound.S)] }
theorem V_ok : EnvOk P V := { ck := tt_ck, fits := slk_cons f_bits_bound.fits (slk_nil), mixed := mixed }
abbrev R := Tup rs
noncomputable abbrev Q (r : R) : Exit → St → Prop := Qr tt Go.Proofs.Tryd.f72.results ⟨ps, rs, .any, none, fun _ _ => True⟩ r
noncomputable def f (k : Nat) (a1 : Int) : Option R :=
  (f_bits_bound.f k a1).bind fun y1 =>
    if 0 ≤ (IntKind.i64.wrap (32 - y1.1)) then
      some ((IntKind.i64.wrap (IntKind.u32.wrap (IntKind.u64.wrap (4294967295 * (2 ^ (min (IntKind.i64.wrap (32 - y1.1)).toNat (IntKind.u64.bits))))))), ())
    else none
noncomputable def S : Spec := ⟨ps, rs, .any, none, fun x r => ∃ k, f k x.1 = some r⟩
theorem rl {k a1 r} (e : f k a1 = some r) : S.rel (a1, ()) r := ⟨k, e⟩
theorem f_ok {r k a1} (H : f k a1 = some r) : Gw P 0 (Q r) (Px c0 1 []) (⟨11, [(0, .cv (.one (.i a1)))], []⟩) := by
  unfold f at H
  refine Rg V_ok 0 [] az ?_
  obtain ⟨y1, e2, H⟩ := of_bind H
  obtain ⟨n3, H⟩ := of_if H
  refine Rg V_ok 0 [(1, hr f_bits_bound.S y1)] (ac (f_bits_bound.rl e2) (ac n3 az)) ?_
  refine Rg V_ok 0 [] az ?_
  exact Lf (Eq.trans (by kernel_rfl) H)
theorem fits : Fits P 72 S := fits_of V_ok Go.Proofs.Tryd.func72 (by kernel_rfl) (by decide) (by decide) rfl (fun x r ⟨k, H⟩ => of_G (f_ok H))
end f_bits_Mask
/-! ### function 52, wayfinder/bits.May -/
namespace f_bits_May
noncomputable def c0 : Code := (Go.Proofs.Tryd.f52.body).getD .skip
abbrev ps : Sg := [(true, T713d)]
abbrev rs : Sg := [(false, .bool)]
noncomputable def V : Env := { tt := tt, Γ := slk [(72, f_bits_Mask.S)] }
theorem V_ok : EnvOk P V := { ck := tt_ck, fits := slk_cons f_bits_Mask.fits (slk_nil), mixed := mixed }
abbrev R := Tup rs
noncomputable abbrev Q (r : R) : Exit → St → Prop := Qr tt Go.Proofs.Tryd.f52.results ⟨ps, rs, .any, none, fun _ _ => True⟩ r
noncomputable def f (k : Nat) (a1 : T713d.T) : Option R :=
  if (decide (a1.2 ≥ (0 : Int))) = true then
    if (decide (a1.2 ≤ (32 : Int))) = true then
      if (decide (a1.1 ≥ (0 : Int))) = true then
        if (decide (a1.1 ≤ (4294967295 : Int))) = true then
          (f_bits_Mask.f k a1.2).bind fun y1 =>
            some (((IntKind.i64.wrap (((BitVec.ofInt IntKind.i64.bits a1.1 &&& ~~~ BitVec.ofInt IntKind.i64.bits y1.1).toNat : Int))) == (0 : Int)), ())
        else
          some (false, ())
      else
        some (false, ())
    else
      some (false, ())
  else
    some (false, ())
noncomputable def S : Spec := ⟨ps, rs, .any, none, fun x r => ∃ k, f k x.1 = some r⟩
theorem rl {k a1 r} (e : f k a1 = some r) : S.rel (a1, ()) r := ⟨k, e⟩
theorem f_ok {r k a1} (H : f k a1 = some r) : Gw P 0 (Q r) (Px c0 1 []) (⟨30, [(0, .cv (.agg [.i a1.1, .i a1.2]))], []⟩) := by
  unfold f at H
  refine Rg V_ok 1 [(0, hb 0)] az ?_
  rcases of_ite H with ⟨hb2, H⟩ | ⟨hb2, H⟩
  · rcases of_ite H with ⟨hb3, H⟩ | ⟨hb3, H⟩
    · rcases of_ite H with ⟨hb4, H⟩ | ⟨hb4, H⟩
      · rcases of_ite H with ⟨hb5, H⟩ | ⟨hb5, H⟩
        · obtain ⟨y1, e6, H⟩ := of_bind H
          refine Rg V_ok 0 [(2, {bv := some true}), (7, {bv := some true}), (12, {bv := some true}), (17, {bv := some true}), (23, hr f_bits_Mask.S y1)] (ac hb2 (ac hb3 (ac hb4 (ac hb5 (ac (f_bits_Mask.rl e6) az))))) ?_
          exact Lf (Eq.trans (by kernel_rfl) H)
        · refine Rg V_ok 0 [(2, {bv := some true}), (7, {bv := some true}), (12, {bv := some true}), (17, {bv := some false})] (ac hb2 (ac hb3 (ac hb4 (ac hb5 az)))) ?_
          exact Lf (Eq.trans (by kernel_rfl) H)
      · refine Rg V_ok 0 [(2, {bv := some true}), (7, {bv := some true}), (12, {bv := some false})] (ac hb2 (ac hb3 (ac hb4 az))) ?_
        exact Lf (Eq.trans (by kernel_rfl) H)
    · refine Rg V_ok 0 [(2, {bv := some true}), (7, {bv := some false})] (ac hb2 (ac hb3 az)) ?_
      exact Lf (Eq.trans (by kernel_rfl) H)
  · refine Rg V_ok 0 [(2, {bv := some false})] (ac hb2 az) ?_
    exact Lf (Eq.trans (by kernel_rfl) H)
theorem fits : Fits P 52 S := fits_of V_ok Go.Proofs.Tryd.func52 (by kernel_rfl) (by decide) (by decide) rfl (fun x r ⟨k, H⟩ => of_G (f_ok H))
end f_bits_May
/-! ### function 22, wayfinder/rule.May -/
namespace f_rule_May
noncomputable def c0 : Code := (Go.Proofs.Tryd.f22.body).getD .skip
abbrev ps : Sg := [(true, T1383)]
abbrev rs : Sg := [(false, .bool)]
noncomputable def V : Env := { tt := tt, Γ := slk [(52, f_bits_May.S)] }
theorem V_ok : EnvOk P V := { ck := tt_ck, fits := slk_cons f_bits_May.fits (slk_nil), mixed := mixed }
abbrev R := Tup rs
noncomputable abbrev Q (r : R) : Exit → St → Prop := Qr tt Go.Proofs.Tryd.f22.results ⟨ps, rs, .any, none, fun _ _ => True⟩ r
noncomputable def s1 (p1 : Bool) (p2 : T1383.T) : St := ⟨52, [(1, .cv (.one (.ptr 0 0))), (3, .cv (.one (.bool p1)))], [(.box 6, (encC .any T1383 p2))]⟩
noncomputable def j1 (k : Nat) (p1 : Bool) (p2 : T1383.T) : Option R :=
  if p1 = true then
  (f_bits_May.f k p2.1).bind fun y2 =>
    if y2.1 = true then
      if (decide (p2.2.1 ≥ (-1 : Int))) = true then
        if (decide (p2.2.1 ≤ (7 : Int))) = true then
          if (decide (p2.2.2.1 ≥ (0 : Int))) = true then
            some ((decide (p2.2.2.1 ≤ (255 : Int))), ())
          else
            some (false, ())
        else
          some (false, ())
      else
        some (false, ())
    else
      some (false, ())
else
  some (false, ())
theorem j1_ok {r} {k p1 p2} (H : j1 k p1 p2 = some r) : Gw P 0 (Q r) (Px c0 7 []) (s1 p1 p2) := by
  unfold j1 at H
  rcases of_ite H with ⟨hb3, H⟩ | ⟨hb3, H⟩
  · obtain ⟨y2, e4, H⟩ := of_bind H
    rcases of_ite H with ⟨hb5, H⟩ | ⟨hb5, H⟩
    · rcases of_ite H with ⟨hb6, H⟩ | ⟨hb6, H⟩
      · rcases of_ite H with ⟨hb7, H⟩ | ⟨hb7, H⟩
        · rcases of_ite H with ⟨hb8, H⟩ | ⟨hb8, H⟩
          · refine Rg V_ok 0 [(0, {bv := some true}), (4, hr f_bits_May.S y2), (5, {bv := some true}), (10, {bv := some true}), (15, {bv := some true}), (20, {bv := some true})] (ac hb3 (ac (f_bits_May.rl e4) (ac hb5 (ac hb6 (ac hb7 (ac hb8 az)))))) ?_
            exact Lf (Eq.trans (by kernel_rfl) H)
          · refine Rg V_ok 0 [(0, {bv := some true}), (4, hr f_bits_May.S y2), (5, {bv := some true}), (10, {bv := some true}), (15, {bv := some true}), (20, {bv := some false})] (ac hb3 (ac (f_bits_May.rl e4) (ac hb5 (ac hb6 (ac hb7 (ac hb8 az)))))) ?_
            exact Lf (Eq.trans (by kernel_rfl) H)
        · refine Rg V_ok 0 [(0, {bv := some true}), (4, hr f_bits_May.S y2), (5, {bv := some true}), (10, {bv := some true}), (15, {bv := some false})] (ac hb3 (ac (f_bits_May.rl e4) (ac hb5 (ac hb6 (ac hb7 az))))) ?_
          exact Lf (Eq.trans (by kernel_rfl) H)
      · refine Rg V_ok 0 [(0, {bv := some true}), (4, hr f_bits_May.S y2), (5, {bv := some true}), (10, {bv := some false})] (ac hb3 (ac (f_bits_May.rl e4) (ac hb5 (ac hb6 az)))) ?_
        exact Lf (Eq.trans (by kernel_rfl) H)
    · refine Rg V_ok 0 [(0, {bv := some true}), (4, hr f_bits_May.S y2), (5, {bv := some false})] (ac hb3 (ac (f_bits_May.rl e4) (ac hb5 az))) ?_
      exact Lf (Eq.trans (by kernel_rfl) H)
  · refine Rg V_ok 0 [(0, {bv := some false})] (ac hb3 az) ?_
    exact Lf (Eq.trans (by kernel_rfl) H)
noncomputable def f (k : Nat) (a1 : T1383.T) : Option R :=
  if ((a1.2.2.2.1 == (0 : Int)) && ((a1.2.2.2.2 == (0 : Int)) && true)) = true then
    j1 k true a1
  else
    if (a1.2.2.2.1 == (1 : Int)) = true then
      if (decide (a1.2.2.2.2 ≥ (0 : Int))) = true then
        j1 k (decide (a1.2.2.2.2 ≤ (7 : Int))) a1
      else
        j1 k false a1
    else
      j1 k false a1
noncomputable def S : Spec := ⟨ps, rs, .any, none, fun x r => ∃ k, f k x.1 = some r⟩
theorem rl {k a1 r} (e : f k a1 = some r) : S.rel (a1, ()) r := ⟨k, e⟩
theorem f_ok {r k a1} (H : f k a1 = some r) : Gw P 0 (Q r) (Px c0 1 []) (⟨52, [(0, .cv (.agg (encC .any T1383 a1)))], []⟩) := by
  unfold f at H
  refine Rg V_ok 1 [(0, hb 0)] az ?_
  rcases of_ite H with ⟨hb1, H⟩ | ⟨hb1, H⟩
  · refine Rg V_ok 0 [(3, {bv := some true})] (ac hb1 az) ?_
    exact Jm (tn [1, 3] 1) (j1_ok H)
  · rcases of_ite H with ⟨hb9, H⟩ | ⟨hb9, H⟩
    · rcases of_ite H with ⟨hb10, H⟩ | ⟨hb10, H⟩
      · refine Rg V_ok 0 [(3, {bv := some false}), (8, {bv := some true}), (14, {bv := some true})] (ac hb1 (ac hb9 (ac hb10 az))) ?_
        exact Jm (tn [1, 3] 1) (j1_ok H)
      · refine Rg V_ok 0 [(3, {bv := some false}), (8, {bv := some true}), (14, {bv := some false})] (ac hb1 (ac hb9 (ac hb10 az))) ?_
        exact Jm (tn [1, 3] 1) (j1_ok H)
    · refine Rg V_ok 0 [(3, {bv := some false}), (8, {bv := some false})] (ac hb1 (ac hb9 az)) ?_
      exact Jm (tn [1, 3] 1) (j1_ok H)
theorem fits : Fits P 22 S := fits_of V_ok Go.Proofs.Tryd.func22 (by kernel_rfl) (by decide) (by decide) rfl (fun x r ⟨k, H⟩ => of_G (f_ok H))
end f_rule_May
/-! ### function 77, (wayfinder/msg.bounds).in -/
namespace f_msg_bounds_in
noncomputable def c0 : Code := (Go.Proofs.Tryd.f77.body).getD .skip
abbrev ps : Sg := [(true, T713d), (false, (.int .i64))]
abbrev rs : Sg := [(false, .bool)]
noncomputable def V : Env := { tt := tt, Γ := slk [] }
theorem V_ok : EnvOk P V := { ck := tt_ck, fits := slk_nil, mixed := mixed }
abbrev R := Tup rs
noncomputable abbrev Q (r : R) : Exit → St → Prop := Qr tt Go.Proofs.Tryd.f77.results ⟨ps, rs, .any, none, fun _ _ => True⟩ r
noncomputable def f (k : Nat) (a1 : T713d.T) (a2 : Int) : Option R :=
  if (decide (a2 ≥ a1.1)) = true then
    some ((decide (a2 ≤ a1.2)), ())
  else
    some (false, ())
noncomputable def S : Spec := ⟨ps, rs, .any, none, fun x r => ∃ k, f k x.1 x.2.1 = some r⟩
theorem rl {k a1 a2 r} (e : f k a1 a2 = some r) : S.rel (a1, a2, ()) r := ⟨k, e⟩
theorem f_ok {r k a1 a2} (H : f k a1 a2 = some r) : Gw P 0 (Q r) (Px c0 1 []) (⟨15, [(0, .cv (.agg [.i a1.1, .i a1.2])), (1, .cv (.one (.i a2)))], []⟩) := by
  unfold f at H
  refine Rg V_ok 1 [(0, hb 0)] az ?_
  rcases of_ite H with ⟨hb1, H⟩ | ⟨hb1, H⟩
  · refine Rg V_ok 0 [(3, {bv := some true})] (ac hb1 az) ?_
    exact Lf (Eq.trans (by kernel_rfl) H)
  · refine Rg V_ok 0 [(3, {bv := some false})] (ac hb1 az) ?_
    exact Lf (Eq.trans (by kernel_rfl) H)
theorem fits : Fits P 77 S := fits_of V_ok Go.Proofs.Tryd.func77 (by kernel_rfl) (by decide) (by decide) rfl (fun x r ⟨k, H⟩ => of_G (f_ok H))
end f_msg_bounds_in
/-! ### function 57, wayfinder/msg.May -/
namespace f_msg_May
noncomputable def c0 : Code := (Go.Proofs.Tryd.f57.body).getD .skip
abbrev ps : Sg := [(true, T4414)]
abbrev rs : Sg := [(false, .bool)]
noncomputable def V : Env := { tt := tt, Γ := slk [(22, f_rule_May.S), (77, f_msg_bounds_in.S)] }
theorem V_ok : EnvOk P V := { ck := tt_ck, fits := slk_cons f_rule_May.fits (slk_cons f_msg_bounds_in.fits (slk_nil)), mixed := mixed }
abbrev R := Tup rs
noncomputable abbrev Q (r : R) : Exit → St → Prop := Qr tt Go.Proofs.Tryd.f57.results ⟨ps, rs, .any, none, fun _ _ => True⟩ r
noncomputable def s1 (p1 : Bool) (p2 : T4414.T) : St := ⟨47, [(1, .cv (.one (.ptr 0 0))), (12, .cv (.one (.bool p1)))], [(.box 10, (encC .any T4414 p2))]⟩
noncomputable def s2 (p1 : Bool) (p2 : T4414.T) (p3 : Ta655.T) : St := ⟨47, [(1, .cv (.one (.ptr 0 0))), (3, .cv (.one (.ptr 1 0))), (4, .cv (.one (.bool p1)))], [(.box 10, (encC .any T4414 p2)), (.box 5, (encC .any Ta655 p3))]⟩
noncomputable def j2 (k : Nat) (p1 : Bool) (p2 : T4414.T) (p3 : Ta655.T) : Option R :=
  if p1 = true then
  (f_msg_bounds_in.f k (1, 1048576) p2.2.1).bind fun y8 =>
    if y8.1 = true then
      (f_msg_bounds_in.f k p3.1 p2.2.2.1).bind fun y9 =>
        if y9.1 = true then
          (f_msg_bounds_in.f k p3.2.1 p2.2.2.2.1).bind fun y10 =>
            some (y10.1, ())
        else
          some (false, ())
    else
      some (false, ())
else
  some (false, ())
theorem j2_ok {r} {k p1 p2 p3} (H : j2 k p1 p2 p3 = some r) : Gw P 0 (Q r) (Px c0 63 []) (s2 p1 p2 p3) := by
  unfold j2 at H
  rcases of_ite H with ⟨hb11, H⟩ | ⟨hb11, H⟩
  · obtain ⟨y8, e12, H⟩ := of_bind H
    rcases of_ite H with ⟨hb13, H⟩ | ⟨hb13, H⟩
    · obtain ⟨y9, e14, H⟩ := of_bind H
      rcases of_ite H with ⟨hb15, H⟩ | ⟨hb15, H⟩
      · obtain ⟨y10, e16, H⟩ := of_bind H
        refine Rg V_ok 0 [(0, {bv := some true}), (5, hr f_msg_bounds_in.S y8), (6, {bv := some true}), (12, hr f_msg_bounds_in.S y9), (13, {bv := some true}), (19, hr f_msg_bounds_in.S y10)] (ac hb11 (ac (f_msg_bounds_in.rl e12) (ac hb13 (ac (f_msg_bounds_in.rl e14) (ac hb15 (ac (f_msg_bounds_in.rl e16) az)))))) ?_
        exact Lf (Eq.trans (by kernel_rfl) H)
      · refine Rg V_ok 0 [(0, {bv := some true}), (5, hr f_msg_bounds_in.S y8), (6, {bv := some true}), (12, hr f_msg_bounds_in.S y9), (13, {bv := some false})] (ac hb11 (ac (f_msg_bounds_in.rl e12) (ac hb13 (ac (f_msg_bounds_in.rl e14) (ac hb15 az))))) ?_
        exact Lf (Eq.trans (by kernel_rfl) H)
    · refine Rg V_ok 0 [(0, {bv := some true}), (5, hr f_msg_bounds_in.S y8), (6, {bv := some false})] (ac hb11 (ac (f_msg_bounds_in.rl e12) (ac hb13 az))) ?_
      exact Lf (Eq.trans (by kernel_rfl) H)
  · refine Rg V_ok 0 [(0, {bv := some false})] (ac hb11 az) ?_
    exact Lf (Eq.trans (by kernel_rfl) H)
noncomputable def j1 (k : Nat) (p1 : Bool) (p2 : T4414.T) : Option R :=
  if p1 = true then
  some (false, ())
else
  if 0 ≤ p2.1 then
    if p2.1 < (6 : Int) then
      if ((att Ta655 glob0 p2.1).2).2 = true then
        (f_rule_May.f k p2.2.2.2.2).bind fun y6 =>
          j2 k y6.1 p2 (att Ta655 glob0 p2.1)
      else
        j2 k ((p2.2.2.2.2.1.1 == (0 : Int)) && ((p2.2.2.2.2.1.2 == (0 : Int)) && ((p2.2.2.2.2.2.1 == (0 : Int)) && ((p2.2.2.2.2.2.2.1 == (0 : Int)) && ((p2.2.2.2.2.2.2.2.1 == (0 : Int)) && ((p2.2.2.2.2.2.2.2.2 == (0 : Int)) && true)))))) p2 (att Ta655 glob0 p2.1)
    else none
  else none
theorem j1_ok {r} {k p1 p2} (H : j1 k p1 p2 = some r) : Gw P 0 (Q r) (Px c0 13 []) (s1 p1 p2) := by
  unfold j1 at H
  rcases of_ite H with ⟨hb2, H⟩ | ⟨hb2, H⟩
  · refine C1 hb2 ?_
    refine Rg V_ok 0 [] az ?_
    exact Lf (Eq.trans (by kernel_rfl) H)
  · refine C0 hb2 ?_
    obtain ⟨n3, H⟩ := of_if H
    obtain ⟨n4, H⟩ := of_if H
    refine Rg V_ok 1 [(4, hb 1)] (ac n3 (ac n4 az)) ?_
    refine Rg V_ok 0 [] az ?_
    refine Rg V_ok 0 [] az ?_
    rcases of_ite H with ⟨hb5, H⟩ | ⟨hb5, H⟩
    · refine C1 hb5 ?_
      obtain ⟨y6, e7, H⟩ := of_bind H
      refine Rg V_ok 0 [(2, hr f_rule_May.S y6)] (ac (f_rule_May.rl e7) az) ?_
      exact Jm (tn [1, 3, 4] 2) (j2_ok H)
    · refine C0 hb5 ?_
      exact Jm (tn [1, 3, 4] 2) (j2_ok H)
noncomputable def f (k : Nat) (a1 : T4414.T) : Option R :=
  if (decide (a1.1 < (0 : Int))) = true then
    j1 k true a1
  else
    j1 k (decide (a1.1 ≥ (6 : Int))) a1
noncomputable def S : Spec := ⟨ps, rs, .any, none, fun x r => ∃ k, f k x.1 = some r⟩
theorem rl {k a1 r} (e : f k a1 = some r) : S.rel (a1, ()) r := ⟨k, e⟩
theorem f_ok {r k a1} (H : f k a1 = some r) : Gw P 0 (Q r) (Px c0 1 []) (⟨47, [(0, .cv (.agg (encC .any T4414 a1)))], []⟩) := by
  unfold f at H
  refine Rg V_ok 1 [(0, hb 0)] az ?_
  rcases of_ite H with ⟨hb1, H⟩ | ⟨hb1, H⟩
  · refine Rg V_ok 0 [(2, {bv := some true})] (ac hb1 az) ?_
    exact Jm (tn [1, 12] 1) (j1_ok H)
  · refine Rg V_ok 0 [(2, {bv := some false})] (ac hb1 az) ?_
    exact Jm (tn [1, 12] 1) (j1_ok H)
theorem fits : Fits P 57 S := fits_of V_ok Go.Proofs.Tryd.func57 (by kernel_rfl) (by decide) (by decide) rfl (fun x r ⟨k, H⟩ => of_G (f_ok H))
end f_msg_May
/-! ### function 83, wayfinder/octets.may -/
namespace f_octets_may
noncomputable def c0 : Code := (Go.Proofs.Tryd.f83.body).getD .skip
abbrev ps : Sg := [(false, (.int .i64))]
abbrev rs : Sg := [(false, .bool)]
noncomputable def V : Env := { tt := tt, Γ := slk [] }
theorem V_ok : EnvOk P V := { ck := tt_ck, fits := slk_nil, mixed := mixed }
abbrev R := Tup rs
noncomputable abbrev Q (r : R) : Exit → St → Prop := Qr tt Go.Proofs.Tryd.f83.results ⟨ps, rs, .any, none, fun _ _ => True⟩ r
noncomputable def f (k : Nat) (a1 : Int) : Option R :=
  if (decide (a1 ≥ (1 : Int))) = true then
    some ((decide (a1 ≤ (4 : Int))), ())
  else
    some (false, ())
noncomputable def S : Spec := ⟨ps, rs, .any, none, fun x r => ∃ k, f k x.1 = some r⟩
theorem rl {k a1 r} (e : f k a1 = some r) : S.rel (a1, ()) r := ⟨k, e⟩
theorem f_ok {r k a1} (H : f k a1 = some r) : Gw P 0 (Q r) (Px c0 1 []) (⟨9, [(0, .cv (.one (.i a1)))], []⟩) := by
  unfold f at H
  refine Rg V_ok 0 [] az ?_
  rcases of_ite H with ⟨hb1, H⟩ | ⟨hb1, H⟩
  · refine Rg V_ok 0 [(1, {bv := some true})] (ac hb1 az) ?_
    exact Lf (Eq.trans (by kernel_rfl) H)
  · refine Rg V_ok 0 [(1, {bv := some false})] (ac hb1 az) ?_
    exact Lf (Eq.trans (by kernel_rfl) H)
theorem fits : Fits P 83 S := fits_of V_ok Go.Proofs.Tryd.func83 (by kernel_rfl) (by decide) (by decide) rfl (fun x r ⟨k, H⟩ => of_G (f_ok H))
end f_octets_may
/-! ### function 78, wayfinder/octets.Put -/
namespace f_octets_Put
noncomputable def c0 : Code := (Go.Proofs.Tryd.f78.body).getD .skip
abbrev ps : Sg := [(false, (.int .i64)), (false, (.int .i64))]
abbrev rs : Sg := [(false, (.slice (.int .u8))), (false, (.int .i64))]
noncomputable def V : Env := { tt := tt, Γ := slk [(83, f_octets_may.S)] }
theorem V_ok : EnvOk P V := { ck := tt_ck, fits := slk_cons f_octets_may.fits (slk_nil), mixed := mixed }
abbrev R := Tup rs
noncomputable abbrev Q (r : R) : Exit → St → Prop := Qr tt Go.Proofs.Tryd.f78.results ⟨ps, rs, .any, none, fun _ _ => True⟩ r
noncomputable def s1 (p1 p2 : Int) (p3 : Bool) : St := ⟨42, [(0, .cv (.one (.i p1))), (1, .cv (.one (.i p2))), (21, .cv (.one (.bool p3)))], []⟩
noncomputable def s2 (p1 p2 p3 p4 : Int) (p5 : List Int) : St := ⟨42, [(0, .cv (.one (.i p1))), (1, .cv (.one (.i p2))), (6, .cv (.one (.own 0))), (25, .cv (.one (.i p3))), (26, .cv (.one (.i p4)))], [(.buf 5 (.int .u8) p5, [])]⟩
noncomputable def b2 (L2 : Int → Int → Int → Int → List Int → Option R) (k : Nat) (p1 p2 p3 p4 : Int) (p5 : List Int) : Option R :=
  if (decide (p4 < p3)) = true then
  if 0 ≤ (IntKind.i64.wrap (8 * (IntKind.i64.wrap ((IntKind.i64.wrap (p2 - 1)) - p4)))) then
    if 0 ≤ p4 then
      if p4 < (p5.length : Int) then
        L2 p1 p2 p3 (IntKind.i64.wrap (p4 + 1)) (p5.set p4.toNat (IntKind.u8.wrap (Int.fdiv p1 (2 ^ (min (IntKind.i64.wrap (8 * (IntKind.i64.wrap ((IntKind.i64.wrap (p2 - 1)) - p4)))).toNat (IntKind.i64.bits))))))
      else none
    else none
  else none
else
  some (p5, ((0 : Int), ()))
theorem b2_ok {r} {L2 : Int → Int → Int → Int → List Int → Option R} {m2 : Nat} (hL2 : ∀ p1 p2 p3 p4 p5, L2 p1 p2 p3 p4 p5 = some r → Gw P 0 (Q r) (Pb c0 87 [] m2) (s2 p1 p2 p3 p4 p5)) {k p1 p2 p3 p4 p5} (H : b2 L2 k p1 p2 p3 p4 p5 = some r) : Gw P 0 (Q r) (Px c0 151 [m2]) (s2 p1 p2 p3 p4 p5) := by
  unfold b2 at H
  refine Rg V_ok 0 [] az ?_
  rcases of_ite H with ⟨hb6, H⟩ | ⟨hb6, H⟩
  · refine C1 hb6 ?_
    refine Rg V_ok 0 [] az ?_
    obtain ⟨n7, H⟩ := of_if H
    obtain ⟨n8, H⟩ := of_if H
    obtain ⟨n9, H⟩ := of_if H
    refine Rg V_ok 0 [] (ac n7 (ac n8 (ac n9 az))) ?_
    refine Rg V_ok 0 [] az ?_
    exact Jm (tn [0, 1, 6, 25, 26] 1) (hL2 p1 p2 p3 (IntKind.i64.wrap (p4 + 1)) (p5.set p4.toNat (IntKind.u8.wrap (Int.fdiv p1 (2 ^ (min (IntKind.i64.wrap (8 * (IntKind.i64.wrap ((IntKind.i64.wrap (p2 - 1)) - p4)))).toNat (IntKind.i64.bits)))))) H)
  · refine C0 hb6 ?_
    refine Rg V_ok 0 [] az ?_
    exact Lf (Eq.trans (by kernel_rfl) H)
noncomputable def l2 (k : Nat) : Nat → Int → Int → Int → Int → List Int → Option R
  | 0, _, _, _, _, _ => none
  | m + 1, p1, p2, p3, p4, p5 => b2 (l2 k m) k p1 p2 p3 p4 p5
theorem l2_ok {r} (k : Nat) : ∀ (m2 : Nat) (p1 p2 p3 p4 : Int) (p5 : List Int), l2 k m2 p1 p2 p3 p4 p5 = some r → Gw P 0 (Q r) (Pb c0 87 [] m2) (s2 p1 p2 p3 p4 p5)
  | 0, _, _, _, _, _, H => by cases H
  | m2 + 1, p1, p2, p3, p4, p5, H => SU (by kernel_rfl) (b2_ok (l2_ok k m2) H)
noncomputable def j1 (k : Nat) (p1 p2 : Int) (p3 : Bool) : Option R :=
  if p3 = true then
  some ([], ((1 : Int), ()))
else
  if 0 ≤ p2 ∧ p2 = p2 ∧ (1 : Int) * p2 ≤ 140737488355328 ∧ p2 ≤ 140737488355328 then
    l2 k k p1 p2 ((List.replicate p2.toNat (0 : Int)).length : Int) 0 (List.replicate p2.toNat (0 : Int))
  else none
theorem j1_ok {r} {k p1 p2 p3} (H : j1 k p1 p2 p3 = some r) : Gw P 0 (Q r) (Px c0 13 []) (s1 p1 p2 p3) := by
  unfold j1 at H
  rcases of_ite H with ⟨hb4, H⟩ | ⟨hb4, H⟩
  · refine C1 hb4 ?_
    refine Rg V_ok 0 [] az ?_
    exact Lf (Eq.trans (by kernel_rfl) H)
  · refine C0 hb4 ?_
    obtain ⟨n5, H⟩ := of_if H
    refine Rg V_ok 1 [(1, hb 0)] (ac n5 az) ?_
    refine Rg V_ok 0 [] az ?_
    exact LP k (Jm (tn [0, 1, 6, 25, 26] 1) (l2_ok k k p1 p2 ((List.replicate p2.toNat (0 : Int)).length : Int) 0 (List.replicate p2.toNat (0 : Int)) H))
noncomputable def f (k : Nat) (a1 a2 : Int) : Option R :=
  (f_octets_may.f k a2).bind fun y1 =>
    if (!y1.1) = true then
      j1 k a1 a2 true
    else
      if (decide (a1 < (0 : Int))) = true then
        j1 k a1 a2 true
      else
        if 0 ≤ (IntKind.i64.wrap (8 * a2)) then
          j1 k a1 a2 ((Int.fdiv a1 (2 ^ (min (IntKind.i64.wrap (8 * a2)).toNat (IntKind.i64.bits)))) != (0 : Int))
        else none
noncomputable def S : Spec := ⟨ps, rs, .any, none, fun x r => ∃ k, f k x.1 x.2.1 = some r⟩
theorem rl {k a1 a2 r} (e : f k a1 a2 = some r) : S.rel (a1, a2, ()) r := ⟨k, e⟩
theorem f_ok {r k a1 a2} (H : f k a1 a2 = some r) : Gw P 0 (Q r) (Px c0 1 []) (⟨42, [(0, .cv (.one (.i a1))), (1, .cv (.one (.i a2)))], []⟩) := by
  unfold f at H
  refine Rg V_ok 0 [] az ?_
  obtain ⟨y1, e2, H⟩ := of_bind H
  rcases of_ite H with ⟨hb3, H⟩ | ⟨hb3, H⟩
  · refine Rg V_ok 0 [(1, hr f_octets_may.S y1), (2, {bv := some true})] (ac (f_octets_may.rl e2) (ac hb3 az)) ?_
    exact Jm (tn [0, 1, 21] 0) (j1_ok H)
  · rcases of_ite H with ⟨hb10, H⟩ | ⟨hb10, H⟩
    · refine Rg V_ok 0 [(1, hr f_octets_may.S y1), (2, {bv := some false}), (6, {bv := some true})] (ac (f_octets_may.rl e2) (ac hb3 (ac hb10 az))) ?_
      exact Jm (tn [0, 1, 21] 0) (j1_ok H)
    · obtain ⟨n11, H⟩ := of_if H
      refine Rg V_ok 0 [(1, hr f_octets_may.S y1), (2, {bv := some false}), (6, {bv := some false})] (ac (f_octets_may.rl e2) (ac hb3 (ac hb10 (ac n11 az)))) ?_
      exact Jm (tn [0, 1, 21] 0) (j1_ok H)
theorem fits : Fits P 78 S := fits_of V_ok Go.Proofs.Tryd.func78 (by kernel_rfl) (by decide) (by decide) rfl (fun x r ⟨k, H⟩ => of_G (f_ok H))
end f_octets_Put
/-! ### function 58, wayfinder/octets.PutAll -/
namespace f_octets_PutAll
noncomputable def c0 : Code := (Go.Proofs.Tryd.f58.body).getD .skip
abbrev ps : Sg := [(false, (.slice (.int .i64))), (false, (.slice (.int .i64)))]
abbrev rs : Sg := [(false, (.slice (.int .u8))), (false, (.int .i64))]
noncomputable def V : Env := { tt := tt, Γ := slk [(78, f_octets_Put.S)] }
theorem V_ok : EnvOk P V := { ck := tt_ck, fits := slk_cons f_octets_Put.fits (slk_nil), mixed := mixed }
abbrev R := Tup rs
noncomputable abbrev Q (r : R) : Exit → St → Prop := Qr tt Go.Proofs.Tryd.f58.results ⟨ps, rs, .any, none, fun _ _ => True⟩ r
noncomputable def s1 (p1 p2 : List Int) (p3 p4 : Int) (p5 : List Int) : St := ⟨40, [(1, .cv (.one (.sl (.int .i64) p1 .any))), (6, .cv (.one (.own 0))), (16, .cv (.one (.sl (.int .i64) p2 .any))), (17, .cv (.one (.i p3))), (18, .cv (.one (.i p4)))], [(.buf 5 (.int .u8) p5, [])]⟩
noncomputable def b1 (L1 : List Int → List Int → Int → Int → List Int → Option R) (k : Nat) (p1 p2 : List Int) (p3 p4 : Int) (p5 : List Int) : Option R :=
  if (decide (p4 < p3)) = true then
  if 0 ≤ p4 then
    if p4 < (p2.length : Int) then
      if p4 < (p1.length : Int) then
        (f_octets_Put.f k (att (.int .i64) p2 p4) (att (.int .i64) p1 p4)).bind fun y5 =>
          if (y5.2.1 != (0 : Int)) = true then
            some ([], (y5.2.1, ()))
          else
            if (p5.length + y5.1.length) * 1 ≤ 140737488355328 then
              L1 p1 p2 p3 (IntKind.i64.wrap (p4 + 1)) (p5 ++ y5.1)
            else none
      else none
    else none
  else none
else
  some (p5, ((0 : Int), ()))
theorem b1_ok {r} {L1 : List Int → List Int → Int → Int → List Int → Option R} {m1 : Nat} (hL1 : ∀ p1 p2 p3 p4 p5, L1 p1 p2 p3 p4 p5 = some r → Gw P 0 (Q r) (Pb c0 87 [] m1) (s1 p1 p2 p3 p4 p5)) {k p1 p2 p3 p4 p5} (H : b1 L1 k p1 p2 p3 p4 p5 = some r) : Gw P 0 (Q r) (Px c0 151 [m1]) (s1 p1 p2 p3 p4 p5) := by
  unfold b1 at H
  refine Rg V_ok 0 [] az ?_
  rcases of_ite H with ⟨hb2, H⟩ | ⟨hb2, H⟩
  · refine C1 hb2 ?_
    obtain ⟨n3, H⟩ := of_if H
    obtain ⟨n4, H⟩ := of_if H
    refine Rg V_ok 0 [] (ac n3 (ac n4 az)) ?_
    obtain ⟨n6, H⟩ := of_if H
    obtain ⟨y5, e7, H⟩ := of_bind H
    refine Rg V_ok 0 [(5, hr f_octets_Put.S y5)] (ac n3 (ac n6 (ac (f_octets_Put.rl e7) az))) ?_
    refine Rg V_ok 0 [] az ?_
    rcases of_ite H with ⟨hb8, H⟩ | ⟨hb8, H⟩
    · refine C1 hb8 ?_
      refine Rg V_ok 0 [] az ?_
      exact Lf (Eq.trans (by kernel_rfl) H)
    · refine C0 hb8 ?_
      obtain ⟨n9, H⟩ := of_if H
      refine Rg V_ok 1 [(2, hb 1)] (ac n9 az) ?_
      refine Rg V_ok 0 [] az ?_
      exact Jm (tl [1, 6, 16, 17, 18] [1]) (hL1 p1 p2 p3 (IntKind.i64.wrap (p4 + 1)) (p5 ++ y5.1) H)
  · refine C0 hb2 ?_
    refine Rg V_ok 0 [] az ?_
    exact Lf (Eq.trans (by kernel_rfl) H)
noncomputable def l1 (k : Nat) : Nat → List Int → List Int → Int → Int → List Int → Option R
  | 0, _, _, _, _, _ => none
  | m + 1, p1, p2, p3, p4, p5 => b1 (l1 k m) k p1 p2 p3 p4 p5
theorem l1_ok {r} (k : Nat) : ∀ (m1 : Nat) (p1 p2 : List Int) (p3 p4 : Int) (p5 : List Int), l1 k m1 p1 p2 p3 p4 p5 = some r → Gw P 0 (Q r) (Pb c0 87 [] m1) (s1 p1 p2 p3 p4 p5)
  | 0, _, _, _, _, _, H => by cases H
  | m1 + 1, p1, p2, p3, p4, p5, H => SU (by kernel_rfl) (b1_ok (l1_ok k m1) H)
noncomputable def f (k : Nat) (a1 a2 : List Int) : Option R :=
  if ((a1.length : Int) != (a2.length : Int)) = true then
    some ([], ((1 : Int), ()))
  else
    l1 k k a2 a1 (a1.length : Int) 0 []
noncomputable def S : Spec := ⟨ps, rs, .any, none, fun x r => ∃ k, f k x.1 x.2.1 = some r⟩
theorem rl {k a1 a2 r} (e : f k a1 a2 = some r) : S.rel (a1, a2, ()) r := ⟨k, e⟩
theorem f_ok {r k a1 a2} (H : f k a1 a2 = some r) : Gw P 0 (Q r) (Px c0 1 []) (⟨40, [(0, .cv (.one (.sl (.int .i64) a1 .any))), (1, .cv (.one (.sl (.int .i64) a2 .any)))], []⟩) := by
  unfold f at H
  refine Rg V_ok 0 [] az ?_
  refine Rg V_ok 0 [] az ?_
  rcases of_ite H with ⟨hb1, H⟩ | ⟨hb1, H⟩
  · refine C1 hb1 ?_
    refine Rg V_ok 0 [] az ?_
    exact Lf (Eq.trans (by kernel_rfl) H)
  · refine C0 hb1 ?_
    refine Rg V_ok 0 [] az ?_
    refine Rg V_ok 0 [] az ?_
    exact LP k (Jm {fz := [], gr := 1, ad := [.ownT 6 0 5 (.int .u8)], live := [1, 6, 16, 17, 18], src := [some 0]} (l1_ok k k a2 a1 (a1.length : Int) 0 [] H))
theorem fits : Fits P 58 S := fits_of V_ok Go.Proofs.Tryd.func58 (by kernel_rfl) (by decide) (by decide) rfl (fun x r ⟨k, H⟩ => of_G (f_ok H))
end f_octets_PutAll
/-! ### function 78, wayfinder/octets.Put, whose answer is then the caller's own -/
namespace f_octets_PutO
noncomputable def c0 : Code := (Go.Proofs.Tryd.f78.body).getD .skip
abbrev ps : Sg := [(false, (.int .i64)), (false, (.int .i64))]
abbrev rs : Sg := [(false, .slice (.int .u8)), (false, .int .i64)]
noncomputable def V : Env := { tt := tt, Γ := slk [(83, f_octets_may.S)] }
theorem V_ok : EnvOk P V := { ck := tt_ck, fits := slk_cons f_octets_may.fits (slk_nil), mixed := mixed }
abbrev R := Tup rs
noncomputable abbrev Q (r : R) : Exit → St → Prop := QrO2 Go.Proofs.Tryd.f78.results 5 (.int .u8) .i64 r
noncomputable def s1 (p1 p2 : Int) (p3 : Bool) : St := ⟨42, [(0, .cv (.one (.i p1))), (1, .cv (.one (.i p2))), (21, .cv (.one (.bool p3)))], []⟩
noncomputable def s2 (p1 p2 p3 p4 : Int) (p5 : List Int) : St := ⟨42, [(0, .cv (.one (.i p1))), (1, .cv (.one (.i p2))), (6, .cv (.one (.own 0))), (25, .cv (.one (.i p3))), (26, .cv (.one (.i p4)))], [(.buf 5 (.int .u8) p5, [])]⟩
noncomputable def b2 (L2 : Int → Int → Int → Int → List Int → Option R) (k : Nat) (p1 p2 p3 p4 : Int) (p5 : List Int) : Option R :=
  if (decide (p4 < p3)) = true then
  if 0 ≤ (IntKind.i64.wrap (8 * (IntKind.i64.wrap ((IntKind.i64.wrap (p2 - 1)) - p4)))) then
    if 0 ≤ p4 then
      if p4 < (p5.length : Int) then
        L2 p1 p2 p3 (IntKind.i64.wrap (p4 + 1)) (p5.set p4.toNat (IntKind.u8.wrap (Int.fdiv p1 (2 ^ (min (IntKind.i64.wrap (8 * (IntKind.i64.wrap ((IntKind.i64.wrap (p2 - 1)) - p4)))).toNat (IntKind.i64.bits))))))
      else none
    else none
  else none
else
  some (p5, ((0 : Int), ()))
theorem b2_ok {r} {L2 : Int → Int → Int → Int → List Int → Option R} {m2 : Nat} (hL2 : ∀ p1 p2 p3 p4 p5, L2 p1 p2 p3 p4 p5 = some r → Gw P 0 (Q r) (Pb c0 87 [] m2) (s2 p1 p2 p3 p4 p5)) {k p1 p2 p3 p4 p5} (H : b2 L2 k p1 p2 p3 p4 p5 = some r) : Gw P 0 (Q r) (Px c0 151 [m2]) (s2 p1 p2 p3 p4 p5) := by
  unfold b2 at H
  refine Rg V_ok 0 [] az ?_
  rcases of_ite H with ⟨hb6, H⟩ | ⟨hb6, H⟩
  · refine C1 hb6 ?_
    refine Rg V_ok 0 [] az ?_
    obtain ⟨n7, H⟩ := of_if H
    obtain ⟨n8, H⟩ := of_if H
    obtain ⟨n9, H⟩ := of_if H
    refine Rg V_ok 0 [] (ac n7 (ac n8 (ac n9 az))) ?_
    refine Rg V_ok 0 [] az ?_
    exact Jm (tn [0, 1, 6, 25, 26] 1) (hL2 p1 p2 p3 (IntKind.i64.wrap (p4 + 1)) (p5.set p4.toNat (IntKind.u8.wrap (Int.fdiv p1 (2 ^ (min (IntKind.i64.wrap (8 * (IntKind.i64.wrap ((IntKind.i64.wrap (p2 - 1)) - p4)))).toNat (IntKind.i64.bits)))))) H)
  · refine C0 hb6 ?_
    refine Rg V_ok 0 [] az ?_
    obtain rfl := Option.some.inj H
    exact LfO2 (by kernel_rfl)
noncomputable def l2 (k : Nat) : Nat → Int → Int → Int → Int → List Int → Option R
  | 0, _, _, _, _, _ => none
  | m + 1, p1, p2, p3, p4, p5 => b2 (l2 k m) k p1 p2 p3 p4 p5
theorem l2_ok {r} (k : Nat) : ∀ (m2 : Nat) (p1 p2 p3 p4 : Int) (p5 : List Int), l2 k m2 p1 p2 p3 p4 p5 = some r → Gw P 0 (Q r) (Pb c0 87 [] m2) (s2 p1 p2 p3 p4 p5)
  | 0, _, _, _, _, _, H => by cases H
  | m2 + 1, p1, p2, p3, p4, p5, H => SU (by kernel_rfl) (b2_ok (l2_ok k m2) H)
noncomputable def j1 (k : Nat) (p1 p2 : Int) (p3 : Bool) : Option R :=
  if p3 = true then
  some ([], ((1 : Int), ()))
else
  if 0 ≤ p2 ∧ p2 = p2 ∧ (1 : Int) * p2 ≤ 140737488355328 ∧ p2 ≤ 140737488355328 then
    l2 k k p1 p2 ((List.replicate p2.toNat (0 : Int)).length : Int) 0 (List.replicate p2.toNat (0 : Int))
  else none
theorem j1_ok {r} {k p1 p2 p3} (H : j1 k p1 p2 p3 = some r) : Gw P 0 (Q r) (Px c0 13 []) (s1 p1 p2 p3) := by
  unfold j1 at H
  rcases of_ite H with ⟨hb4, H⟩ | ⟨hb4, H⟩
  · refine C1 hb4 ?_
    refine Rg V_ok 0 [] az ?_
    refine GT {gr := 1, ad := [.ownT 4 0 5 (.int .u8)], live := [4, 5], src := [some 0]} ?_
    obtain rfl := Option.some.inj H
    exact LfO2 (by kernel_rfl)
  · refine C0 hb4 ?_
    obtain ⟨n5, H⟩ := of_if H
    refine Rg V_ok 1 [(1, hb 0)] (ac n5 az) ?_
    refine Rg V_ok 0 [] az ?_
    exact LP k (Jm (tn [0, 1, 6, 25, 26] 1) (l2_ok k k p1 p2 ((List.replicate p2.toNat (0 : Int)).length : Int) 0 (List.replicate p2.toNat (0 : Int)) H))
noncomputable def f (k : Nat) (a1 a2 : Int) : Option R :=
  (f_octets_may.f k a2).bind fun y1 =>
    if (!y1.1) = true then
      j1 k a1 a2 true
    else
      if (decide (a1 < (0 : Int))) = true then
        j1 k a1 a2 true
      else
        if 0 ≤ (IntKind.i64.wrap (8 * a2)) then
          j1 k a1 a2 ((Int.fdiv a1 (2 ^ (min (IntKind.i64.wrap (8 * a2)).toNat (IntKind.i64.bits)))) != (0 : Int))
        else none
noncomputable def S : Spec := ⟨ps, rs, .any, some 5, fun x r => ∃ k, f k x.1 x.2.1 = some r⟩
theorem rl {k a1 a2 r} (e : f k a1 a2 = some r) : S.rel (a1, a2, ()) r := ⟨k, e⟩
theorem f_ok {r k a1 a2} (H : f k a1 a2 = some r) : Gw P 0 (Q r) (Px c0 1 []) (⟨42, [(0, .cv (.one (.i a1))), (1, .cv (.one (.i a2)))], []⟩) := by
  unfold f at H
  refine Rg V_ok 0 [] az ?_
  obtain ⟨y1, e2, H⟩ := of_bind H
  rcases of_ite H with ⟨hb3, H⟩ | ⟨hb3, H⟩
  · refine Rg V_ok 0 [(1, hr f_octets_may.S y1), (2, {bv := some true})] (ac (f_octets_may.rl e2) (ac hb3 az)) ?_
    exact Jm (tn [0, 1, 21] 0) (j1_ok H)
  · rcases of_ite H with ⟨hb10, H⟩ | ⟨hb10, H⟩
    · refine Rg V_ok 0 [(1, hr f_octets_may.S y1), (2, {bv := some false}), (6, {bv := some true})] (ac (f_octets_may.rl e2) (ac hb3 (ac hb10 az))) ?_
      exact Jm (tn [0, 1, 21] 0) (j1_ok H)
    · obtain ⟨n11, H⟩ := of_if H
      refine Rg V_ok 0 [(1, hr f_octets_may.S y1), (2, {bv := some false}), (6, {bv := some false})] (ac (f_octets_may.rl e2) (ac hb3 (ac hb10 (ac n11 az)))) ?_
      exact Jm (tn [0, 1, 21] 0) (j1_ok H)
theorem fits : Fits P 78 S := fits_ofO2 V_ok Go.Proofs.Tryd.func78 (by kernel_rfl) (by decide) (by decide) (fun x r ⟨k, H⟩ => of_G (f_ok H))
end f_octets_PutO
/-! ### function 59, wayfinder/rule.Put -/
namespace f_rule_Put
noncomputable def c0 : Code := (Go.Proofs.Tryd.f59.body).getD .skip
abbrev ps : Sg := [(true, T1383)]
abbrev rs : Sg := [(false, (.slice (.int .u8))), (false, (.int .i64))]
noncomputable def V : Env := { tt := tt, Γ := slk [(22, f_rule_May.S), (78, f_octets_PutO.S)] }
theorem V_ok : EnvOk P V := { ck := tt_ck, fits := slk_cons f_rule_May.fits (slk_cons f_octets_PutO.fits (slk_nil)), mixed := mixed }
abbrev R := Tup rs
noncomputable abbrev Q (r : R) : Exit → St → Prop := Qr tt Go.Proofs.Tryd.f59.results ⟨ps, rs, .any, none, fun _ _ => True⟩ r
noncomputable def f (k : Nat) (a1 : T1383.T) : Option R :=
  (f_rule_May.f k a1).bind fun y1 =>
    if (!y1.1) = true then
      some ([], ((1 : Int), ()))
    else
      (f_octets_PutO.f k a1.1.1 (4 : Int)).bind fun y4 =>
        if (y4.1.length + 5) * 1 ≤ 140737488355328 then
          some ((y4.1 ++ [(IntKind.u8.wrap a1.1.2), (IntKind.u8.wrap (IntKind.i64.wrap (a1.2.1 + 1))), (IntKind.u8.wrap a1.2.2.1), (IntKind.u8.wrap a1.2.2.2.1), (IntKind.u8.wrap a1.2.2.2.2)]), (y4.2.1, ()))
        else none
noncomputable def S : Spec := ⟨ps, rs, .any, none, fun x r => ∃ k, f k x.1 = some r⟩
theorem rl {k a1 r} (e : f k a1 = some r) : S.rel (a1, ()) r := ⟨k, e⟩
theorem f_ok {r k a1} (H : f k a1 = some r) : Gw P 0 (Q r) (Px c0 1 []) (⟨39, [(0, .cv (.agg (encC .any T1383 a1)))], []⟩) := by
  unfold f at H
  refine Rg V_ok 1 [(0, hb 0)] az ?_
  obtain ⟨y1, e2, H⟩ := of_bind H
  refine Rg V_ok 0 [(1, hr f_rule_May.S y1)] (ac (f_rule_May.rl e2) az) ?_
  rcases of_ite H with ⟨hb3, H⟩ | ⟨hb3, H⟩
  · refine C1 hb3 ?_
    refine Rg V_ok 0 [] az ?_
    exact Lf (Eq.trans (by kernel_rfl) H)
  · refine C0 hb3 ?_
    obtain ⟨y4, e5, H⟩ := of_bind H
    refine Rg V_ok 1 [(3, {sb := 1, res := some ⟨f_octets_PutO.S.rs, y4⟩})] (ac (f_octets_PutO.rl e5) az) ?_
    obtain ⟨n6, H⟩ := of_if H
    refine Rg V_ok 1 [(21, hb 2)] (ac n6 az) ?_
    exact Lf (Eq.trans (by kernel_rfl) H)
theorem fits : Fits P 59 S := fits_of V_ok Go.Proofs.Tryd.func59 (by kernel_rfl) (by decide) (by decide) rfl (fun x r ⟨k, H⟩ => of_G (f_ok H))
end f_rule_Put
/-! ### function 58, wayfinder/octets.PutAll, whose answer is then the caller's own -/
namespace f_octets_PutAllO
noncomputable def c0 : Code := (Go.Proofs.Tryd.f58.body).getD .skip
abbrev ps : Sg := [(false, (.slice (.int .i64))), (false, (.slice (.int .i64)))]
abbrev rs : Sg := [(false, .slice (.int .u8)), (false, .int .i64)]
noncomputable def V : Env := { tt := tt, Γ := slk [(78, f_octets_PutO.S)] }
theorem V_ok : EnvOk P V := { ck := tt_ck, fits := slk_cons f_octets_PutO.fits (slk_nil), mixed := mixed }
abbrev R := Tup rs
noncomputable abbrev Q (r : R) : Exit → St → Prop := QrO2 Go.Proofs.Tryd.f58.results 5 (.int .u8) .i64 r
noncomputable def s1 (p1 p2 : List Int) (p3 p4 : Int) (p5 : List Int) : St := ⟨40, [(1, .cv (.one (.sl (.int .i64) p1 .any))), (6, .cv (.one (.own 0))), (16, .cv (.one (.sl (.int .i64) p2 .any))), (17, .cv (.one (.i p3))), (18, .cv (.one (.i p4)))], [(.buf 5 (.int .u8) p5, [])]⟩
noncomputable def b1 (L1 : List Int → List Int → Int → Int → List Int → Option R) (k : Nat) (p1 p2 : List Int) (p3 p4 : Int) (p5 : List Int) : Option R :=
  if (decide (p4 < p3)) = true then
  if 0 ≤ p4 then
    if p4 < (p2.length : Int) then
      if p4 < (p1.length : Int) then
        (f_octets_PutO.f k (att (.int .i64) p2 p4) (att (.int .i64) p1 p4)).bind fun y5 =>
          if (y5.2.1 != (0 : Int)) = true then
            some ([], (y5.2.1, ()))
          else
            if (p5.length + y5.1.length) * 1 ≤ 140737488355328 then
              L1 p1 p2 p3 (IntKind.i64.wrap (p4 + 1)) (p5 ++ y5.1)
            else none
      else none
    else none
  else none
else
  some (p5, ((0 : Int), ()))
theorem b1_ok {r} {L1 : List Int → List Int → Int → Int → List Int → Option R} {m1 : Nat} (hL1 : ∀ p1 p2 p3 p4 p5, L1 p1 p2 p3 p4 p5 = some r → Gw P 0 (Q r) (Pb c0 87 [] m1) (s1 p1 p2 p3 p4 p5)) {k p1 p2 p3 p4 p5} (H : b1 L1 k p1 p2 p3 p4 p5 = some r) : Gw P 0 (Q r) (Px c0 151 [m1]) (s1 p1 p2 p3 p4 p5) := by
  unfold b1 at H
  refine Rg V_ok 0 [] az ?_
  rcases of_ite H with ⟨hb2, H⟩ | ⟨hb2, H⟩
  · refine C1 hb2 ?_
    obtain ⟨n3, H⟩ := of_if H
    obtain ⟨n4, H⟩ := of_if H
    refine Rg V_ok 0 [] (ac n3 (ac n4 az)) ?_
    obtain ⟨n6, H⟩ := of_if H
    obtain ⟨y5, e7, H⟩ := of_bind H
    refine Rg V_ok 1 [(5, {sb := 1, res := some ⟨f_octets_PutO.S.rs, y5⟩})] (ac n3 (ac n6 (ac (f_octets_PutO.rl e7) az))) ?_
    refine Rg V_ok 0 [] az ?_
    rcases of_ite H with ⟨hb8, H⟩ | ⟨hb8, H⟩
    · refine C1 hb8 ?_
      refine Rg V_ok 0 [] az ?_
      refine GT {gr := 1, ad := [.ownT 4 2 5 (.int .u8)], live := [4, 5], src := [some 2]} ?_
      obtain rfl := Option.some.inj H
      exact LfO2 (by kernel_rfl)
    · refine C0 hb8 ?_
      obtain ⟨n9, H⟩ := of_if H
      refine Rg V_ok 1 [(2, hb 2)] (ac n9 az) ?_
      refine Rg V_ok 0 [] az ?_
      exact Jm (tl [1, 6, 16, 17, 18] [2]) (hL1 p1 p2 p3 (IntKind.i64.wrap (p4 + 1)) (p5 ++ y5.1) H)
  · refine C0 hb2 ?_
    refine Rg V_ok 0 [] az ?_
    obtain rfl := Option.some.inj H
    exact LfO2 (by kernel_rfl)
noncomputable def l1 (k : Nat) : Nat → List Int → List Int → Int → Int → List Int → Option R
  | 0, _, _, _, _, _ => none
  | m + 1, p1, p2, p3, p4, p5 => b1 (l1 k m) k p1 p2 p3 p4 p5
theorem l1_ok {r} (k : Nat) : ∀ (m1 : Nat) (p1 p2 : List Int) (p3 p4 : Int) (p5 : List Int), l1 k m1 p1 p2 p3 p4 p5 = some r → Gw P 0 (Q r) (Pb c0 87 [] m1) (s1 p1 p2 p3 p4 p5)
  | 0, _, _, _, _, _, H => by cases H
  | m1 + 1, p1, p2, p3, p4, p5, H => SU (by kernel_rfl) (b1_ok (l1_ok k m1) H)
noncomputable def f (k : Nat) (a1 a2 : List Int) : Option R :=
  if ((a1.length : Int) != (a2.length : Int)) = true then
    some ([], ((1 : Int), ()))
  else
    l1 k k a2 a1 (a1.length : Int) 0 []
noncomputable def S : Spec := ⟨ps, rs, .any, some 5, fun x r => ∃ k, f k x.1 x.2.1 = some r⟩
theorem rl {k a1 a2 r} (e : f k a1 a2 = some r) : S.rel (a1, a2, ()) r := ⟨k, e⟩
theorem f_ok {r k a1 a2} (H : f k a1 a2 = some r) : Gw P 0 (Q r) (Px c0 1 []) (⟨40, [(0, .cv (.one (.sl (.int .i64) a1 .any))), (1, .cv (.one (.sl (.int .i64) a2 .any)))], []⟩) := by
  unfold f at H
  refine Rg V_ok 0 [] az ?_
  refine Rg V_ok 0 [] az ?_
  rcases of_ite H with ⟨hb1, H⟩ | ⟨hb1, H⟩
  · refine C1 hb1 ?_
    refine Rg V_ok 0 [] az ?_
    refine GT {gr := 1, ad := [.ownT 4 0 5 (.int .u8)], live := [4, 5], src := [some 0]} ?_
    obtain rfl := Option.some.inj H
    exact LfO2 (by kernel_rfl)
  · refine C0 hb1 ?_
    refine Rg V_ok 0 [] az ?_
    refine Rg V_ok 0 [] az ?_
    exact LP k (Jm {fz := [], gr := 1, ad := [.ownT 6 0 5 (.int .u8)], live := [1, 6, 16, 17, 18], src := [some 0]} (l1_ok k k a2 a1 (a1.length : Int) 0 [] H))
theorem fits : Fits P 58 S := fits_ofO2 V_ok Go.Proofs.Tryd.func58 (by kernel_rfl) (by decide) (by decide) (fun x r ⟨k, H⟩ => of_G (f_ok H))
end f_octets_PutAllO
/-! ### function 59, wayfinder/rule.Put, whose answer is then the caller's own -/
namespace f_rule_PutO
noncomputable def c0 : Code := (Go.Proofs.Tryd.f59.body).getD .skip
abbrev ps : Sg := [(true, T1383)]
abbrev rs : Sg := [(false, .slice (.int .u8)), (false, .int .i64)]
noncomputable def V : Env := { tt := tt, Γ := slk [(22, f_rule_May.S), (78, f_octets_PutO.S)] }
theorem V_ok : EnvOk P V := { ck := tt_ck, fits := slk_cons f_rule_May.fits (slk_cons f_octets_PutO.fits (slk_nil)), mixed := mixed }
abbrev R := Tup rs
noncomputable abbrev Q (r : R) : Exit → St → Prop := QrO2 Go.Proofs.Tryd.f59.results 5 (.int .u8) .i64 r
noncomputable def f (k : Nat) (a1 : T1383.T) : Option R :=
  (f_rule_May.f k a1).bind fun y1 =>
    if (!y1.1) = true then
      some ([], ((1 : Int), ()))
    else
      (f_octets_PutO.f k a1.1.1 (4 : Int)).bind fun y4 =>
        if (y4.1.length + 5) * 1 ≤ 140737488355328 then
          some ((y4.1 ++ [(IntKind.u8.wrap a1.1.2), (IntKind.u8.wrap (IntKind.i64.wrap (a1.2.1 + 1))), (IntKind.u8.wrap a1.2.2.1), (IntKind.u8.wrap a1.2.2.2.1), (IntKind.u8.wrap a1.2.2.2.2)]), (y4.2.1, ()))
        else none
noncomputable def S : Spec := ⟨ps, rs, .any, some 5, fun x r => ∃ k, f k x.1 = some r⟩
theorem rl {k a1 r} (e : f k a1 = some r) : S.rel (a1, ()) r := ⟨k, e⟩
theorem f_ok {r k a1} (H : f k a1 = some r) : Gw P 0 (Q r) (Px c0 1 []) (⟨39, [(0, .cv (.agg (encC .any T1383 a1)))], []⟩) := by
  unfold f at H
  refine Rg V_ok 1 [(0, hb 0)] az ?_
  obtain ⟨y1, e2, H⟩ := of_bind H
  refine Rg V_ok 0 [(1, hr f_rule_May.S y1)] (ac (f_rule_May.rl e2) az) ?_
  rcases of_ite H with ⟨hb3, H⟩ | ⟨hb3, H⟩
  · refine C1 hb3 ?_
    refine Rg V_ok 0 [] az ?_
    refine GT {gr := 1, ad := [.ownT 2 1 5 (.int .u8)], live := [2, 3], src := [some 1]} ?_
    obtain rfl := Option.some.inj H
    exact LfO2 (by kernel_rfl)
  · refine C0 hb3 ?_
    obtain ⟨y4, e5, H⟩ := of_bind H
    refine Rg V_ok 1 [(3, {sb := 1, res := some ⟨f_octets_PutO.S.rs, y4⟩})] (ac (f_octets_PutO.rl e5) az) ?_
    obtain ⟨n6, H⟩ := of_if H
    refine Rg V_ok 1 [(21, hb 2)] (ac n6 az) ?_
    obtain rfl := Option.some.inj H
    exact LfO2 (by kernel_rfl)
theorem fits : Fits P 59 S := fits_ofO2 V_ok Go.Proofs.Tryd.func59 (by kernel_rfl) (by decide) (by decide) (fun x r ⟨k, H⟩ => of_G (f_ok H))
end f_rule_PutO
/-! ### function 26, wayfinder/msg.Put -/
namespace f_msg_Put
noncomputable def c0 : Code := (Go.Proofs.Tryd.f26.body).getD .skip
abbrev ps : Sg := [(true, T4414)]
abbrev rs : Sg := [(false, (.slice (.int .u8))), (false, (.int .i64))]
noncomputable def V : Env := { tt := tt, Γ := slk [(57, f_msg_May.S), (58, f_octets_PutAllO.S), (59, f_rule_PutO.S)] }
theorem V_ok : EnvOk P V := { ck := tt_ck, fits := slk_cons f_msg_May.fits (slk_cons f_octets_PutAllO.fits (slk_cons f_rule_PutO.fits (slk_nil))), mixed := mixed }
abbrev R := Tup rs
noncomputable abbrev Q (r : R) : Exit → St → Prop := Qr tt Go.Proofs.Tryd.f26.results ⟨ps, rs, .any, none, fun _ _ => True⟩ r
noncomputable def s1 (p1 : Int) (p2 : Bool) (p3 : T4414.T) (p4 : List Int) : St := ⟨46, [(1, .cv (.one (.ptr 0 0))), (4, .cv (.one (.own 1))), (5, .cv (.one (.i p1))), (33, .cv (.one (.bool p2)))], [(.box 10, (encC .any T4414 p3)), (.buf 5 (.int .u8) p4, [])]⟩
noncomputable def j1 (k : Nat) (p1 : Int) (p2 : Bool) (p3 : T4414.T) (p4 : List Int) : Option R :=
  if p2 = true then
  some (p4, (p1, ()))
else
  (f_rule_PutO.f k p3.2.2.2.2).bind fun y8 =>
    if (p4.length + y8.1.length) * 1 ≤ 140737488355328 then
      some ((p4 ++ y8.1), (y8.2.1, ()))
    else none
theorem j1_ok {r} {k p1 p2 p3 p4} (H : j1 k p1 p2 p3 p4 = some r) : Gw P 0 (Q r) (Px c0 55 []) (s1 p1 p2 p3 p4) := by
  unfold j1 at H
  rcases of_ite H with ⟨hb7, H⟩ | ⟨hb7, H⟩
  · refine C1 hb7 ?_
    refine Rg V_ok 0 [] az ?_
    exact Lf (Eq.trans (by kernel_rfl) H)
  · refine C0 hb7 ?_
    obtain ⟨y8, e9, H⟩ := of_bind H
    refine Rg V_ok 1 [(2, {sb := 2, res := some ⟨f_rule_PutO.S.rs, y8⟩})] (ac (f_rule_PutO.rl e9) az) ?_
    obtain ⟨n10, H⟩ := of_if H
    refine Rg V_ok 1 [(2, hb 3)] (ac n10 az) ?_
    exact Lf (Eq.trans (by kernel_rfl) H)
noncomputable def f (k : Nat) (a1 : T4414.T) : Option R :=
  (f_msg_May.f k a1).bind fun y1 =>
    if (!y1.1) = true then
      some ([], ((1 : Int), ()))
    else
      (f_octets_PutAllO.f k [a1.1, a1.2.1, a1.2.2.1, a1.2.2.2.1] [1, 3, 3, 2]).bind fun y4 =>
        if (y4.2.1 != (0 : Int)) = true then
          j1 k y4.2.1 true a1 y4.1
        else
          if 0 ≤ a1.1 then
            if a1.1 < (6 : Int) then
              j1 k y4.2.1 (!((att Ta655 glob0 a1.1).2).2) a1 y4.1
            else none
          else none
noncomputable def S : Spec := ⟨ps, rs, .any, none, fun x r => ∃ k, f k x.1 = some r⟩
theorem rl {k a1 r} (e : f k a1 = some r) : S.rel (a1, ()) r := ⟨k, e⟩
theorem f_ok {r k a1} (H : f k a1 = some r) : Gw P 0 (Q r) (Px c0 1 []) (⟨46, [(0, .cv (.agg (encC .any T4414 a1)))], []⟩) := by
  unfold f at H
  refine Rg V_ok 1 [(0, hb 0)] az ?_
  obtain ⟨y1, e2, H⟩ := of_bind H
  refine Rg V_ok 0 [(1, hr f_msg_May.S y1)] (ac (f_msg_May.rl e2) az) ?_
  rcases of_ite H with ⟨hb3, H⟩ | ⟨hb3, H⟩
  · refine C1 hb3 ?_
    refine Rg V_ok 0 [] az ?_
    exact Lf (Eq.trans (by kernel_rfl) H)
  · refine C0 hb3 ?_
    obtain ⟨y4, e5, H⟩ := of_bind H
    refine Rg V_ok 1 [(10, {sb := 1, res := some ⟨f_octets_PutAllO.S.rs, y4⟩})] (ac (f_octets_PutAllO.rl e5) az) ?_
    rcases of_ite H with ⟨hb6, H⟩ | ⟨hb6, H⟩
    · refine Rg V_ok 0 [(1, {bv := some true})] (ac hb6 az) ?_
      exact Jm (tn [1, 4, 5, 33] 2) (j1_ok H)
    · obtain ⟨n11, H⟩ := of_if H
      obtain ⟨n12, H⟩ := of_if H
      refine Rg V_ok 0 [(1, {bv := some false})] (ac hb6 (ac n11 (ac n12 az))) ?_
      exact Jm (tn [1, 4, 5, 33] 2) (j1_ok H)
theorem fits : Fits P 26 S := fits_of V_ok Go.Proofs.Tryd.func26 (by kernel_rfl) (by decide) (by decide) rfl (fun x r ⟨k, H⟩ => of_G (f_ok H))
end f_msg_Put
/-! ### function 27, wayfinder/octets.Sum -/
namespace f_octets_Sum
noncomputable def c0 : Code := (Go.Proofs.Tryd.f27.body).getD .skip
abbrev ps : Sg := [(false, (.slice (.int .u8)))]
abbrev rs : Sg := [(false, (.int .i64))]
noncomputable def V : Env := { tt := tt, Γ := slk [] }
theorem V_ok : EnvOk P V := { ck := tt_ck, fits := slk_nil, mixed := mixed }
abbrev R := Tup rs
noncomputable abbrev Q (r : R) : Exit → St → Prop := Qr tt Go.Proofs.Tryd.f27.results ⟨ps, rs, .any, none, fun _ _ => True⟩ r
noncomputable def s1 (p1 : Int) (p2 : List Int) (p3 p4 : Int) : St := ⟨32, [(3, .cv (.one (.i p1))), (6, .cv (.one (.sl (.int .u8) p2 .any))), (7, .cv (.one (.i p3))), (8, .cv (.one (.i p4)))], []⟩
noncomputable def s2 (p1 : Int) : St := ⟨32, [(3, .cv (.one (.i p1)))], []⟩
noncomputable def b2 (L2 : Int → Option R) (k : Nat) (p1 : Int) : Option R :=
  if (decide (p1 > (65535 : Int))) = true then
  L2 (IntKind.i64.wrap ((Int.fdiv p1 (2 ^ (min (16 : Int).toNat (IntKind.i64.bits)))) + (IntKind.i64.wrap (((BitVec.ofInt IntKind.i64.bits p1 &&& BitVec.ofInt IntKind.i64.bits 65535).toNat : Int)))))
else
  some ((IntKind.i64.wrap (65535 - p1)), ())
theorem b2_ok {r} {L2 : Int → Option R} {m2 : Nat} (hL2 : ∀ p1, L2 p1 = some r → Gw P 0 (Q r) (Pb c0 3 [] m2) (s2 p1)) {k p1} (H : b2 L2 k p1 = some r) : Gw P 0 (Q r) (Px c0 61 [m2]) (s2 p1) := by
  unfold b2 at H
  refine Rg V_ok 0 [] az ?_
  rcases of_ite H with ⟨hb5, H⟩ | ⟨hb5, H⟩
  · refine C1 hb5 ?_
    refine Rg V_ok 0 [] (ac (show 0 ≤ (16 : Int) by decide) az) ?_
    exact Jm (tn [3] 0) (hL2 (IntKind.i64.wrap ((Int.fdiv p1 (2 ^ (min (16 : Int).toNat (IntKind.i64.bits)))) + (IntKind.i64.wrap (((BitVec.ofInt IntKind.i64.bits p1 &&& BitVec.ofInt IntKind.i64.bits 65535).toNat : Int))))) H)
  · refine C0 hb5 ?_
    refine Rg V_ok 0 [] az ?_
    exact Lf (Eq.trans (by kernel_rfl) H)
noncomputable def l2 (k : Nat) : Nat → Int → Option R
  | 0, _ => none
  | m + 1, p1 => b2 (l2 k m) k p1
theorem l2_ok {r} (k : Nat) : ∀ (m2 : Nat) (p1 : Int), l2 k m2 p1 = some r → Gw P 0 (Q r) (Pb c0 3 [] m2) (s2 p1)
  | 0, _, H => by cases H
  | m2 + 1, p1, H => SU (by kernel_rfl) (b2_ok (l2_ok k m2) H)
noncomputable def b1 (L1 : Int → List Int → Int → Int → Option R) (k : Nat) (p1 : Int) (p2 : List Int) (p3 p4 : Int) : Option R :=
  if (decide (p4 < p3)) = true then
  if 0 ≤ p4 then
    if p4 < (p2.length : Int) then
      if 0 ≤ (IntKind.i64.wrap (8 * (Int.tmod (IntKind.i64.wrap (p4 + 1)) 2))) then
        L1 (IntKind.i64.wrap (p1 + (IntKind.i64.wrap ((IntKind.i64.wrap (att (.int .u8) p2 p4)) * (2 ^ (min (IntKind.i64.wrap (8 * (Int.tmod (IntKind.i64.wrap (p4 + 1)) 2))).toNat (IntKind.i64.bits))))))) p2 p3 (IntKind.i64.wrap (p4 + 1))
      else none
    else none
  else none
else
  b2 (l2 k 1000000) k p1
theorem b1_ok {r} {L1 : Int → List Int → Int → Int → Option R} {m1 : Nat} (hL1 : ∀ p1 p2 p3 p4, L1 p1 p2 p3 p4 = some r → Gw P 0 (Q r) (Pb c0 85 [1000000] m1) (s1 p1 p2 p3 p4)) {k p1 p2 p3 p4} (H : b1 L1 k p1 p2 p3 p4 = some r) : Gw P 0 (Q r) (Px c0 149 [1000000, m1]) (s1 p1 p2 p3 p4) := by
  unfold b1 at H
  refine Rg V_ok 0 [] az ?_
  rcases of_ite H with ⟨hb1, H⟩ | ⟨hb1, H⟩
  · refine C1 hb1 ?_
    obtain ⟨n2, H⟩ := of_if H
    obtain ⟨n3, H⟩ := of_if H
    refine Rg V_ok 0 [] (ac n2 (ac n3 az)) ?_
    obtain ⟨n4, H⟩ := of_if H
    refine Rg V_ok 0 [] (ac (show (2 : Int) ≠ 0 by decide) (ac n4 az)) ?_
    refine Rg V_ok 0 [] az ?_
    exact Jm (tn [3, 6, 7, 8] 0) (hL1 (IntKind.i64.wrap (p1 + (IntKind.i64.wrap ((IntKind.i64.wrap (att (.int .u8) p2 p4)) * (2 ^ (min (IntKind.i64.wrap (8 * (Int.tmod (IntKind.i64.wrap (p4 + 1)) 2))).toNat (IntKind.i64.bits))))))) p2 p3 (IntKind.i64.wrap (p4 + 1)) H)
  · refine C0 hb1 ?_
    exact Jm (tn [3] 0) (b2_ok (l2_ok k 1000000) H)
noncomputable def l1 (k : Nat) : Nat → Int → List Int → Int → Int → Option R
  | 0, _, _, _, _ => none
  | m + 1, p1, p2, p3, p4 => b1 (l1 k m) k p1 p2 p3 p4
theorem l1_ok {r} (k : Nat) : ∀ (m1 : Nat) (p1 : Int) (p2 : List Int) (p3 : Int) (p4 : Int), l1 k m1 p1 p2 p3 p4 = some r → Gw P 0 (Q r) (Pb c0 85 [1000000] m1) (s1 p1 p2 p3 p4)
  | 0, _, _, _, _, H => by cases H
  | m1 + 1, p1, p2, p3, p4, H => SU (by kernel_rfl) (b1_ok (l1_ok k m1) H)
noncomputable def f (k : Nat) (a1 : List Int) : Option R :=
  l1 k k 0 a1 (a1.length : Int) 0
noncomputable def S : Spec := ⟨ps, rs, .any, none, fun x r => ∃ k, f k x.1 = some r⟩
theorem rl {k a1 r} (e : f k a1 = some r) : S.rel (a1, ()) r := ⟨k, e⟩
theorem f_ok {r k a1} (H : f k a1 = some r) : Gw P 0 (Q r) (Px c0 1 []) (⟨32, [(0, .cv (.one (.sl (.int .u8) a1 .any)))], []⟩) := by
  unfold f at H
  refine Rg V_ok 0 [] az ?_
  refine SC 1000000 ?_
  refine Rg V_ok 0 [] az ?_
  refine Rg V_ok 0 [] az ?_
  exact LP k (Jm (tn [3, 6, 7, 8] 0) (l1_ok k k 0 a1 (a1.length : Int) 0 H))
theorem fits : Fits P 27 S := fits_of V_ok Go.Proofs.Tryd.func27 (by kernel_rfl) (by decide) (by decide) rfl (fun x r ⟨k, H⟩ => of_G (f_ok H))
end f_octets_Sum
/-! ### function 26, wayfinder/msg.Put, whose answer is then the caller's own -/
namespace f_msg_PutO
noncomputable def c0 : Code := (Go.Proofs.Tryd.f26.body).getD .skip
abbrev ps : Sg := [(true, T4414)]
abbrev rs : Sg := [(false, .slice (.int .u8)), (false, .int .i64)]
noncomputable def V : Env := { tt := tt, Γ := slk [(57, f_msg_May.S), (58, f_octets_PutAllO.S), (59, f_rule_PutO.S)] }
theorem V_ok : EnvOk P V := { ck := tt_ck, fits := slk_cons f_msg_May.fits (slk_cons f_octets_PutAllO.fits (slk_cons f_rule_PutO.fits (slk_nil))), mixed := mixed }
abbrev R := Tup rs
noncomputable abbrev Q (r : R) : Exit → St → Prop := QrO2 Go.Proofs.Tryd.f26.results 5 (.int .u8) .i64 r
noncomputable def s1 (p1 : Int) (p2 : Bool) (p3 : T4414.T) (p4 : List Int) : St := ⟨46, [(1, .cv (.one (.ptr 0 0))), (4, .cv (.one (.own 1))), (5, .cv (.one (.i p1))), (33, .cv (.one (.bool p2)))], [(.box 10, (encC .any T4414 p3)), (.buf 5 (.int .u8) p4, [])]⟩
noncomputable def j1 (k : Nat) (p1 : Int) (p2 : Bool) (p3 : T4414.T) (p4 : List Int) : Option R :=
  if p2 = true then
  some (p4, (p1, ()))
else
  (f_rule_PutO.f k p3.2.2.2.2).bind fun y8 =>
    if (p4.length + y8.1.length) * 1 ≤ 140737488355328 then
      some ((p4 ++ y8.1), (y8.2.1, ()))
    else none
theorem j1_ok {r} {k p1 p2 p3 p4} (H : j1 k p1 p2 p3 p4 = some r) : Gw P 0 (Q r) (Px c0 55 []) (s1 p1 p2 p3 p4) := by
  unfold j1 at H
  rcases of_ite H with ⟨hb7, H⟩ | ⟨hb7, H⟩
  · refine C1 hb7 ?_
    refine Rg V_ok 0 [] az ?_
    obtain rfl := Option.some.inj H
    exact LfO2 (by kernel_rfl)
  · refine C0 hb7 ?_
    obtain ⟨y8, e9, H⟩ := of_bind H
    refine Rg V_ok 1 [(2, {sb := 2, res := some ⟨f_rule_PutO.S.rs, y8⟩})] (ac (f_rule_PutO.rl e9) az) ?_
    obtain ⟨n10, H⟩ := of_if H
    refine Rg V_ok 1 [(2, hb 3)] (ac n10 az) ?_
    obtain rfl := Option.some.inj H
    exact LfO2 (by kernel_rfl)
noncomputable def f (k : Nat) (a1 : T4414.T) : Option R :=
  (f_msg_May.f k a1).bind fun y1 =>
    if (!y1.1) = true then
      some ([], ((1 : Int), ()))
    else
      (f_octets_PutAllO.f k [a1.1, a1.2.1, a1.2.2.1, a1.2.2.2.1] [1, 3, 3, 2]).bind fun y4 =>
        if (y4.2.1 != (0 : Int)) = true then
          j1 k y4.2.1 true a1 y4.1
        else
          if 0 ≤ a1.1 then
            if a1.1 < (6 : Int) then
              j1 k y4.2.1 (!((att Ta655 glob0 a1.1).2).2) a1 y4.1
            else none
          else none
noncomputable def S : Spec := ⟨ps, rs, .any, some 5, fun x r => ∃ k, f k x.1 = some r⟩
theorem rl {k a1 r} (e : f k a1 = some r) : S.rel (a1, ()) r := ⟨k, e⟩
theorem f_ok {r k a1} (H : f k a1 = some r) : Gw P 0 (Q r) (Px c0 1 []) (⟨46, [(0, .cv (.agg (encC .any T4414 a1)))], []⟩) := by
  unfold f at H
  refine Rg V_ok 1 [(0, hb 0)] az ?_
  obtain ⟨y1, e2, H⟩ := of_bind H
  refine Rg V_ok 0 [(1, hr f_msg_May.S y1)] (ac (f_msg_May.rl e2) az) ?_
  rcases of_ite H with ⟨hb3, H⟩ | ⟨hb3, H⟩
  · refine C1 hb3 ?_
    refine Rg V_ok 0 [] az ?_
    refine GT {gr := 1, ad := [.ownT 2 1 5 (.int .u8)], live := [2, 3], src := [some 1]} ?_
    obtain rfl := Option.some.inj H
    exact LfO2 (by kernel_rfl)
  · refine C0 hb3 ?_
    obtain ⟨y4, e5, H⟩ := of_bind H
    refine Rg V_ok 1 [(10, {sb := 1, res := some ⟨f_octets_PutAllO.S.rs, y4⟩})] (ac (f_octets_PutAllO.rl e5) az) ?_
    rcases of_ite H with ⟨hb6, H⟩ | ⟨hb6, H⟩
    · refine Rg V_ok 0 [(1, {bv := some true})] (ac hb6 az) ?_
      exact Jm (tn [1, 4, 5, 33] 2) (j1_ok H)
    · obtain ⟨n11, H⟩ := of_if H
      obtain ⟨n12, H⟩ := of_if H
      refine Rg V_ok 0 [(1, {bv := some false})] (ac hb6 (ac n11 (ac n12 az))) ?_
      exact Jm (tn [1, 4, 5, 33] 2) (j1_ok H)
theorem fits : Fits P 26 S := fits_ofO2 V_ok Go.Proofs.Tryd.func26 (by kernel_rfl) (by decide) (by decide) (fun x r ⟨k, H⟩ => of_G (f_ok H))
end f_msg_PutO
/-! ### function 9, wayfinder/frame.Seal -/
namespace f_frame_Seal
noncomputable def c0 : Code := (Go.Proofs.Tryd.f9.body).getD .skip
abbrev ps : Sg := [(true, T4414)]
abbrev rs : Sg := [(false, (.slice (.int .u8))), (false, (.int .i64))]
noncomputable def V : Env := { tt := tt, Γ := slk [(26, f_msg_PutO.S), (27, f_octets_Sum.S)] }
theorem V_ok : EnvOk P V := { ck := tt_ck, fits := slk_cons f_msg_PutO.fits (slk_cons f_octets_Sum.fits (slk_nil)), mixed := mixed }
abbrev R := Tup rs
noncomputable abbrev Q (r : R) : Exit → St → Prop := Qr tt Go.Proofs.Tryd.f9.results ⟨ps, rs, .any, none, fun _ _ => True⟩ r
noncomputable def s1 (p1 : List Int) : St := ⟨39, [(6, .cv (.one (.own 0)))], [(.buf 5 (.int .u8) p1, [])]⟩
noncomputable def j1 (k : Nat) (p1 : List Int) : Option R :=
  (f_octets_Sum.f k p1).bind fun y7 =>
  if (p1.length + 2) * 1 ≤ 140737488355328 then
    some ((p1 ++ [(IntKind.u8.wrap (Int.fdiv y7.1 (2 ^ (min (8 : Int).toNat (IntKind.i64.bits))))), (IntKind.u8.wrap y7.1)]), ((0 : Int), ()))
  else none
theorem j1_ok {r} {k p1} (H : j1 k p1 = some r) : Gw P 0 (Q r) (Px c0 63 []) (s1 p1) := by
  unfold j1 at H
  obtain ⟨y7, e8, H⟩ := of_bind H
  refine Rg V_ok 0 [(1, hr f_octets_Sum.S y7)] (ac (f_octets_Sum.rl e8) az) ?_
  obtain ⟨n9, H⟩ := of_if H
  refine Rg V_ok 1 [(7, hb 1)] (ac (show 0 ≤ (8 : Int) by decide) (ac n9 az)) ?_
  exact Lf (Eq.trans (by kernel_rfl) H)
noncomputable def f (k : Nat) (a1 : T4414.T) : Option R :=
  (f_msg_PutO.f k a1).bind fun y1 =>
    if (y1.2.1 != (0 : Int)) = true then
      some ([], (y1.2.1, ()))
    else
      if (2 + y1.1.length) * 1 ≤ 140737488355328 then
        if ((Int.tmod (y1.1.length : Int) 2) == (1 : Int)) = true then
          if (([197, (IntKind.u8.wrap (y1.1.length : Int))] ++ y1.1).length + 1) * 1 ≤ 140737488355328 then
            j1 k (([197, (IntKind.u8.wrap (y1.1.length : Int))] ++ y1.1) ++ [0])
          else none
        else
          j1 k ([197, (IntKind.u8.wrap (y1.1.length : Int))] ++ y1.1)
      else none
noncomputable def S : Spec := ⟨ps, rs, .any, none, fun x r => ∃ k, f k x.1 = some r⟩
theorem rl {k a1 r} (e : f k a1 = some r) : S.rel (a1, ()) r := ⟨k, e⟩
theorem f_ok {r k a1} (H : f k a1 = some r) : Gw P 0 (Q r) (Px c0 1 []) (⟨39, [(0, .cv (.agg (encC .any T4414 a1)))], []⟩) := by
  unfold f at H
  refine Rg V_ok 1 [(0, hb 0)] az ?_
  obtain ⟨y1, e2, H⟩ := of_bind H
  refine Rg V_ok 1 [(1, {sb := 1, res := some ⟨f_msg_PutO.S.rs, y1⟩})] (ac (f_msg_PutO.rl e2) az) ?_
  refine Rg V_ok 0 [] az ?_
  rcases of_ite H with ⟨hb3, H⟩ | ⟨hb3, H⟩
  · refine C1 hb3 ?_
    refine Rg V_ok 0 [] az ?_
    exact Lf (Eq.trans (by kernel_rfl) H)
  · refine C0 hb3 ?_
    obtain ⟨n4, H⟩ := of_if H
    refine Rg V_ok 2 [(3, {sb := 2, bo := true}), (5, hb 3)] (ac n4 az) ?_
    refine Rg V_ok 0 [] (ac (show (2 : Int) ≠ 0 by decide) az) ?_
    rcases of_ite H with ⟨hb5, H⟩ | ⟨hb5, H⟩
    · refine C1 hb5 ?_
      obtain ⟨n6, H⟩ := of_if H
      refine Rg V_ok 1 [(2, hb 4)] (ac n6 az) ?_
      exact Jm (tl [6] [4]) (j1_ok H)
    · refine C0 hb5 ?_
      exact Jm (tl [6] [3]) (j1_ok H)
theorem fits : Fits P 9 S := fits_of V_ok Go.Proofs.Tryd.func9 (by kernel_rfl) (by decide) (by decide) rfl (fun x r ⟨k, H⟩ => of_G (f_ok H))
end f_frame_Seal
/-! ### function 15, wayfinder/agent.New -/
namespace f_agent_New
noncomputable def c0 : Code := (Go.Proofs.Tryd.f15.body).getD .skip
abbrev ps : Sg := []
abbrev rs : Sg := [(true, Tf20b)]
noncomputable def V : Env := { tt := tt, Γ := slk [] }
theorem V_ok : EnvOk P V := { ck := tt_ck, fits := slk_nil, mixed := mixed }
abbrev R := Tup rs
noncomputable abbrev Q (r : R) : Exit → St → Prop := Qr tt Go.Proofs.Tryd.f15.results ⟨ps, rs, .any, none, fun _ _ => True⟩ r
noncomputable def f (k : Nat) : Option R :=
  some ((1, (0, (false, (0, (0, ([], 0)))))), ())
noncomputable def S : Spec := ⟨ps, rs, .any, none, fun x r => ∃ k, f k = some r⟩
theorem rl {k r} (e : f k = some r) : S.rel (()) r := ⟨k, e⟩
theorem f_ok {r k} (H : f k = some r) : Gw P 0 (Q r) (Px c0 1 []) (⟨2, [], []⟩) := by
  unfold f at H
  refine Rg V_ok 1 [(0, hb 0)] az ?_
  refine Rg V_ok 0 [] az ?_
  exact Lf (Eq.trans (by kernel_rfl) H)
theorem fits : Fits P 15 S := fits_of V_ok Go.Proofs.Tryd.func15 (by kernel_rfl) (by decide) (by decide) rfl (fun x r ⟨k, H⟩ => of_G (f_ok H))
end f_agent_New
/-! ### function 66, slices.Clone[[]wayfinder/api.Rule,wayfinder/api.Rule] -/
namespace f_slices_Clone_Rule
noncomputable def c0 : Code := (Go.Proofs.Tryd.f66.body).getD .skip
abbrev ps : Sg := [(false, (.slice T1383))]
abbrev rs : Sg := [(false, (.slice T1383))]
noncomputable def V : Env := { tt := tt, Γ := slk [] }
theorem V_ok : EnvOk P V := { ck := tt_ck, fits := slk_nil, mixed := mixed }
abbrev R := Tup rs
noncomputable abbrev Q (r : R) : Exit → St → Prop := Qr tt Go.Proofs.Tryd.f66.results ⟨ps, rs, .any, none, fun _ _ => True⟩ r
noncomputable def f (k : Nat) (a1 : List T1383.T) : Option R :=
  if (0 + a1.length) * 48 ≤ 140737488355328 then
    if 0 = 0 ∨ 0 < a1.length then
      some (([] ++ a1), ())
    else none
  else none
noncomputable def S : Spec := ⟨ps, rs, .any, none, fun x r => ∃ k, f k x.1 = some r⟩
theorem rl {k a1 r} (e : f k a1 = some r) : S.rel (a1, ()) r := ⟨k, e⟩
theorem f_ok {r k a1} (H : f k a1 = some r) : Gw P 0 (Q r) (Px c0 1 []) (⟨8, [(0, .cv (.one (.sl T1383 a1 .any)))], []⟩) := by
  unfold f at H
  refine Rg V_ok 0 [] az ?_
  refine NL (t := 0) (e := T1383) (xs := a1) (by kernel_rfl) (by kernel_rfl) (fun hx1 => ?_) ?_
  · subst hx1
    replace H := Eq.trans (by kernel_rfl : (some ([], ()) : Option R) = _) H
    refine Rg V_ok 0 [] az ?_
    refine C1 rfl ?_
    refine Rg V_ok 0 [] az ?_
    exact Lf (Eq.trans (by kernel_rfl) H)
  · refine Rg V_ok 0 [] az ?_
    refine C0 rfl ?_
    obtain ⟨n2, H⟩ := of_if H
    obtain ⟨n3, H⟩ := of_if H
    refine Rg V_ok 1 [(2, hb 0)] (ac n2 (ac n3 az)) ?_
    exact Lf (Eq.trans (by kernel_rfl) H)
theorem fits : Fits P 66 S := fits_of V_ok Go.Proofs.Tryd.func66 (by kernel_rfl) (by decide) (by decide) rfl (fun x r ⟨k, H⟩ => of_G (f_ok H))
end f_slices_Clone_Rule
/-! ### function 43, wayfinder/table.own -/
namespace f_table_own
noncomputable def c0 : Code := (Go.Proofs.Tryd.f43.body).getD .skip
abbrev ps : Sg := [(false, (.slice T814c))]
abbrev rs : Sg := [(false, (.slice T814c))]
noncomputable def V : Env := { tt := tt, Γ := slk [(66, f_slices_Clone_Rule.S)] }
theorem V_ok : EnvOk P V := { ck := tt_ck, fits := slk_cons f_slices_Clone_Rule.fits (slk_nil), mixed := mixed }
abbrev R := Tup rs
noncomputable abbrev Q (r : R) : Exit → St → Prop := Qr tt Go.Proofs.Tryd.f43.results ⟨ps, rs, .any, none, fun _ _ => True⟩ r
noncomputable def s1 (p1 : List T814c.T) (p2 p3 : Int) (p4 : List T814c.T) : St := ⟨23, [(3, .cv (.one (.own 0))), (6, .cv (.one (.sl T814c p1 .any))), (7, .cv (.one (.i p2))), (8, .cv (.one (.i p3)))], [(.buf 61 T814c p4, [])]⟩
noncomputable def b1 (L1 : List T814c.T → Int → Int → List T814c.T → Option R) (k : Nat) (p1 : List T814c.T) (p2 p3 : Int) (p4 : List T814c.T) : Option R :=
  if (decide (p3 < p2)) = true then
  if 0 ≤ p3 then
    if p3 < (p1.length : Int) then
      (f_slices_Clone_Rule.f k ((att T814c p1 p3).2)).bind fun y4 =>
        if (p4.length + 1) * 32 ≤ 140737488355328 then
          L1 p1 p2 (IntKind.i64.wrap (p3 + 1)) (p4 ++ [((att T814c p1 p3).1, y4.1)])
        else none
    else none
  else none
else
  some (p4, ())
theorem b1_ok {r} {L1 : List T814c.T → Int → Int → List T814c.T → Option R} {m1 : Nat} (hL1 : ∀ p1 p2 p3 p4, L1 p1 p2 p3 p4 = some r → Gw P 0 (Q r) (Pb c0 43 [] m1) (s1 p1 p2 p3 p4)) {k p1 p2 p3 p4} (H : b1 L1 k p1 p2 p3 p4 = some r) : Gw P 0 (Q r) (Px c0 75 [m1]) (s1 p1 p2 p3 p4) := by
  unfold b1 at H
  refine Rg V_ok 0 [] az ?_
  rcases of_ite H with ⟨hb1, H⟩ | ⟨hb1, H⟩
  · refine C1 hb1 ?_
    obtain ⟨n2, H⟩ := of_if H
    obtain ⟨n3, H⟩ := of_if H
    refine Rg V_ok 1 [(2, hb 1)] (ac n2 (ac n3 az)) ?_
    obtain ⟨y4, e5, H⟩ := of_bind H
    obtain ⟨n6, H⟩ := of_if H
    refine Rg V_ok 1 [(5, hr f_slices_Clone_Rule.S y4), (8, hb 2)] (ac (f_slices_Clone_Rule.rl e5) (ac n6 az)) ?_
    refine Rg V_ok 0 [] az ?_
    exact Jm (tl [3, 6, 7, 8] [2]) (hL1 p1 p2 (IntKind.i64.wrap (p3 + 1)) (p4 ++ [((att T814c p1 p3).1, y4.1)]) H)
  · refine C0 hb1 ?_
    refine Rg V_ok 0 [] az ?_
    exact Lf (Eq.trans (by kernel_rfl) H)
noncomputable def l1 (k : Nat) : Nat → List T814c.T → Int → Int → List T814c.T → Option R
  | 0, _, _, _, _ => none
  | m + 1, p1, p2, p3, p4 => b1 (l1 k m) k p1 p2 p3 p4
theorem l1_ok {r} (k : Nat) : ∀ (m1 : Nat) (p1 : List T814c.T) (p2 p3 : Int) (p4 : List T814c.T), l1 k m1 p1 p2 p3 p4 = some r → Gw P 0 (Q r) (Pb c0 43 [] m1) (s1 p1 p2 p3 p4)
  | 0, _, _, _, _, H => by cases H
  | m1 + 1, p1, p2, p3, p4, H => SU (by kernel_rfl) (b1_ok (l1_ok k m1) H)
noncomputable def f (k : Nat) (a1 : List T814c.T) : Option R :=
  l1 k k a1 (a1.length : Int) 0 []
noncomputable def S : Spec := ⟨ps, rs, .any, none, fun x r => ∃ k, f k x.1 = some r⟩
theorem rl {k a1 r} (e : f k a1 = some r) : S.rel (a1, ()) r := ⟨k, e⟩
theorem f_ok {r k a1} (H : f k a1 = some r) : Gw P 0 (Q r) (Px c0 1 []) (⟨23, [(0, .cv (.one (.sl T814c a1 .any)))], []⟩) := by
  unfold f at H
  refine Rg V_ok 0 [] az ?_
  refine Rg V_ok 0 [] az ?_
  refine Rg V_ok 0 [] az ?_
  exact LP k (Jm {fz := [], gr := 1, ad := [.ownT 3 0 61 T814c], live := [3, 6, 7, 8], src := [some 0]} (l1_ok k k a1 (a1.length : Int) 0 [] H))
theorem fits : Fits P 43 S := fits_of V_ok Go.Proofs.Tryd.func43 (by kernel_rfl) (by decide) (by decide) rfl (fun x r ⟨k, H⟩ => of_G (f_ok H))
end f_table_own
/-! ### function 66, slices.Clone[[]wayfinder/api.Rule,wayfinder/api.Rule], whose answer is then the caller's own -/
namespace f_slices_Clone_Ruleo
noncomputable def c0 : Code := (Go.Proofs.Tryd.f66.body).getD .skip
abbrev ps : Sg := [(false, (.slice T1383))]
abbrev rs : Sg := [(false, .slice T1383)]
noncomputable def V : Env := { tt := tt, Γ := slk [] }
theorem V_ok : EnvOk P V := { ck := tt_ck, fits := slk_nil, mixed := mixed }
abbrev R := Tup rs
noncomputable abbrev Q (r : R) : Exit → St → Prop := QrO Go.Proofs.Tryd.f66.results 30 T1383 r
noncomputable def f (k : Nat) (a1 : List T1383.T) : Option R :=
  if (0 + a1.length) * 48 ≤ 140737488355328 then
    if 0 = 0 ∨ 0 < a1.length then
      some (([] ++ a1), ())
    else none
  else none
noncomputable def S : Spec := ⟨ps, rs, .any, some 30, fun x r => ∃ k, f k x.1 = some r⟩
theorem rl {k a1 r} (e : f k a1 = some r) : S.rel (a1, ()) r := ⟨k, e⟩
theorem f_ok {r k a1} (H : f k a1 = some r) : Gw P 0 (Q r) (Px c0 1 []) (⟨8, [(0, .cv (.one (.sl T1383 a1 .any)))], []⟩) := by
  unfold f at H
  refine Rg V_ok 0 [] az ?_
  refine NL (t := 0) (e := T1383) (xs := a1) (by kernel_rfl) (by kernel_rfl) (fun hx1 => ?_) ?_
  · subst hx1
    replace H := Eq.trans (by kernel_rfl : (some ([], ()) : Option R) = _) H
    refine Rg V_ok 0 [] az ?_
    refine C1 rfl ?_
    refine Rg V_ok 0 [] az ?_
    refine GT {gr := 1, ad := [.ownT 2 0 30 T1383], live := [2], src := [some 0]} ?_
    obtain rfl := Option.some.inj H
    exact LfO (by kernel_rfl)
  · refine Rg V_ok 0 [] az ?_
    refine C0 rfl ?_
    obtain ⟨n2, H⟩ := of_if H
    obtain ⟨n3, H⟩ := of_if H
    refine Rg V_ok 1 [(2, hb 0)] (ac n2 (ac n3 az)) ?_
    obtain rfl := Option.some.inj H
    exact LfO (by kernel_rfl)
theorem fits : Fits P 66 S := fits_ofO V_ok Go.Proofs.Tryd.func66 (by kernel_rfl) (by decide) (by decide) (fun x r ⟨k, H⟩ => of_G (f_ok H))
end f_slices_Clone_Ruleo
/-! ### function 43, wayfinder/table.own, where it is called -/
namespace L43
noncomputable def c0 : Code := (Go.Proofs.Tryd.f43.body).getD .skip
noncomputable def V : Env := { tt := tt, Γ := slk [(66, f_slices_Clone_Rule.S)] }
theorem V_ok : EnvOk P V := { ck := tt_ck, fits := slk_cons f_slices_Clone_Rule.fits (slk_nil), mixed := mixed }
noncomputable def VL : Env := { tt := tt, Γ := slk [(66, f_slices_Clone_Ruleo.S)] }
theorem VL_ok : EnvOk P VL := { ck := tt_ck, fits := slk_cons f_slices_Clone_Ruleo.fits (slk_nil), mixed := mixed }
abbrev R := (List (Int × List T1383.T)) × (Nat) × (List T1383.T) × Unit
noncomputable def s0 (p1 : List T814c.T) : St := ⟨23, [(0, .cv (.one (.sl T814c p1 .any)))], []⟩
noncomputable def out (r : R) : St := ⟨23, [(2, .cv (.one (.own 0)))], [(.lnk 61 (.int .i64) T1383 r.1 1 r.2.1, []), (.buf 30 T1383 r.2.2.1, [])]⟩
abbrev Q (r : R) := CallQ 0 (out r)
noncomputable def s1 (b : Bool) (p1 : List T814c.T) (p2 p3 : Int) (p4 c1 : List T814c.T) (c2 c3 : Int) (c4 : List (Int × List T1383.T)) (c5 : Nat) (c6 : List T1383.T) : St := match b with
  | false => ⟨23, [(3, .cv (.one (.own 0))), (6, .cv (.one (.sl T814c p1 .any))), (7, .cv (.one (.i p2))), (8, .cv (.one (.i p3)))], [(.buf 61 T814c p4, [])]⟩
  | true => ⟨23, [(3, .cv (.one (.own 0))), (6, .cv (.one (.sl T814c c1 .any))), (7, .cv (.one (.i c2))), (8, .cv (.one (.i c3)))], [(.lnk 61 (.int .i64) T1383 c4 1 c5, []), (.buf 30 T1383 c6, [])]⟩
noncomputable def s2 (p1 : List T814c.T) (p2 p3 : Int) (p4 : List (Int × List T1383.T)) (p5 : Nat) (p6 : List T1383.T) : St := ⟨23, [(3, .cv (.one (.own 0))), (6, .cv (.one (.sl T814c p1 .any))), (7, .cv (.one (.i p2))), (8, .cv (.one (.i p3)))], [(.lnk 61 (.int .i64) T1383 p4 1 p5, []), (.buf 30 T1383 p6, [])]⟩
noncomputable def j2 (L1 : Bool → List T814c.T → Int → Int → List T814c.T → List T814c.T → Int → Int → List (Int × List T1383.T) → Nat → List T1383.T → Option R) (q k : Nat) (p1 : List T814c.T) (p2 p3 : Int) (p4 : List (Int × List T1383.T)) (p5 : Nat) (p6 : List T1383.T) : Option R :=
  L1 true [] 0 0 [] p1 p2 (IntKind.i64.wrap (p3 + 1)) p4 p5 p6
theorem j2_ok {r} {L1 : Bool → List T814c.T → Int → Int → List T814c.T → List T814c.T → Int → Int → List (Int × List T1383.T) → Nat → List T1383.T → Option R} {m1 : Nat} (hL1 : ∀ b p1 p2 p3 p4 c1 c2 c3 c4 c5 c6, L1 b p1 p2 p3 p4 c1 c2 c3 c4 c5 c6 = some r → Gw P 0 (Q r) (Pb c0 43 [] m1) (s1 b p1 p2 p3 p4 c1 c2 c3 c4 c5 c6)) {q k p1 p2 p3 p4 p5 p6} (H : j2 L1 q k p1 p2 p3 p4 p5 p6 = some r) : Gw P 0 (Q r) (Px c0 971 [m1]) (s2 p1 p2 p3 p4 p5 p6) := by
  unfold j2 at H
  refine Rg V_ok 0 [] az ?_
  exact Jm (tn [3, 6, 7, 8] 2) (hL1 true [] 0 0 [] p1 p2 (IntKind.i64.wrap (p3 + 1)) p4 p5 p6 H)
noncomputable def b1 (L1 : Bool → List T814c.T → Int → Int → List T814c.T → List T814c.T → Int → Int → List (Int × List T1383.T) → Nat → List T1383.T → Option R) (q k : Nat) (b : Bool) (p1 : List T814c.T) (p2 p3 : Int) (p4 c1 : List T814c.T) (c2 c3 : Int) (c4 : List (Int × List T1383.T)) (c5 : Nat) (c6 : List T1383.T) : Option R := match b with
  | false =>
    if (decide (p3 < p2)) = true then
      if 0 ≤ p3 then
        if p3 < (p1.length : Int) then
          if p4.length = q then
            (f_slices_Clone_Ruleo.f k ((att T814c p1 p3).2)).bind fun y5 =>
              if (p4.length + 1) * 32 ≤ 140737488355328 then
                j2 L1 q k p1 p2 p3 (p4 ++ [((att T814c p1 p3).1, ([] : List T1383.T))]) (p4.length) y5.1
              else none
          else
            (f_slices_Clone_Rule.f k ((att T814c p1 p3).2)).bind fun y8 =>
              if (p4.length + 1) * 32 ≤ 140737488355328 then
                L1 false p1 p2 (IntKind.i64.wrap (p3 + 1)) (p4 ++ [((att T814c p1 p3).1, y8.1)]) [] 0 0 [] 0 []
              else none
        else none
      else none
    else
      none
  | true =>
    if (decide (c3 < c2)) = true then
      if 0 ≤ c3 then
        if c3 < (c1.length : Int) then
          (f_slices_Clone_Rule.f k ((att T814c c1 c3).2)).bind fun y14 =>
            if (c4.length + 1) * 32 ≤ 140737488355328 then
              j2 L1 q k c1 c2 c3 (c4 ++ [((att T814c c1 c3).1, y14.1)]) c5 c6
            else none
        else none
      else none
    else
      some (c4, (c5, (c6, ())))
theorem b1_ok {r} {L1 : Bool → List T814c.T → Int → Int → List T814c.T → List T814c.T → Int → Int → List (Int × List T1383.T) → Nat → List T1383.T → Option R} {m1 : Nat} (hL1 : ∀ b p1 p2 p3 p4 c1 c2 c3 c4 c5 c6, L1 b p1 p2 p3 p4 c1 c2 c3 c4 c5 c6 = some r → Gw P 0 (Q r) (Pb c0 43 [] m1) (s1 b p1 p2 p3 p4 c1 c2 c3 c4 c5 c6)) {q k b p1 p2 p3 p4 c1 c2 c3 c4 c5 c6} (H : b1 L1 q k b p1 p2 p3 p4 c1 c2 c3 c4 c5 c6 = some r) : Gw P 0 (Q r) (Px c0 75 [m1]) (s1 b p1 p2 p3 p4 c1 c2 c3 c4 c5 c6) := by
  unfold b1 at H
  cases b with
  | false =>
    dsimp only at H
    refine Rg V_ok 0 [] az ?_
    rcases of_ite H with ⟨hb1, H⟩ | ⟨hb1, H⟩
    · refine C1 hb1 ?_
      obtain ⟨n2, H⟩ := of_if H
      obtain ⟨n3, H⟩ := of_if H
      refine Rg V_ok 1 [(2, hb 1)] (ac n2 (ac n3 az)) ?_
      rcases of_ifx H with ⟨hb4, H⟩ | ⟨hb4, H⟩
      · obtain ⟨y5, e6, H⟩ := of_bind H
        obtain ⟨n7, H⟩ := of_if H
        refine Rg VL_ok 2 [(5, {sb := 2, res := some ⟨f_slices_Clone_Ruleo.S.rs, y5⟩}), (7, {lk := true}), (8, {sb := 3, lk := true})] (ac (f_slices_Clone_Ruleo.rl e6) (ac n7 az)) ?_
        exact Jm (tl [3, 6, 7, 8] [3, 2]) (j2_ok hL1 H)
      · obtain ⟨y8, e9, H⟩ := of_bind H
        obtain ⟨n10, H⟩ := of_if H
        refine Rg V_ok 1 [(5, hr f_slices_Clone_Rule.S y8), (8, hb 2)] (ac (f_slices_Clone_Rule.rl e9) (ac n10 az)) ?_
        refine Rg V_ok 0 [] az ?_
        exact Jm (tl [3, 6, 7, 8] [2]) (hL1 false p1 p2 (IntKind.i64.wrap (p3 + 1)) (p4 ++ [((att T814c p1 p3).1, y8.1)]) [] 0 0 [] 0 [] H)
    · refine C0 hb1 ?_
      refine Rg V_ok 0 [] az ?_
      cases H
  | true =>
    dsimp only at H
    refine Rg V_ok 0 [] az ?_
    rcases of_ite H with ⟨hb11, H⟩ | ⟨hb11, H⟩
    · refine C1 hb11 ?_
      obtain ⟨n12, H⟩ := of_if H
      obtain ⟨n13, H⟩ := of_if H
      refine Rg V_ok 1 [(2, hb 2)] (ac n12 (ac n13 az)) ?_
      obtain ⟨y14, e15, H⟩ := of_bind H
      obtain ⟨n16, H⟩ := of_if H
      refine Rg V_ok 1 [(5, hr f_slices_Clone_Rule.S y14), (8, {sb := 3, lk := true})] (ac (f_slices_Clone_Rule.rl e15) (ac (show 1 = 1 by decide) (ac n16 az))) ?_
      exact Jm (tl [3, 6, 7, 8] [3, 1]) (j2_ok hL1 H)
    · refine C0 hb11 ?_
      refine Rg V_ok 0 [] az ?_
      obtain rfl := Option.some.inj H
      exact Lq (tn [2] 2)
noncomputable def l1 (q k : Nat) : Nat → Bool → List T814c.T → Int → Int → List T814c.T → List T814c.T → Int → Int → List (Int × List T1383.T) → Nat → List T1383.T → Option R
  | 0, _, _, _, _, _, _, _, _, _, _, _ => none
  | m + 1, b, p1, p2, p3, p4, c1, c2, c3, c4, c5, c6 => b1 (l1 q k m) q k b p1 p2 p3 p4 c1 c2 c3 c4 c5 c6
theorem l1_ok {r} (q k : Nat) : ∀ (m1 : Nat) (b : Bool) (p1 : List T814c.T) (p2 p3 : Int) (p4 c1 : List T814c.T) (c2 c3 : Int) (c4 : List (Int × List T1383.T)) (c5 : Nat) (c6 : List T1383.T), l1 q k m1 b p1 p2 p3 p4 c1 c2 c3 c4 c5 c6 = some r → Gw P 0 (Q r) (Pb c0 43 [] m1) (s1 b p1 p2 p3 p4 c1 c2 c3 c4 c5 c6)
  | 0, _, _, _, _, _, _, _, _, _, _, _, H => by cases H
  | m1 + 1, b, p1, p2, p3, p4, c1, c2, c3, c4, c5, c6, H => SU (by kernel_rfl) (b1_ok (l1_ok q k m1) H)
noncomputable def f (q k : Nat) (p1 : List T814c.T) : Option R :=
  l1 q k k false p1 (p1.length : Int) 0 [] [] 0 0 [] 0 []
theorem f_ok {r q k p1} (H : f q k p1 = some r) : Gw P 0 (Q r) (Px c0 1 []) (s0 p1) := by
  unfold f at H
  refine Rg V_ok 0 [] az ?_
  refine Rg V_ok 0 [] az ?_
  refine Rg V_ok 0 [] az ?_
  exact LP k (Jm {fz := [], gr := 1, ad := [.ownT 3 0 61 T814c], live := [3, 6, 7, 8], src := [some 0]} (l1_ok q k k false p1 (p1.length : Int) 0 [] [] 0 0 [] 0 [] H))
theorem ok {r q k p1} (H : f q k p1 = some r) : W P 0 c0 (s0 p1) (CallQ 0 (out r)) := of_G (f_ok H)
theorem at_ : FnAt P 43 23 c0 Go.Proofs.Tryd.f43.results := fnAt Go.Proofs.Tryd.func43 (by kernel_rfl) (by decide) (by kernel_rfl) (by kernel_rfl)
end L43
/-! ### function 43 with one of the slices kept apart -/
section
abbrev L43.E := T814c.T
theorem L43.clone (k : Nat) (y : List T1383.T) (h : y.length * 48 ≤ 140737488355328) : f_slices_Clone_Rule.f k y = some (y, ()) := by
  unfold f_slices_Clone_Rule.f
  rw [if_pos (by omega), if_pos (.inl rfl)]
  rfl
theorem L43.cloneo (k : Nat) (y : List T1383.T) (h : y.length * 48 ≤ 140737488355328) : f_slices_Clone_Ruleo.f k y = some (y, ()) := by
  unfold f_slices_Clone_Ruleo.f
  rw [if_pos (by omega), if_pos (.inl rfl)]
  rfl
theorem L43.wrap {n : Nat} (h : n * 32 ≤ 140737488355328) {j : Nat} (hj : j < n) : IntKind.i64.wrap ((j : Int) + 1) = ((j + 1 : Nat) : Int) := by
  rw [IntKind.wrap_i64]; omega
theorem L43.att_eq (xs : List L43.E) (j : Nat) (h : j < xs.length) : att T814c xs (j : Int) = xs[j] := by
  unfold att
  simp [h]
theorem L43.fit {xs : List L43.E} (h : lnkFit 32 48 xs = true) : (xs.length + 1) * 32 ≤ 140737488355328 ∧ ∀ j (hj : j < xs.length), (xs[j]).2.length * 48 ≤ 140737488355328 := by
  unfold lnkFit at h
  simp only [Bool.and_eq_true, List.all_eq_true] at h
  exact ⟨Nat.le_of_ble_eq_true h.1, fun j hj => Nat.le_of_ble_eq_true (h.2 _ (List.getElem_mem hj))⟩
theorem L43.runC (q k : Nat) (xs : List L43.E) (hf : lnkFit 32 48 xs = true) (i : Nat) (ys : List T1383.T) : ∀ (d j : Nat) (zs : List L43.E), d = xs.length - j → j ≤ xs.length → zs.length = j → ∀ m, d < m →
    L43.l1 q k m true [] 0 0 [] xs (xs.length : Int) (j : Int) zs i ys = some (zs ++ xs.drop j, (i, (ys, ()))) := by
  obtain ⟨f1, f2⟩ := L43.fit hf
  intro d
  induction d with
  | zero =>
    intro j zs hd hj hz m hm
    obtain ⟨m, rfl⟩ : ∃ m', m = m' + 1 := ⟨m - 1, by omega⟩
    obtain rfl : j = xs.length := by omega
    simp only [L43.l1, L43.b1]
    rw [if_neg (by simp), List.drop_length, List.append_nil]
  | succ d ih =>
    intro j zs hd hj hz m hm
    obtain ⟨m, rfl⟩ : ∃ m', m = m' + 1 := ⟨m - 1, by omega⟩
    have hlt : j < xs.length := by omega
    simp only [L43.l1, L43.b1]
    rw [if_pos (by simp; omega), if_pos (by omega), if_pos (by omega), L43.att_eq xs j hlt, L43.clone k _ (f2 j hlt)]
    simp only [Option.bind_some]
    rw [if_pos (by rw [hz]; omega)]
    unfold L43.j2
    rw [L43.wrap (n := xs.length) (by omega) hlt, ih (j + 1) _ (by omega) (by omega) (by simp [hz]) m (by omega), List.append_assoc]
    congr 2
    show zs ++ (xs[j] :: xs.drop (j + 1)) = _
    rw [List.drop_eq_getElem_cons hlt]
theorem L43.runA (k : Nat) (xs : List L43.E) (hf : lnkFit 32 48 xs = true) (q : Nat) (hq : q < xs.length) : ∀ (d j : Nat), d = q - j → j ≤ q → ∀ m, xs.length - j < m →
    L43.l1 q k m false xs (xs.length : Int) (j : Int) (xs.take j) [] 0 0 [] 0 [] = some (xs.take q ++ [((xs[q]).1, [])] ++ xs.drop (q + 1), (q, ((xs[q]).2, ()))) := by
  obtain ⟨f1, f2⟩ := L43.fit hf
  intro d
  induction d with
  | zero =>
    intro j hd hj m hm
    obtain ⟨m, rfl⟩ : ∃ m', m = m' + 1 := ⟨m - 1, by omega⟩
    obtain rfl : j = q := by omega
    have htl : (xs.take j).length = j := by rw [List.length_take]; omega
    simp only [L43.l1, L43.b1]
    rw [if_pos (by simp; omega), if_pos (by omega), if_pos (by omega), if_pos htl, L43.att_eq xs j hq, L43.cloneo k _ (f2 j hq)]
    simp only [Option.bind_some]
    rw [if_pos (by rw [htl]; omega)]
    unfold L43.j2
    rw [htl, L43.wrap (n := xs.length) (by omega) hq]
    exact L43.runC j k xs hf j _ (xs.length - (j + 1)) (j + 1) _ rfl (by omega) (by simp; omega) m (by omega)
  | succ d ih =>
    intro j hd hj m hm
    obtain ⟨m, rfl⟩ : ∃ m', m = m' + 1 := ⟨m - 1, by omega⟩
    have hlt : j < xs.length := by omega
    have htl : (xs.take j).length = j := by rw [List.length_take]; omega
    simp only [L43.l1, L43.b1]
    rw [if_pos (by simp; omega), if_pos (by omega), if_pos (by omega), if_neg (by rw [htl]; omega), L43.att_eq xs j hlt, L43.clone k _ (f2 j hlt)]
    simp only [Option.bind_some]
    rw [if_pos (by rw [htl]; omega), L43.wrap (n := xs.length) (by omega) hlt]
    have hs : xs.take j ++ [((xs[j]).1, (xs[j]).2)] = xs.take (j + 1) := by
      show xs.take j ++ [xs[j]] = _
      rw [List.take_append_getElem hlt]
    rw [hs]
    exact ih (j + 1) (by omega) (by omega) m (by omega)
theorem L43.prim : LnkOk P 43 61 30 (.int .i64) T1383 32 48 where
  enter := enters_of Go.Proofs.Tryd.func43 (by kernel_rfl : Go.Proofs.Tryd.f43.body = some ((Go.Proofs.Tryd.f43.body).getD .skip)) (by decide)
  calls := fun F xs i x v w hF hv hx hfit => by
    obtain ⟨hi, hxi⟩ := List.getElem?_eq_some_iff.1 hx
    have hrun := L43.runA (xs.length + 1) xs hfit i hi i 0 rfl (Nat.zero_le _) (xs.length + 1) (by omega)
    have hl : (xs.take i).length = i := by rw [List.length_take]; omega
    rw [hxi] at hrun
    exact lnk_of (i := i) (ys := x.2) (x := ((x.1, []) : L43.E)) (zs := xs.take i ++ [(x.1, [])] ++ xs.drop (i + 1)) tt_ck Go.Proofs.Tryd.func43 (by kernel_rfl : Go.Proofs.Tryd.f43.body = some ((Go.Proofs.Tryd.f43.body).getD .skip)) (by kernel_rfl) (by decide) (L43.ok hrun) (by rw [List.append_assoc, List.take_append_of_le_length (by omega), List.take_of_length_le (by omega)]) (by rw [List.append_assoc, List.getElem?_append_right (by omega), hl, Nat.sub_self]; rfl) (by rw [List.drop_append_of_le_length (by simp; omega), List.drop_of_length_le (by simp; omega), List.nil_append]) (by simp; omega) hF hv
end

/-! ### function 67, wayfinder/table.at$1, where it is called -/
namespace i_table_at_1_8ee
noncomputable def c0 : Code := (Go.Proofs.Tryd.f67.body).getD .skip
noncomputable def V : Env := { tt := tt, Γ := slk [] }
theorem V_ok : EnvOk P V := { ck := tt_ck, fits := slk_nil, mixed := mixed }
abbrev R := (Bool) × Unit
noncomputable def s0 (p1 : T814c.T) (p2 : Int) : St := ⟨8, [(0, .cv (.agg [.i p1.1, .sl T1383 p1.2 .any])), (1, .cv (.one (.ptr 0 0)))], [(.box 1, [.i p2])]⟩
noncomputable def out (p1 : T814c.T) (p2 : Int) (r : R) : St := ⟨8, [(3, .cv (.one (.bool r.1)))], [(.box 1, [.i p2])]⟩
abbrev Q (p1 : T814c.T) (p2 : Int) (r : R) := CallQ 1 (out p1 p2 r)
noncomputable def f (k : Nat) (p1 : T814c.T) (p2 : Int) : Option R :=
  some ((p1.1 == p2), ())
theorem f_ok {r k p1 p2} (H : f k p1 p2 = some r) : Gw P 1 (Q p1 p2 r) (Px c0 1 []) (s0 p1 p2) := by
  unfold f at H
  refine Rg V_ok 1 [(0, hb 1)] az ?_
  refine Rg V_ok 0 [] az ?_
  obtain rfl := Option.some.inj H
  exact Lq (tn [3] 1)
theorem ok {r k p1 p2} (H : f k p1 p2 = some r) : W P 1 c0 (s0 p1 p2) (CallQ 1 (out p1 p2 r)) := of_G (f_ok H)
theorem at_ : FnAt P 67 8 c0 Go.Proofs.Tryd.f67.results := fnAt Go.Proofs.Tryd.func67 (by kernel_rfl) (by decide) (by kernel_rfl) (by kernel_rfl)
end i_table_at_1_8ee
/-! ### function 69, slices.IndexFunc[[]wayfinder/api.Ver,wayfinder/api.Ver], where it is called -/
namespace i_slices_IndexFunc_Ver_3c9
noncomputable def c0 : Code := (Go.Proofs.Tryd.f69.body).getD .skip
noncomputable def V : Env := { tt := tt, Γ := slk [] }
theorem V_ok : EnvOk P V := { ck := tt_ck, fits := slk_nil, mixed := mixed }
abbrev R := (Int) × (Int) × Unit
noncomputable def s0 (p1 : List T814c.T) (p2 : Int) : St := ⟨19, [(0, .cv (.one (.sl T814c p1 .any))), (1, .cv (.one (.fn 67 [] [(0, 0)])))], [(.box 1, [.i p2])]⟩
noncomputable def out (r : R) : St := ⟨19, [(4, .cv (.one (.i r.1)))], [(.box 1, [.i r.2.1])]⟩
abbrev Q (r : R) := CallQ 1 (out r)
noncomputable def s1 (p1 : List T814c.T) (p2 p3 p4 : Int) : St := ⟨19, [(0, .cv (.one (.sl T814c p1 .any))), (1, .cv (.one (.fn 67 [] [(0, 0)]))), (7, .cv (.one (.i p2))), (8, .cv (.one (.i p3)))], [(.box 1, [.i p4])]⟩
noncomputable def b1 (L1 : List T814c.T → Int → Int → Int → Option R) (k : Nat) (p1 : List T814c.T) (p2 p3 p4 : Int) : Option R :=
  if (decide (p3 < p2)) = true then
  if 0 ≤ p3 then
    if p3 < (p1.length : Int) then
      (i_table_at_1_8ee.f k (att T814c p1 p3) p4).bind fun y4 =>
        if y4.1 = true then
          some (p3, (p4, ()))
        else
          L1 p1 p2 (IntKind.i64.wrap (p3 + 1)) p4
    else none
  else none
else
  some ((-1), (p4, ()))
theorem b1_ok {r} {L1 : List T814c.T → Int → Int → Int → Option R} {m1 : Nat} (hL1 : ∀ p1 p2 p3 p4, L1 p1 p2 p3 p4 = some r → Gw P 1 (Q r) (Pb c0 21 [] m1) (s1 p1 p2 p3 p4)) {k p1 p2 p3 p4} (H : b1 L1 k p1 p2 p3 p4 = some r) : Gw P 1 (Q r) (Px c0 37 [m1]) (s1 p1 p2 p3 p4) := by
  unfold b1 at H
  refine Rg V_ok 0 [] az ?_
  rcases of_ite H with ⟨hb1, H⟩ | ⟨hb1, H⟩
  · refine C1 hb1 ?_
    refine Rg V_ok 0 [] az ?_
    refine GT (tn [0, 1, 5, 7, 8] 1) (RI ?_)
    obtain ⟨n2, H⟩ := of_if H
    obtain ⟨n3, H⟩ := of_if H
    refine EV V_ok 0 [] 5 (ac n2 (ac n3 az)) ?_
    obtain ⟨y4, e5, H⟩ := of_bind H
    refine CL V_ok i_table_at_1_8ee.at_ (i_table_at_1_8ee.ok e5) ?_
    refine RN ?_
    rcases of_ite H with ⟨hb6, H⟩ | ⟨hb6, H⟩
    · refine C1 hb6 ?_
      refine Rg V_ok 0 [] az ?_
      obtain rfl := Option.some.inj H
      exact Lq (tn [4] 1)
    · refine C0 hb6 ?_
      refine Rg V_ok 0 [] az ?_
      exact Jm (tn [0, 1, 7, 8] 1) (hL1 p1 p2 (IntKind.i64.wrap (p3 + 1)) p4 H)
  · refine C0 hb1 ?_
    refine Rg V_ok 0 [] az ?_
    obtain rfl := Option.some.inj H
    exact Lq (tn [4] 1)
noncomputable def l1 (k : Nat) : Nat → List T814c.T → Int → Int → Int → Option R
  | 0, _, _, _, _ => none
  | m + 1, p1, p2, p3, p4 => b1 (l1 k m) k p1 p2 p3 p4
theorem l1_ok {r} (k : Nat) : ∀ (m1 : Nat) (p1 : List T814c.T) (p2 p3 : Int) (p4 : Int), l1 k m1 p1 p2 p3 p4 = some r → Gw P 1 (Q r) (Pb c0 21 [] m1) (s1 p1 p2 p3 p4)
  | 0, _, _, _, _, H => by cases H
  | m1 + 1, p1, p2, p3, p4, H => SU (by kernel_rfl) (b1_ok (l1_ok k m1) H)
noncomputable def f (k : Nat) (p1 : List T814c.T) (p2 : Int) : Option R :=
  l1 k k p1 (p1.length : Int) 0 p2
theorem f_ok {r k p1 p2} (H : f k p1 p2 = some r) : Gw P 1 (Q r) (Px c0 1 []) (s0 p1 p2) := by
  unfold f at H
  refine Rg V_ok 0 [] az ?_
  refine Rg V_ok 0 [] az ?_
  exact LP k (Jm (tn [0, 1, 7, 8] 1) (l1_ok k k p1 (p1.length : Int) 0 p2 H))
theorem ok {r k p1 p2} (H : f k p1 p2 = some r) : W P 1 c0 (s0 p1 p2) (CallQ 1 (out r)) := of_G (f_ok H)
theorem at_ : FnAt P 69 19 c0 Go.Proofs.Tryd.f69.results := fnAt Go.Proofs.Tryd.func69 (by kernel_rfl) (by decide) (by kernel_rfl) (by kernel_rfl)
end i_slices_IndexFunc_Ver_3c9
/-! ### function 48, wayfinder/table.first[wayfinder/api.Ver], where it is called -/
namespace i_table_first_Ver_3c9
noncomputable def c0 : Code := (Go.Proofs.Tryd.f48.body).getD .skip
noncomputable def V : Env := { tt := tt, Γ := slk [] }
theorem V_ok : EnvOk P V := { ck := tt_ck, fits := slk_nil, mixed := mixed }
abbrev R := (Int) × (Int) × Unit
noncomputable def s0 (p1 : List T814c.T) (p2 : Int) : St := ⟨14, [(0, .cv (.one (.sl T814c p1 .any))), (1, .cv (.one (.fn 67 [] [(0, 0)])))], [(.box 1, [.i p2])]⟩
noncomputable def out (r : R) : St := ⟨14, [(4, .cv (.one (.i r.1)))], [(.box 1, [.i r.2.1])]⟩
abbrev Q (r : R) := CallQ 1 (out r)
noncomputable def f (k : Nat) (p1 : List T814c.T) (p2 : Int) : Option R :=
  (i_slices_IndexFunc_Ver_3c9.f k p1 p2).bind fun y1 =>
    if (decide (y1.1 ≥ (0 : Int))) = true then
      some (y1.1, (y1.2.1, ()))
    else
      some ((p1.length : Int), (y1.2.1, ()))
theorem f_ok {r k p1 p2} (H : f k p1 p2 = some r) : Gw P 1 (Q r) (Px c0 1 []) (s0 p1 p2) := by
  unfold f at H
  refine Rg V_ok 0 [] az ?_
  refine GT (tn [0, 1] 1) (RI ?_)
  refine EV V_ok 0 [] 2 az ?_
  obtain ⟨y1, e2, H⟩ := of_bind H
  refine CL V_ok i_slices_IndexFunc_Ver_3c9.at_ (i_slices_IndexFunc_Ver_3c9.ok e2) ?_
  refine EV V_ok 0 [] 1 az ?_
  refine RN ?_
  refine Rg V_ok 0 [] az ?_
  rcases of_ite H with ⟨hb3, H⟩ | ⟨hb3, H⟩
  · refine C1 hb3 ?_
    refine Rg V_ok 0 [] az ?_
    obtain rfl := Option.some.inj H
    exact Lq (tn [4] 1)
  · refine C0 hb3 ?_
    refine Rg V_ok 0 [] az ?_
    obtain rfl := Option.some.inj H
    exact Lq (tn [4] 1)
theorem ok {r k p1 p2} (H : f k p1 p2 = some r) : W P 1 c0 (s0 p1 p2) (CallQ 1 (out r)) := of_G (f_ok H)
theorem at_ : FnAt P 48 14 c0 Go.Proofs.Tryd.f48.results := fnAt Go.Proofs.Tryd.func48 (by kernel_rfl) (by decide) (by kernel_rfl) (by kernel_rfl)
end i_table_first_Ver_3c9
/-! ### function 44, wayfinder/table.at -/
namespace f_table_at
noncomputable def c0 : Code := (Go.Proofs.Tryd.f44.body).getD .skip
abbrev ps : Sg := [(false, (.slice T814c)), (false, (.int .i64))]
abbrev rs : Sg := [(false, (.int .i64))]
noncomputable def V : Env := { tt := tt, Γ := slk [] }
theorem V_ok : EnvOk P V := { ck := tt_ck, fits := slk_nil, mixed := mixed }
abbrev R := Tup rs
noncomputable abbrev Q (r : R) : Exit → St → Prop := Qr tt Go.Proofs.Tryd.f44.results ⟨ps, rs, .any, none, fun _ _ => True⟩ r
noncomputable def f (k : Nat) (a1 : List T814c.T) (a2 : Int) : Option R :=
  (i_table_first_Ver_3c9.f k a1 a2).bind fun y1 =>
    some (y1.1, ())
noncomputable def S : Spec := ⟨ps, rs, .any, none, fun x r => ∃ k, f k x.1 x.2.1 = some r⟩
theorem rl {k a1 a2 r} (e : f k a1 a2 = some r) : S.rel (a1, a2, ()) r := ⟨k, e⟩
theorem f_ok {r k a1 a2} (H : f k a1 a2 = some r) : Gw P 0 (Q r) (Px c0 1 []) (⟨8, [(0, .cv (.one (.sl T814c a1 .any))), (1, .cv (.one (.i a2)))], []⟩) := by
  unfold f at H
  refine Rg V_ok 1 [(0, hb 0)] az ?_
  refine GT (tn [0, 3] 1) (RI ?_)
  refine EV V_ok 0 [] 2 az ?_
  obtain ⟨y1, e2, H⟩ := of_bind H
  refine CL V_ok i_table_first_Ver_3c9.at_ (i_table_first_Ver_3c9.ok e2) ?_
  refine EV V_ok 0 [] 1 az ?_
  refine RN ?_
  exact Lf (Eq.trans (by kernel_rfl) H)
theorem fits : Fits P 44 S := fits_of V_ok Go.Proofs.Tryd.func44 (by kernel_rfl) (by decide) (by decide) rfl (fun x r ⟨k, H⟩ => of_G (f_ok H))
end f_table_at
/-! ### slices.Delete of one thing: function 51 -/
theorem D51.zero : ∀ w, (zeroValue 61).run Go.Proofs.Tryd.prog w = .ok (.agg #[.int .i64 0, .slice none 0 0]) w :=
  (zero_of_info (n := 2) (by kernel_rfl : (Go.Proofs.Tryd.prog.info? 61).map (fun i => (i.zero, i.size)) = some (some (.agg #[.int .i64 0, .slice none 0 0]), 2))).1
theorem D51.info : (Go.Proofs.Tryd.prog.info? 61).map (fun i => (i.zero, i.size, i.bytes)) = some (some (.agg #[.int .i64 0, .slice none 0 0]), 2, 32) := by kernel_rfl
set_option maxHeartbeats 1600000 in
set_option maxRecDepth 1000000 in
theorem D51.walk (g n c i : Nat) (cur : Array Value) (w : World) (hi : i < n) (hl : n ≤ c) (hm : c ≤ 9223372036854775807) (hg : w.heap[g]? = some (.cells cur 61 (0, 0))) (hcs : n * 2 ≤ cur.size) (h1 : ∀ u ∈ cur.toList.take (n * 2), u.oneCell' = true) :
    Calls Go.Proofs.Tryd.prog 51 #[.slice (some ⟨g, 0, none⟩) n c, .int .i64 i, .int .i64 ((i : Int) + 1)] w fun e w' => e = .returned (.slice (some ⟨g, 0, none⟩) (n - 1) c) ∧ w' = (w.drew.setCells g (i * 2) ((cur.toList.drop ((i + 1) * 2)).take ((n - (i + 1)) * 2))).setCells g ((n - 1) * 2) (Value.cells (.agg #[.int .i64 0, .slice none 0 0])).toList := by
  obtain ⟨i0, hi0, hz0, hz1, hz2⟩ := info_parts D51.info
  have hcell : ∀ j u, cur[j]? = some u → w.drew.cell? ⟨g, j, none⟩ = some u := fun j u hu => by
    show w.cell? _ = _
    rw [cell_of_row _ _ _ _ _ _ hg, hu]
  obtain ⟨mv, hmv⟩ : ∃ mv, mv = (cur.toList.drop ((i + 1) * 2)).take ((n - (i + 1)) * 2) := ⟨_, rfl⟩
  have hml : mv.length = (n - (i + 1)) * 2 := by rw [hmv, List.length_take, List.length_drop, Array.length_toList]; omega
  obtain ⟨A, hA, hnews⟩ : ∃ A : Addr, (if c = i + 1 then some (⟨g, 0, none⟩ : Addr) else some ⟨g, (i + 1) * 2, none⟩) = some A ∧ Hid (∀ j u, mv[j]? = some u → w.drew.cell? (A.add j) = some u) := by
    by_cases h : c = i + 1
    · refine ⟨⟨g, 0, none⟩, by simp [h], fun j u hu => ?_⟩
      have h0 : mv.length = 0 := by rw [hml]; omega
      rw [List.length_eq_zero_iff.1 h0] at hu
      simp at hu
    · refine ⟨⟨g, (i + 1) * 2, none⟩, by simp [h], fun j u hu => ?_⟩
      have hj := (List.getElem?_eq_some_iff.1 hu).1
      rw [hmv, List.getElem?_take, if_pos (by omega), List.getElem?_drop, Array.getElem?_toList] at hu
      rw [Addr.add_lit]
      exact hcell _ _ hu
  have s1 : Hid (mv.length = (n - (i + 1)) * 2) := hml
  have s2 : Hid (∀ u ∈ mv, u.oneCell' = true) := by
    intro u hu
    rw [hmv] at hu
    refine h1 u ?_
    rw [show n * 2 = (i + 1) * 2 + (n - (i + 1)) * 2 by omega, List.take_add]
    exact List.mem_append_right _ hu
  have s3 : Hid (∀ j, j < mv.length → (w.drew.cell? ⟨g, 0 + i * 2 + j, none⟩).isSome = true ∧ w.drew.frozen? ⟨g, 0 + i * 2 + j, none⟩ = false) := by
    intro j hj
    rw [hml] at hj
    refine ⟨?_, frozen_of_row _ _ _ _ _ hg⟩
    rw [hcell (0 + i * 2 + j) cur[0 + i * 2 + j] (Array.getElem?_eq_getElem (by omega))]
    rfl
  have hic : i ≤ c := by omega
  have hwr : IntKind.i64.wrap ((i : Int) + 1) = (i : Int) + 1 := by rw [IntKind.wrap_i64]; omega
  have hp0 : (0 : Int) ≤ (i : Int) + 1 := by omega
  have hp1 : (i : Int) + 1 ≤ (n : Int) := by omega
  have hp2 : ((i : Int) + 1).toNat = i + 1 := by omega
  have hne : ((i : Int) == (i : Int) + 1) = false := beq_eq_false_iff_ne.mpr (by omega)
  have HG := Aside0.mk hg
  have HML := Aside0.mk hml
  have HMV := Aside0.mk hmv
  clear hcell hg hml hmv hp2
  go_enter Go.Proofs.Tryd.func51, Go.Proofs.Tryd.ntmps51
  go_wp2_with fail
  go_region_law (refine step_append_room rfl (.tmp 22) (.tmp 25) 22 rfl 61 i0 2 Go.Proofs.Tryd.underlying22 hi0 hz1 g 0 i c (by simp [Act.eval, Act.put]) A (n - (i + 1)) (c - (i + 1)) mv (by simp [Act.eval, Act.put]) s1.out hnews.out s2.out (by omega) s3.out ?_)
  obtain ⟨W2, HW2⟩ : ∃ W2, w.drew.setCells g (i * 2) mv = W2 := ⟨_, rfl⟩
  rw [HW2, show i + (n - (i + 1)) = n - 1 by omega]
  obtain ⟨cur2, hg2, hs2, hl2⟩ := sc_row mv (i * 2) w.drew cur HG.out (by rw [HML.out]; omega)
  rw [HW2] at hg2
  have HX := Aside0.mk HW2
  have HG2 := Aside0.mk hg2
  have hc2 : ∀ j, j < 2 → (W2.cell? ⟨g, (n - 1) * 2 + j, none⟩).isSome = true := fun j hj => by
    rw [cell_of_row _ _ _ _ _ _ hg2, Array.getElem?_eq_getElem (by omega)]
    rfl
  have hf2 : ∀ j, j < 2 → W2.frozen? ⟨g, (n - 1) * 2 + j, none⟩ = false := fun j hj => frozen_of_row _ _ _ _ _ hg2
  have HC2 := Aside0.mk hc2
  have HF2 := Aside0.mk hf2
  have hn1 : c - (n - 1) ≠ 0 := by omega
  have hn2 : ¬ c = n - 1 := by omega
  have hn3 : n - (n - 1) = 1 := by omega
  have hn4 : ((n - 1 : Nat) : Int) = (n : Int) - 1 := by omega
  clear HW2 hg2 hc2 hf2 hs2 hl2 hA
  go_wp2_with ((with_reducible refine gate_clear (t := 22) (x := .tmp 31) rfl ?_); refine wpList_clear_one rfl 22 61 (.tmp 31) rfl Go.Proofs.Tryd.underlying22 _ D51.zero (by decide) g ((n - 1) * 2) (c - (n - 1)) ?hx HC2.out HF2.out ?_; (case hx => simp [Act.eval, Act.put]))
  go_ret
  exact ⟨rfl, by rw [← HX.out, ← HMV.out]; rfl⟩
theorem D51.ok : DelOk Go.Proofs.Tryd.prog 51 61 2 where
  enter := enters_of Go.Proofs.Tryd.func51 (by kernel_rfl : Go.Proofs.Tryd.f51.body = some ((Go.Proofs.Tryd.f51.body).getD .skip)) (by decide)
  calls := fun g n cap i cur w hi hl hm hg hcs h1 => by
    have hnc : n * 2 ≤ cur.size := by rw [hcs]; exact Nat.mul_le_mul_right _ hl
    refine (D51.walk g n cap i cur w hi hl (by unfold maxLen at hm; exact hm) hg hnc h1).mono ?_
    rintro e w' ⟨rfl, hw'⟩
    obtain ⟨mv, hmv⟩ : ∃ mv, mv = (cur.toList.drop ((i + 1) * 2)).take ((n - (i + 1)) * 2) := ⟨_, rfl⟩
    have hc : cur.toList.length = cur.size := Array.length_toList
    have hml : mv.length = (n - (i + 1)) * 2 := by
      rw [hmv, List.length_take, List.length_drop]; omega
    rw [← hmv] at hw'
    have hzl : (Value.cells (.agg #[.int .i64 0, .slice none 0 0])).toList.length = 2 := rfl
    generalize (Value.cells (.agg #[.int .i64 0, .slice none 0 0])).toList = zs at hw' hzl
    obtain ⟨c2, hg2, hs2, hl2⟩ := sc_row mv (i * 2) w.drew cur hg (by rw [hml]; omega)
    obtain ⟨c3, hg3, hs3, hl3⟩ := sc_row zs ((n - 1) * 2) _ c2 hg2 (by omega)
    rw [← hw'] at hg3
    obtain ⟨a1, a2, a3, a4⟩ := sc_same g mv (i * 2) w.drew
    obtain ⟨b1, b2, b3, b4⟩ := sc_same g zs ((n - 1) * 2) (w.drew.setCells g (i * 2) mv)
    refine ⟨rfl, ⟨c3, hg3, by rw [hs3, hs2], ?_⟩, fun b hb => by rw [hw', sc_far _ _ _ hb, sc_far _ _ _ hb]; rfl, by rw [hw', b4, a4]; rfl, by rw [hw', b1, a1]; rfl, by rw [hw', b2, a2]; rfl, by rw [hw', b3, a3]; rfl⟩
    have e1 : (cur.toList.take (i * 2)).length = i * 2 := by rw [List.length_take]; omega
    have e2 : (cur.toList.take (i * 2) ++ mv).length = (n - 1) * 2 := by rw [List.length_append, e1, hml]; omega
    have e3 : (c2.toList.take ((n - 1) * 2)) = cur.toList.take (i * 2) ++ mv := by rw [hl2, List.take_append_of_le_length (Nat.le_of_eq e2.symm), List.take_of_length_le (Nat.le_of_eq e2)]
    rw [hl3, e3, List.append_assoc, List.take_append_of_le_length (Nat.le_of_eq e2.symm), List.take_of_length_le (Nat.le_of_eq e2), List.drop_take, hmv, show n * 2 - (i + 1) * 2 = (n - (i + 1)) * 2 by omega]

/-! ### function 43, wayfinder/table.own, where it is called -/
namespace i_table_own_301
noncomputable def c0 : Code := (Go.Proofs.Tryd.f43.body).getD .skip
noncomputable def V : Env := { tt := tt, Γ := slk [(66, f_slices_Clone_Rule.S)] }
theorem V_ok : EnvOk P V := { ck := tt_ck, fits := slk_cons f_slices_Clone_Rule.fits (slk_nil), mixed := mixed }
abbrev R := (List T814c.T) × Unit
noncomputable def s0 (p1 : List T814c.T) : St := ⟨23, [(0, .cv (.one (.sl T814c p1 .any)))], []⟩
noncomputable def out (r : R) : St := ⟨23, [(2, .cv (.one (.own 0)))], [(.buf 61 T814c r.1, [])]⟩
abbrev Q (r : R) := CallQ 0 (out r)
noncomputable def s1 (p1 : List T814c.T) (p2 p3 : Int) (p4 : List T814c.T) : St := ⟨23, [(3, .cv (.one (.own 0))), (6, .cv (.one (.sl T814c p1 .any))), (7, .cv (.one (.i p2))), (8, .cv (.one (.i p3)))], [(.buf 61 T814c p4, [])]⟩
noncomputable def b1 (L1 : List T814c.T → Int → Int → List T814c.T → Option R) (k : Nat) (p1 : List T814c.T) (p2 p3 : Int) (p4 : List T814c.T) : Option R :=
  if (decide (p3 < p2)) = true then
  if 0 ≤ p3 then
    if p3 < (p1.length : Int) then
      (f_slices_Clone_Rule.f k ((att T814c p1 p3).2)).bind fun y4 =>
        if (p4.length + 1) * 32 ≤ 140737488355328 then
          L1 p1 p2 (IntKind.i64.wrap (p3 + 1)) (p4 ++ [((att T814c p1 p3).1, y4.1)])
        else none
    else none
  else none
else
  some (p4, ())
theorem b1_ok {r} {L1 : List T814c.T → Int → Int → List T814c.T → Option R} {m1 : Nat} (hL1 : ∀ p1 p2 p3 p4, L1 p1 p2 p3 p4 = some r → Gw P 0 (Q r) (Pb c0 43 [] m1) (s1 p1 p2 p3 p4)) {k p1 p2 p3 p4} (H : b1 L1 k p1 p2 p3 p4 = some r) : Gw P 0 (Q r) (Px c0 75 [m1]) (s1 p1 p2 p3 p4) := by
  unfold b1 at H
  refine Rg V_ok 0 [] az ?_
  rcases of_ite H with ⟨hb1, H⟩ | ⟨hb1, H⟩
  · refine C1 hb1 ?_
    obtain ⟨n2, H⟩ := of_if H
    obtain ⟨n3, H⟩ := of_if H
    refine Rg V_ok 1 [(2, hb 1)] (ac n2 (ac n3 az)) ?_
    obtain ⟨y4, e5, H⟩ := of_bind H
    obtain ⟨n6, H⟩ := of_if H
    refine Rg V_ok 1 [(5, hr f_slices_Clone_Rule.S y4), (8, hb 2)] (ac (f_slices_Clone_Rule.rl e5) (ac n6 az)) ?_
    refine Rg V_ok 0 [] az ?_
    exact Jm (tl [3, 6, 7, 8] [2]) (hL1 p1 p2 (IntKind.i64.wrap (p3 + 1)) (p4 ++ [((att T814c p1 p3).1, y4.1)]) H)
  · refine C0 hb1 ?_
    refine Rg V_ok 0 [] az ?_
    obtain rfl := Option.some.inj H
    exact Lq (tn [2] 1)
noncomputable def l1 (k : Nat) : Nat → List T814c.T → Int → Int → List T814c.T → Option R
  | 0, _, _, _, _ => none
  | m + 1, p1, p2, p3, p4 => b1 (l1 k m) k p1 p2 p3 p4
theorem l1_ok {r} (k : Nat) : ∀ (m1 : Nat) (p1 : List T814c.T) (p2 p3 : Int) (p4 : List T814c.T), l1 k m1 p1 p2 p3 p4 = some r → Gw P 0 (Q r) (Pb c0 43 [] m1) (s1 p1 p2 p3 p4)
  | 0, _, _, _, _, H => by cases H
  | m1 + 1, p1, p2, p3, p4, H => SU (by kernel_rfl) (b1_ok (l1_ok k m1) H)
noncomputable def f (k : Nat) (p1 : List T814c.T) : Option R :=
  l1 k k p1 (p1.length : Int) 0 []
theorem f_ok {r k p1} (H : f k p1 = some r) : Gw P 0 (Q r) (Px c0 1 []) (s0 p1) := by
  unfold f at H
  refine Rg V_ok 0 [] az ?_
  refine Rg V_ok 0 [] az ?_
  refine Rg V_ok 0 [] az ?_
  exact LP k (Jm {fz := [], gr := 1, ad := [.ownT 3 0 61 T814c], live := [3, 6, 7, 8], src := [some 0]} (l1_ok k k p1 (p1.length : Int) 0 [] H))
theorem ok {r k p1} (H : f k p1 = some r) : W P 0 c0 (s0 p1) (CallQ 0 (out r)) := of_G (f_ok H)
theorem at_ : FnAt P 43 23 c0 Go.Proofs.Tryd.f43.results := fnAt Go.Proofs.Tryd.func43 (by kernel_rfl) (by decide) (by kernel_rfl) (by kernel_rfl)
end i_table_own_301
/-! ### function 19, wayfinder/table.Drop -/
namespace f_table_Drop
noncomputable def c0 : Code := (Go.Proofs.Tryd.f19.body).getD .skip
abbrev ps : Sg := [(false, (.slice T814c)), (false, (.int .i64))]
abbrev rs : Sg := [(false, (.slice T814c))]
noncomputable def V : Env := { tt := tt, Γ := slk [(44, f_table_at.S)], pr := plk [(51, .del 61 T814c)] }
theorem V_ok : EnvOk P V := { ck := tt_ck, fits := slk_cons f_table_at.fits (slk_nil), mixed := mixed, prims := plk_cons (show PrimOk P 51 _ from D51.ok) (plk_nil) }
abbrev R := Tup rs
noncomputable abbrev Q (r : R) : Exit → St → Prop := Qr tt Go.Proofs.Tryd.f19.results ⟨ps, rs, .any, none, fun _ _ => True⟩ r
noncomputable def s1 (p1 : List T814c.T) : St := ⟨21, [(0, .cv (.one (.own 0)))], [(.buf 61 T814c p1, [])]⟩
noncomputable def j1 (k : Nat) (p1 : List T814c.T) : Option R :=
  some (p1, ())
theorem j1_ok {r} {k p1} (H : j1 k p1 = some r) : Gw P 0 (Q r) (Px c0 15 []) (s1 p1) := by
  unfold j1 at H
  refine Rg V_ok 0 [] az ?_
  exact Lf (Eq.trans (by kernel_rfl) H)
noncomputable def f (k : Nat) (a1 : List T814c.T) (a2 : Int) : Option R :=
  (i_table_own_301.f k a1).bind fun y1 =>
    (f_table_at.f k y1.1 a2).bind fun y3 =>
      if (decide (y3.1 < (y1.1.length : Int))) = true then
        if 0 ≤ y3.1 ∧ y3.1 < (y1.1.length : Int) ∧ (IntKind.i64.wrap (y3.1 + 1)) = y3.1 + 1 then
          j1 k (y1.1.take y3.1.toNat ++ y1.1.drop (y3.1.toNat + 1))
        else none
      else
        j1 k y1.1
noncomputable def S : Spec := ⟨ps, rs, .any, none, fun x r => ∃ k, f k x.1 x.2.1 = some r⟩
theorem rl {k a1 a2 r} (e : f k a1 a2 = some r) : S.rel (a1, a2, ()) r := ⟨k, e⟩
theorem f_ok {r k a1 a2} (H : f k a1 a2 = some r) : Gw P 0 (Q r) (Px c0 1 []) (⟨21, [(0, .cv (.one (.sl T814c a1 .any))), (1, .cv (.one (.i a2)))], []⟩) := by
  unfold f at H
  refine Rg V_ok 0 [] az ?_
  refine GT (tn [0, 1] 0) (RI ?_)
  refine EV V_ok 0 [] 1 az ?_
  obtain ⟨y1, e2, H⟩ := of_bind H
  refine CL V_ok i_table_own_301.at_ (i_table_own_301.ok e2) ?_
  refine EV V_ok 0 [] 1 az ?_
  refine RN ?_
  obtain ⟨y3, e4, H⟩ := of_bind H
  refine Rg V_ok 0 [(2, hr f_table_at.S y3)] (ac (f_table_at.rl e4) az) ?_
  refine Rg V_ok 0 [] az ?_
  rcases of_ite H with ⟨hb5, H⟩ | ⟨hb5, H⟩
  · refine C1 hb5 ?_
    obtain ⟨n6, H⟩ := of_if H
    refine Rg V_ok 1 [(4, {sb := 1, ph := {sb := 1}})] (ac n6 az) ?_
    exact Jm (tl [0] [1]) (j1_ok H)
  · refine C0 hb5 ?_
    exact Jm (tn [0] 1) (j1_ok H)
theorem fits : Fits P 19 S := fits_of V_ok Go.Proofs.Tryd.func19 (by kernel_rfl) (by decide) (by decide) rfl (fun x r ⟨k, H⟩ => of_G (f_ok H))
end f_table_Drop
/-! ### function 28, wayfinder/agent.own -/
namespace f_agent_own
noncomputable def c0 : Code := (Go.Proofs.Tryd.f28.body).getD .skip
abbrev ps : Sg := [(true, Tf20b)]
abbrev rs : Sg := [(true, Tf20b)]
noncomputable def V : Env := { tt := tt, Γ := slk [(19, f_table_Drop.S)] }
theorem V_ok : EnvOk P V := { ck := tt_ck, fits := slk_cons f_table_Drop.fits (slk_nil), mixed := mixed }
abbrev R := Tup rs
noncomputable abbrev Q (r : R) : Exit → St → Prop := Qr tt Go.Proofs.Tryd.f28.results ⟨ps, rs, .any, none, fun _ _ => True⟩ r
noncomputable def f (k : Nat) (a1 : Tf20b.T) : Option R :=
  (f_table_Drop.f k a1.2.2.2.2.2.1 (-1 : Int)).bind fun y1 =>
    some ((a1.1, (a1.2.1, (a1.2.2.1, (a1.2.2.2.1, (a1.2.2.2.2.1, (y1.1, a1.2.2.2.2.2.2)))))), ())
noncomputable def S : Spec := ⟨ps, rs, .any, none, fun x r => ∃ k, f k x.1 = some r⟩
theorem rl {k a1 r} (e : f k a1 = some r) : S.rel (a1, ()) r := ⟨k, e⟩
theorem f_ok {r k a1} (H : f k a1 = some r) : Gw P 0 (Q r) (Px c0 1 []) (⟨8, [(0, .cv (.agg (encC .any Tf20b a1)))], []⟩) := by
  unfold f at H
  refine Rg V_ok 2 [(0, hb 0), (1, hb 1)] az ?_
  obtain ⟨y1, e2, H⟩ := of_bind H
  refine Rg V_ok 0 [(2, hr f_table_Drop.S y1)] (ac (f_table_Drop.rl e2) az) ?_
  refine Rg V_ok 0 [] az ?_
  exact Lf (Eq.trans (by kernel_rfl) H)
theorem fits : Fits P 28 S := fits_of V_ok Go.Proofs.Tryd.func28 (by kernel_rfl) (by decide) (by decide) rfl (fun x r ⟨k, H⟩ => of_G (f_ok H))
end f_agent_own
/-! ### function 34, wayfinder/frame.unless -/
namespace f_frame_unless
noncomputable def c0 : Code := (Go.Proofs.Tryd.f34.body).getD .skip
abbrev ps : Sg := [(false, .bool), (false, (.int .i64))]
abbrev rs : Sg := [(false, (.int .i64))]
noncomputable def V : Env := { tt := tt, Γ := slk [] }
theorem V_ok : EnvOk P V := { ck := tt_ck, fits := slk_nil, mixed := mixed }
abbrev R := Tup rs
noncomputable abbrev Q (r : R) : Exit → St → Prop := Qr tt Go.Proofs.Tryd.f34.results ⟨ps, rs, .any, none, fun _ _ => True⟩ r
noncomputable def f (k : Nat) (a1 : Bool) (a2 : Int) : Option R :=
  if a1 = true then
    some (a2, ())
  else
    some ((0 : Int), ())
noncomputable def S : Spec := ⟨ps, rs, .any, none, fun x r => ∃ k, f k x.1 x.2.1 = some r⟩
theorem rl {k a1 a2 r} (e : f k a1 a2 = some r) : S.rel (a1, a2, ()) r := ⟨k, e⟩
theorem f_ok {r k a1 a2} (H : f k a1 a2 = some r) : Gw P 0 (Q r) (Px c0 1 []) (⟨7, [(0, .cv (.one (.bool a1))), (1, .cv (.one (.i a2)))], []⟩) := by
  unfold f at H
  refine Rg V_ok 0 [] az ?_
  refine Rg V_ok 0 [] az ?_
  rcases of_ite H with ⟨hb1, H⟩ | ⟨hb1, H⟩
  · refine C1 hb1 ?_
    refine Rg V_ok 0 [] az ?_
    exact Lf (Eq.trans (by kernel_rfl) H)
  · refine C0 hb1 ?_
    refine Rg V_ok 0 [] az ?_
    exact Lf (Eq.trans (by kernel_rfl) H)
theorem fits : Fits P 34 S := fits_of V_ok Go.Proofs.Tryd.func34 (by kernel_rfl) (by decide) (by decide) rfl (fun x r ⟨k, H⟩ => of_G (f_ok H))
end f_frame_unless
/-! ### function 79, wayfinder/octets.Get -/
namespace f_octets_Get
noncomputable def c0 : Code := (Go.Proofs.Tryd.f79.body).getD .skip
abbrev ps : Sg := [(false, (.slice (.int .u8))), (false, (.int .i64))]
abbrev rs : Sg := [(false, (.int .i64)), (false, (.int .i64))]
noncomputable def V : Env := { tt := tt, Γ := slk [(83, f_octets_may.S)] }
theorem V_ok : EnvOk P V := { ck := tt_ck, fits := slk_cons f_octets_may.fits (slk_nil), mixed := mixed }
abbrev R := Tup rs
noncomputable abbrev Q (r : R) : Exit → St → Prop := Qr tt Go.Proofs.Tryd.f79.results ⟨ps, rs, .any, none, fun _ _ => True⟩ r
noncomputable def s1 (p1 : Int) (p2 : List Int) (p3 p4 : Int) : St := ⟨34, [(6, .cv (.one (.int .u32 p1))), (20, .cv (.one (.sl (.int .u8) p2 .any))), (21, .cv (.one (.i p3))), (22, .cv (.one (.i p4)))], []⟩
noncomputable def b1 (L1 : Int → List Int → Int → Int → Option R) (k : Nat) (p1 : Int) (p2 : List Int) (p3 p4 : Int) : Option R :=
  if (decide (p4 < p3)) = true then
  if 0 ≤ p4 then
    if p4 < (p2.length : Int) then
      L1 (IntKind.u32.wrap (((BitVec.ofInt IntKind.u32.bits (IntKind.u32.wrap (p1 * (2 ^ (min (8 : Int).toNat (IntKind.u32.bits))))) ||| BitVec.ofInt IntKind.u32.bits (IntKind.u32.wrap (att (.int .u8) p2 p4))).toNat : Int))) p2 p3 (IntKind.i64.wrap (p4 + 1))
    else none
  else none
else
  some ((IntKind.i64.wrap p1), ((0 : Int), ()))
theorem b1_ok {r} {L1 : Int → List Int → Int → Int → Option R} {m1 : Nat} (hL1 : ∀ p1 p2 p3 p4, L1 p1 p2 p3 p4 = some r → Gw P 0 (Q r) (Pb c0 87 [] m1) (s1 p1 p2 p3 p4)) {k p1 p2 p3 p4} (H : b1 L1 k p1 p2 p3 p4 = some r) : Gw P 0 (Q r) (Px c0 151 [m1]) (s1 p1 p2 p3 p4) := by
  unfold b1 at H
  refine Rg V_ok 0 [] az ?_
  rcases of_ite H with ⟨hb6, H⟩ | ⟨hb6, H⟩
  · refine C1 hb6 ?_
    obtain ⟨n7, H⟩ := of_if H
    obtain ⟨n8, H⟩ := of_if H
    refine Rg V_ok 0 [] (ac n7 (ac n8 az)) ?_
    refine Rg V_ok 0 [] (ac (show 0 ≤ (8 : Int) by decide) az) ?_
    refine Rg V_ok 0 [] az ?_
    exact Jm (tn [6, 20, 21, 22] 0) (hL1 (IntKind.u32.wrap (((BitVec.ofInt IntKind.u32.bits (IntKind.u32.wrap (p1 * (2 ^ (min (8 : Int).toNat (IntKind.u32.bits))))) ||| BitVec.ofInt IntKind.u32.bits (IntKind.u32.wrap (att (.int .u8) p2 p4))).toNat : Int))) p2 p3 (IntKind.i64.wrap (p4 + 1)) H)
  · refine C0 hb6 ?_
    refine Rg V_ok 0 [] az ?_
    exact Lf (Eq.trans (by kernel_rfl) H)
noncomputable def l1 (k : Nat) : Nat → Int → List Int → Int → Int → Option R
  | 0, _, _, _, _ => none
  | m + 1, p1, p2, p3, p4 => b1 (l1 k m) k p1 p2 p3 p4
theorem l1_ok {r} (k : Nat) : ∀ (m1 : Nat) (p1 : Int) (p2 : List Int) (p3 : Int) (p4 : Int), l1 k m1 p1 p2 p3 p4 = some r → Gw P 0 (Q r) (Pb c0 87 [] m1) (s1 p1 p2 p3 p4)
  | 0, _, _, _, _, H => by cases H
  | m1 + 1, p1, p2, p3, p4, H => SU (by kernel_rfl) (b1_ok (l1_ok k m1) H)
noncomputable def f (k : Nat) (a1 : List Int) (a2 : Int) : Option R :=
  (f_octets_may.f k a2).bind fun y1 =>
    if (!y1.1) = true then
      some ((0 : Int), ((1 : Int), ()))
    else
      if (decide ((a1.length : Int) < a2)) = true then
        some ((0 : Int), ((3 : Int), ()))
      else
        if 0 ≤ (0 : Int) ∧ (0 : Int) ≤ a2 ∧ a2 ≤ (a1.length : Int) then
          l1 k k 0 ((a1.take a2.toNat).drop (0 : Int).toNat) (((a1.take a2.toNat).drop (0 : Int).toNat).length : Int) 0
        else none
noncomputable def S : Spec := ⟨ps, rs, .any, none, fun x r => ∃ k, f k x.1 x.2.1 = some r⟩
theorem rl {k a1 a2 r} (e : f k a1 a2 = some r) : S.rel (a1, a2, ()) r := ⟨k, e⟩
theorem f_ok {r k a1 a2} (H : f k a1 a2 = some r) : Gw P 0 (Q r) (Px c0 1 []) (⟨34, [(0, .cv (.one (.sl (.int .u8) a1 .any))), (1, .cv (.one (.i a2)))], []⟩) := by
  unfold f at H
  refine Rg V_ok 0 [] az ?_
  obtain ⟨y1, e2, H⟩ := of_bind H
  refine Rg V_ok 0 [(1, hr f_octets_may.S y1)] (ac (f_octets_may.rl e2) az) ?_
  rcases of_ite H with ⟨hb3, H⟩ | ⟨hb3, H⟩
  · refine C1 hb3 ?_
    refine Rg V_ok 0 [] az ?_
    exact Lf (Eq.trans (by kernel_rfl) H)
  · refine C0 hb3 ?_
    refine Rg V_ok 0 [] az ?_
    rcases of_ite H with ⟨hb4, H⟩ | ⟨hb4, H⟩
    · refine C1 hb4 ?_
      refine Rg V_ok 0 [] az ?_
      exact Lf (Eq.trans (by kernel_rfl) H)
    · refine C0 hb4 ?_
      refine Rg V_ok 0 [] az ?_
      obtain ⟨n5, H⟩ := of_if H
      refine Rg V_ok 0 [] (ac n5 az) ?_
      exact LP k (Jm (tn [6, 20, 21, 22] 0) (l1_ok k k 0 ((a1.take a2.toNat).drop (0 : Int).toNat) (((a1.take a2.toNat).drop (0 : Int).toNat).length : Int) 0 H))
theorem fits : Fits P 79 S := fits_of V_ok Go.Proofs.Tryd.func79 (by kernel_rfl) (by decide) (by decide) rfl (fun x r ⟨k, H⟩ => of_G (f_ok H))
end f_octets_Get
/-! ### function 64, wayfinder/octets.GetAll -/
namespace f_octets_GetAll
noncomputable def c0 : Code := (Go.Proofs.Tryd.f64.body).getD .skip
abbrev ps : Sg := [(false, (.slice (.int .u8))), (false, (.slice (.int .i64)))]
abbrev rs : Sg := [(false, (.slice (.int .i64))), (false, (.int .i64)), (false, (.int .i64))]
noncomputable def V : Env := { tt := tt, Γ := slk [(79, f_octets_Get.S)] }
theorem V_ok : EnvOk P V := { ck := tt_ck, fits := slk_cons f_octets_Get.fits (slk_nil), mixed := mixed }
abbrev R := Tup rs
noncomputable abbrev Q (r : R) : Exit → St → Prop := Qr tt Go.Proofs.Tryd.f64.results ⟨ps, rs, .any, none, fun _ _ => True⟩ r
noncomputable def s1 (p1 p2 p3 : List Int) (p4 p5 : Int) (p6 : List Int) : St := ⟨43, [(0, .cv (.one (.sl (.int .u8) p1 .any))), (7, .cv (.one (.own 0))), (8, .cv (.one (.sl (.int .u8) p2 .any))), (14, .cv (.one (.sl (.int .i64) p3 .any))), (15, .cv (.one (.i p4))), (16, .cv (.one (.i p5)))], [(.buf 3 (.int .i64) p6, [])]⟩
noncomputable def b1 (L1 : List Int → List Int → List Int → Int → Int → List Int → Option R) (k : Nat) (p1 p2 p3 : List Int) (p4 p5 : Int) (p6 : List Int) : Option R :=
  if (decide (p5 < p4)) = true then
  if 0 ≤ p5 then
    if p5 < (p3.length : Int) then
      (f_octets_Get.f k p2 (att (.int .i64) p3 p5)).bind fun y4 =>
        if (y4.2.1 != (0 : Int)) = true then
          some ([], ((0 : Int), (y4.2.1, ())))
        else
          if (p6.length + 1) * 8 ≤ 140737488355328 then
            if 0 ≤ (att (.int .i64) p3 p5) ∧ (att (.int .i64) p3 p5) ≤ (p2.length : Int) ∧ (p2.length : Int) ≤ (p2.length : Int) then
              L1 p1 ((p2.take (p2.length : Int).toNat).drop (att (.int .i64) p3 p5).toNat) p3 p4 (IntKind.i64.wrap (p5 + 1)) (p6 ++ [y4.1])
            else none
          else none
    else none
  else none
else
  some (p6, ((IntKind.i64.wrap ((p1.length : Int) - (p2.length : Int))), ((0 : Int), ())))
theorem b1_ok {r} {L1 : List Int → List Int → List Int → Int → Int → List Int → Option R} {m1 : Nat} (hL1 : ∀ p1 p2 p3 p4 p5 p6, L1 p1 p2 p3 p4 p5 p6 = some r → Gw P 0 (Q r) (Pb c0 87 [] m1) (s1 p1 p2 p3 p4 p5 p6)) {k p1 p2 p3 p4 p5 p6} (H : b1 L1 k p1 p2 p3 p4 p5 p6 = some r) : Gw P 0 (Q r) (Px c0 151 [m1]) (s1 p1 p2 p3 p4 p5 p6) := by
  unfold b1 at H
  refine Rg V_ok 0 [] az ?_
  rcases of_ite H with ⟨hb1, H⟩ | ⟨hb1, H⟩
  · refine C1 hb1 ?_
    obtain ⟨n2, H⟩ := of_if H
    obtain ⟨n3, H⟩ := of_if H
    refine Rg V_ok 0 [] (ac n2 (ac n3 az)) ?_
    obtain ⟨y4, e5, H⟩ := of_bind H
    refine Rg V_ok 0 [(2, hr f_octets_Get.S y4)] (ac (f_octets_Get.rl e5) az) ?_
    refine Rg V_ok 0 [] az ?_
    rcases of_ite H with ⟨hb6, H⟩ | ⟨hb6, H⟩
    · refine C1 hb6 ?_
      refine Rg V_ok 0 [] az ?_
      exact Lf (Eq.trans (by kernel_rfl) H)
    · refine C0 hb6 ?_
      obtain ⟨n7, H⟩ := of_if H
      obtain ⟨n8, H⟩ := of_if H
      refine Rg V_ok 1 [(3, hb 1)] (ac n7 (ac n8 az)) ?_
      refine Rg V_ok 0 [] az ?_
      exact Jm (tl [0, 7, 8, 14, 15, 16] [1]) (hL1 p1 ((p2.take (p2.length : Int).toNat).drop (att (.int .i64) p3 p5).toNat) p3 p4 (IntKind.i64.wrap (p5 + 1)) (p6 ++ [y4.1]) H)
  · refine C0 hb1 ?_
    refine Rg V_ok 0 [] az ?_
    exact Lf (Eq.trans (by kernel_rfl) H)
noncomputable def l1 (k : Nat) : Nat → List Int → List Int → List Int → Int → Int → List Int → Option R
  | 0, _, _, _, _, _, _ => none
  | m + 1, p1, p2, p3, p4, p5, p6 => b1 (l1 k m) k p1 p2 p3 p4 p5 p6
theorem l1_ok {r} (k : Nat) : ∀ (m1 : Nat) (p1 p2 p3 : List Int) (p4 p5 : Int) (p6 : List Int), l1 k m1 p1 p2 p3 p4 p5 p6 = some r → Gw P 0 (Q r) (Pb c0 87 [] m1) (s1 p1 p2 p3 p4 p5 p6)
  | 0, _, _, _, _, _, _, H => by cases H
  | m1 + 1, p1, p2, p3, p4, p5, p6, H => SU (by kernel_rfl) (b1_ok (l1_ok k m1) H)
noncomputable def f (k : Nat) (a1 a2 : List Int) : Option R :=
  l1 k k a1 a1 a2 (a2.length : Int) 0 []
noncomputable def S : Spec := ⟨ps, rs, .any, none, fun x r => ∃ k, f k x.1 x.2.1 = some r⟩
theorem rl {k a1 a2 r} (e : f k a1 a2 = some r) : S.rel (a1, a2, ()) r := ⟨k, e⟩
theorem f_ok {r k a1 a2} (H : f k a1 a2 = some r) : Gw P 0 (Q r) (Px c0 1 []) (⟨43, [(0, .cv (.one (.sl (.int .u8) a1 .any))), (1, .cv (.one (.sl (.int .i64) a2 .any)))], []⟩) := by
  unfold f at H
  refine Rg V_ok 0 [] az ?_
  refine Rg V_ok 0 [] az ?_
  refine Rg V_ok 0 [] az ?_
  refine Rg V_ok 0 [] az ?_
  exact LP k (Jm {fz := [], gr := 1, ad := [.ownT 7 0 3 (.int .i64)], live := [0, 7, 8, 14, 15, 16], src := [some 0]} (l1_ok k k a1 a1 a2 (a2.length : Int) 0 [] H))
theorem fits : Fits P 64 S := fits_of V_ok Go.Proofs.Tryd.func64 (by kernel_rfl) (by decide) (by decide) rfl (fun x r ⟨k, H⟩ => of_G (f_ok H))
end f_octets_GetAll
/-! ### function 65, wayfinder/rule.Get -/
namespace f_rule_Get
noncomputable def c0 : Code := (Go.Proofs.Tryd.f65.body).getD .skip
abbrev ps : Sg := [(false, (.slice (.int .u8)))]
abbrev rs : Sg := [(true, T1383), (false, (.int .i64))]
noncomputable def V : Env := { tt := tt, Γ := slk [(22, f_rule_May.S), (79, f_octets_Get.S)] }
theorem V_ok : EnvOk P V := { ck := tt_ck, fits := slk_cons f_rule_May.fits (slk_cons f_octets_Get.fits (slk_nil)), mixed := mixed }
abbrev R := Tup rs
noncomputable abbrev Q (r : R) : Exit → St → Prop := Qr tt Go.Proofs.Tryd.f65.results ⟨ps, rs, .any, none, fun _ _ => True⟩ r
noncomputable def s1 (p1 : Bool) (p2 p3 : T1383.T) : St := ⟨50, [(2, .cv (.one (.ptr 0 0))), (6, .cv (.one (.ptr 1 0))), (47, .cv (.one (.bool p1)))], [(.box 6, (encC .any T1383 p2)), (.box 6, (encC .any T1383 p3))]⟩
noncomputable def j1 (k : Nat) (p1 : Bool) (p2 p3 : T1383.T) : Option R :=
  if p1 = true then
  some (((0, 0), (0, (0, (0, 0)))), ((2 : Int), ()))
else
  some (p3, ((0 : Int), ()))
theorem j1_ok {r} {k p1 p2 p3} (H : j1 k p1 p2 p3 = some r) : Gw P 0 (Q r) (Px c0 111 []) (s1 p1 p2 p3) := by
  unfold j1 at H
  rcases of_ite H with ⟨hb11, H⟩ | ⟨hb11, H⟩
  · refine C1 hb11 ?_
    refine Rg V_ok 0 [] az ?_
    exact Lf (Eq.trans (by kernel_rfl) H)
  · refine C0 hb11 ?_
    refine Rg V_ok 0 [] az ?_
    exact Lf (Eq.trans (by kernel_rfl) H)
noncomputable def f (k : Nat) (a1 : List Int) : Option R :=
  if (decide ((a1.length : Int) < (9 : Int))) = true then
    some (((0, 0), (0, (0, (0, 0)))), ((3 : Int), ()))
  else
    (f_octets_Get.f k a1 (4 : Int)).bind fun y2 =>
      if (4 : Int) < (a1.length : Int) then
        if (5 : Int) < (a1.length : Int) then
          if (6 : Int) < (a1.length : Int) then
            if (7 : Int) < (a1.length : Int) then
              if (8 : Int) < (a1.length : Int) then
                if (y2.2.1 != (0 : Int)) = true then
                  j1 k true ((0, 0), (0, (0, (0, 0)))) ((y2.1, (IntKind.i64.wrap (att (.int .u8) a1 4))), ((IntKind.i64.wrap ((IntKind.i64.wrap (att (.int .u8) a1 5)) - 1)), ((IntKind.i64.wrap (att (.int .u8) a1 6)), ((IntKind.i64.wrap (att (.int .u8) a1 7)), (IntKind.i64.wrap (att (.int .u8) a1 8))))))
                else
                  (f_rule_May.f k ((y2.1, (IntKind.i64.wrap (att (.int .u8) a1 4))), ((IntKind.i64.wrap ((IntKind.i64.wrap (att (.int .u8) a1 5)) - 1)), ((IntKind.i64.wrap (att (.int .u8) a1 6)), ((IntKind.i64.wrap (att (.int .u8) a1 7)), (IntKind.i64.wrap (att (.int .u8) a1 8))))))).bind fun y9 =>
                    j1 k (!y9.1) ((0, 0), (0, (0, (0, 0)))) ((y2.1, (IntKind.i64.wrap (att (.int .u8) a1 4))), ((IntKind.i64.wrap ((IntKind.i64.wrap (att (.int .u8) a1 5)) - 1)), ((IntKind.i64.wrap (att (.int .u8) a1 6)), ((IntKind.i64.wrap (att (.int .u8) a1 7)), (IntKind.i64.wrap (att (.int .u8) a1 8))))))
              else none
            else none
          else none
        else none
      else none
noncomputable def S : Spec := ⟨ps, rs, .any, none, fun x r => ∃ k, f k x.1 = some r⟩
theorem rl {k a1 r} (e : f k a1 = some r) : S.rel (a1, ()) r := ⟨k, e⟩
theorem f_ok {r k a1} (H : f k a1 = some r) : Gw P 0 (Q r) (Px c0 1 []) (⟨50, [(0, .cv (.one (.sl (.int .u8) a1 .any)))], []⟩) := by
  unfold f at H
  refine Rg V_ok 1 [(0, hb 0)] az ?_
  refine Rg V_ok 0 [] az ?_
  rcases of_ite H with ⟨hb1, H⟩ | ⟨hb1, H⟩
  · refine C1 hb1 ?_
    refine Rg V_ok 0 [] az ?_
    exact Lf (Eq.trans (by kernel_rfl) H)
  · refine C0 hb1 ?_
    obtain ⟨y2, e3, H⟩ := of_bind H
    refine Rg V_ok 0 [(1, hr f_octets_Get.S y2)] (ac (f_octets_Get.rl e3) az) ?_
    obtain ⟨n4, H⟩ := of_if H
    obtain ⟨n5, H⟩ := of_if H
    obtain ⟨n6, H⟩ := of_if H
    obtain ⟨n7, H⟩ := of_if H
    obtain ⟨n8, H⟩ := of_if H
    refine Rg V_ok 1 [(25, hb 1)] (ac (show 0 ≤ (4 : Int) by decide) (ac n4 (ac (show 0 ≤ (5 : Int) by decide) (ac n5 (ac (show 0 ≤ (6 : Int) by decide) (ac n6 (ac (show 0 ≤ (7 : Int) by decide) (ac n7 (ac (show 0 ≤ (8 : Int) by decide) (ac n8 az)))))))))) ?_
    rcases of_ite H with ⟨hb10, H⟩ | ⟨hb10, H⟩
    · refine Rg V_ok 0 [(1, {bv := some true})] (ac hb10 az) ?_
      exact Jm (tn [2, 6, 47] 2) (j1_ok H)
    · obtain ⟨y9, e12, H⟩ := of_bind H
      refine Rg V_ok 0 [(1, {bv := some false}), (4, hr f_rule_May.S y9)] (ac hb10 (ac (f_rule_May.rl e12) az)) ?_
      exact Jm (tn [2, 6, 47] 2) (j1_ok H)
theorem fits : Fits P 65 S := fits_of V_ok Go.Proofs.Tryd.func65 (by kernel_rfl) (by decide) (by decide) rfl (fun x r ⟨k, H⟩ => of_G (f_ok H))
end f_rule_Get
/-! ### function 40, wayfinder/msg.Get -/
namespace f_msg_Get
noncomputable def c0 : Code := (Go.Proofs.Tryd.f40.body).getD .skip
abbrev ps : Sg := [(false, (.slice (.int .u8)))]
abbrev rs : Sg := [(true, T4414), (false, (.int .i64))]
noncomputable def V : Env := { tt := tt, Γ := slk [(57, f_msg_May.S), (64, f_octets_GetAll.S), (65, f_rule_Get.S)] }
theorem V_ok : EnvOk P V := { ck := tt_ck, fits := slk_cons f_msg_May.fits (slk_cons f_octets_GetAll.fits (slk_cons f_rule_Get.fits (slk_nil))), mixed := mixed }
abbrev R := Tup rs
noncomputable abbrev Q (r : R) : Exit → St → Prop := Qr tt Go.Proofs.Tryd.f40.results ⟨ps, rs, .any, none, fun _ _ => True⟩ r
noncomputable def s1 (p1 : List Int) (p2 p3 : Int) (p4 p5 : T4414.T) : St := ⟨67, [(0, .cv (.one (.sl (.int .u8) p1 .any))), (2, .cv (.one (.ptr 0 0))), (5, .cv (.one (.i p2))), (7, .cv (.one (.ptr 1 0))), (8, .cv (.one (.i p3)))], [(.box 10, (encC .any T4414 p4)), (.box 10, (encC .any T4414 p5))]⟩
noncomputable def s2 (p1 p2 : T4414.T) : St := ⟨67, [(2, .cv (.one (.ptr 0 0))), (7, .cv (.one (.ptr 1 0)))], [(.box 10, (encC .any T4414 p1)), (.box 10, (encC .any T4414 p2))]⟩
noncomputable def j2 (k : Nat) (p1 p2 : T4414.T) : Option R :=
  (f_msg_May.f k p2).bind fun y16 =>
  if (!y16.1) = true then
    some ((0, (0, (0, (0, ((0, 0), (0, (0, (0, 0)))))))), ((2 : Int), ()))
  else
    some (p2, ((0 : Int), ()))
theorem j2_ok {r} {k p1 p2} (H : j2 k p1 p2 = some r) : Gw P 0 (Q r) (Px c0 255 []) (s2 p1 p2) := by
  unfold j2 at H
  obtain ⟨y16, e17, H⟩ := of_bind H
  refine Rg V_ok 0 [(1, hr f_msg_May.S y16)] (ac (f_msg_May.rl e17) az) ?_
  rcases of_ite H with ⟨hb18, H⟩ | ⟨hb18, H⟩
  · refine C1 hb18 ?_
    refine Rg V_ok 0 [] az ?_
    exact Lf (Eq.trans (by kernel_rfl) H)
  · refine C0 hb18 ?_
    refine Rg V_ok 0 [] az ?_
    exact Lf (Eq.trans (by kernel_rfl) H)
noncomputable def j1 (k : Nat) (p1 : List Int) (p2 p3 : Int) (p4 p5 : T4414.T) : Option R :=
  if (decide ((p1.length : Int) < p3)) = true then
  some ((0, (0, (0, (0, ((0, 0), (0, (0, (0, 0)))))))), ((3 : Int), ()))
else
  if (decide ((p1.length : Int) > p3)) = true then
    some ((0, (0, (0, (0, ((0, 0), (0, (0, (0, 0)))))))), ((2 : Int), ()))
  else
    if (p3 == (18 : Int)) = true then
      if 0 ≤ p2 ∧ p2 ≤ (p1.length : Int) ∧ (p1.length : Int) ≤ (p1.length : Int) then
        (f_rule_Get.f k ((p1.take (p1.length : Int).toNat).drop p2.toNat)).bind fun y12 =>
          if (y12.2.1 != (0 : Int)) = true then
            some ((0, (0, (0, (0, ((0, 0), (0, (0, (0, 0)))))))), ((2 : Int), ()))
          else
            j2 k p4 (p5.1, (p5.2.1, (p5.2.2.1, (p5.2.2.2.1, y12.1))))
      else none
    else
      j2 k p4 p5
theorem j1_ok {r} {k p1 p2 p3 p4 p5} (H : j1 k p1 p2 p3 p4 p5 = some r) : Gw P 0 (Q r) (Px c0 127 []) (s1 p1 p2 p3 p4 p5) := by
  unfold j1 at H
  refine Rg V_ok 0 [] az ?_
  rcases of_ite H with ⟨hb9, H⟩ | ⟨hb9, H⟩
  · refine C1 hb9 ?_
    refine Rg V_ok 0 [] az ?_
    exact Lf (Eq.trans (by kernel_rfl) H)
  · refine C0 hb9 ?_
    refine Rg V_ok 0 [] az ?_
    rcases of_ite H with ⟨hb10, H⟩ | ⟨hb10, H⟩
    · refine C1 hb10 ?_
      refine Rg V_ok 0 [] az ?_
      exact Lf (Eq.trans (by kernel_rfl) H)
    · refine C0 hb10 ?_
      refine Rg V_ok 0 [] az ?_
      rcases of_ite H with ⟨hb11, H⟩ | ⟨hb11, H⟩
      · refine C1 hb11 ?_
        obtain ⟨n13, H⟩ := of_if H
        obtain ⟨y12, e14, H⟩ := of_bind H
        refine Rg V_ok 0 [(3, hr f_rule_Get.S y12)] (ac n13 (ac (f_rule_Get.rl e14) az)) ?_
        refine Rg V_ok 0 [] az ?_
        rcases of_ite H with ⟨hb15, H⟩ | ⟨hb15, H⟩
        · refine C1 hb15 ?_
          refine Rg V_ok 0 [] az ?_
          exact Lf (Eq.trans (by kernel_rfl) H)
        · refine C0 hb15 ?_
          exact Jm (tn [2, 7] 2) (j2_ok H)
      · refine C0 hb11 ?_
        exact Jm (tn [2, 7] 2) (j2_ok H)
noncomputable def f (k : Nat) (a1 : List Int) : Option R :=
  (f_octets_GetAll.f k a1 [1, 3, 3, 2]).bind fun y1 =>
    if (y1.2.2.1 != (0 : Int)) = true then
      some ((0, (0, (0, (0, ((0, 0), (0, (0, (0, 0)))))))), (y1.2.2.1, ()))
    else
      if (0 : Int) < (y1.1.length : Int) then
        if (1 : Int) < (y1.1.length : Int) then
          if (2 : Int) < (y1.1.length : Int) then
            if (3 : Int) < (y1.1.length : Int) then
              if ((att (.int .i64) y1.1 0) == (2 : Int)) = true then
                j1 k a1 y1.2.1 18 (0, (0, (0, (0, ((0, 0), (0, (0, (0, 0)))))))) ((att (.int .i64) y1.1 0), ((att (.int .i64) y1.1 1), ((att (.int .i64) y1.1 2), ((att (.int .i64) y1.1 3), ((0, 0), (0, (0, (0, 0))))))))
              else
                j1 k a1 y1.2.1 9 (0, (0, (0, (0, ((0, 0), (0, (0, (0, 0)))))))) ((att (.int .i64) y1.1 0), ((att (.int .i64) y1.1 1), ((att (.int .i64) y1.1 2), ((att (.int .i64) y1.1 3), ((0, 0), (0, (0, (0, 0))))))))
            else none
          else none
        else none
      else none
noncomputable def S : Spec := ⟨ps, rs, .any, none, fun x r => ∃ k, f k x.1 = some r⟩
theorem rl {k a1 r} (e : f k a1 = some r) : S.rel (a1, ()) r := ⟨k, e⟩
theorem f_ok {r k a1} (H : f k a1 = some r) : Gw P 0 (Q r) (Px c0 1 []) (⟨67, [(0, .cv (.one (.sl (.int .u8) a1 .any)))], []⟩) := by
  unfold f at H
  refine Rg V_ok 1 [(0, hb 0)] az ?_
  obtain ⟨y1, e2, H⟩ := of_bind H
  refine Rg V_ok 0 [(2, hr f_octets_GetAll.S y1)] (ac (f_octets_GetAll.rl e2) az) ?_
  refine Rg V_ok 0 [] az ?_
  rcases of_ite H with ⟨hb3, H⟩ | ⟨hb3, H⟩
  · refine C1 hb3 ?_
    refine Rg V_ok 0 [] az ?_
    exact Lf (Eq.trans (by kernel_rfl) H)
  · refine C0 hb3 ?_
    obtain ⟨n4, H⟩ := of_if H
    obtain ⟨n5, H⟩ := of_if H
    obtain ⟨n6, H⟩ := of_if H
    obtain ⟨n7, H⟩ := of_if H
    refine Rg V_ok 1 [(13, hb 1)] (ac (show 0 ≤ (0 : Int) by decide) (ac n4 (ac (show 0 ≤ (1 : Int) by decide) (ac n5 (ac (show 0 ≤ (2 : Int) by decide) (ac n6 (ac (show 0 ≤ (3 : Int) by decide) (ac n7 az)))))))) ?_
    refine Rg V_ok 0 [] az ?_
    refine Rg V_ok 0 [] az ?_
    rcases of_ite H with ⟨hb8, H⟩ | ⟨hb8, H⟩
    · refine C1 hb8 ?_
      refine Rg V_ok 0 [] az ?_
      exact Jm (tn [0, 2, 5, 7, 8] 2) (j1_ok H)
    · refine C0 hb8 ?_
      exact Jm (tn [0, 2, 5, 7, 8] 2) (j1_ok H)
theorem fits : Fits P 40 S := fits_of V_ok Go.Proofs.Tryd.func40 (by kernel_rfl) (by decide) (by decide) rfl (fun x r ⟨k, H⟩ => of_G (f_ok H))
end f_msg_Get
/-! ### function 33, wayfinder/frame.Open$2, where it is called -/
namespace i_frame_Open_2_2b5
noncomputable def c0 : Code := (Go.Proofs.Tryd.f33.body).getD .skip
noncomputable def V : Env := { tt := tt, Γ := slk [(34, f_frame_unless.S)] }
theorem V_ok : EnvOk P V := { ck := tt_ck, fits := slk_cons f_frame_unless.fits (slk_nil), mixed := mixed }
abbrev R := (Int) × Unit
noncomputable def s0 (p1 : List Int) (p2 : T4414.T) (p3 : Int) : St := ⟨6, [(0, .cv (.one (.ptr 0 0)))], [(.box 1, [.sl (.int .u8) p1 .any]), (.box 10, (encC .any T4414 p2)), (.box 1, [.i p3]), (.box 6, [.fn 33 [] [(0, 0)], .fn 35 [] [(0, 0), (2, 0)], .fn 36 [] [(0, 0), (4, 0)], .fn 37 [] [(0, 0), (4, 0)], .fn 38 [] [(0, 0)], .fn 39 [] [(2, 0), (0, 0)]]), (.box 1, [.fn 32 [] [(2, 0)]])]⟩
noncomputable def out (p1 : List Int) (p2 : T4414.T) (p3 : Int) (r : R) : St := ⟨6, [(1, .cv (.one (.i r.1)))], [(.box 1, [.sl (.int .u8) p1 .any]), (.box 10, (encC .any T4414 p2)), (.box 1, [.i p3]), (.box 6, [.fn 33 [] [(0, 0)], .fn 35 [] [(0, 0), (2, 0)], .fn 36 [] [(0, 0), (4, 0)], .fn 37 [] [(0, 0), (4, 0)], .fn 38 [] [(0, 0)], .fn 39 [] [(2, 0), (0, 0)]]), (.box 1, [.fn 32 [] [(2, 0)]])]⟩
abbrev Q (p1 : List Int) (p2 : T4414.T) (p3 : Int) (r : R) := CallQ 5 (out p1 p2 p3 r)
noncomputable def f (k : Nat) (p1 : List Int) (p2 : T4414.T) (p3 : Int) : Option R :=
  (f_frame_unless.f k (decide ((p1.length : Int) < (4 : Int))) (3 : Int)).bind fun y1 =>
    some (y1.1, ())
theorem f_ok {r k p1 p2 p3} (H : f k p1 p2 p3 = some r) : Gw P 5 (Q p1 p2 p3 r) (Px c0 1 []) (s0 p1 p2 p3) := by
  unfold f at H
  refine Rg V_ok 0 [] az ?_
  obtain ⟨y1, e2, H⟩ := of_bind H
  refine Rg V_ok 0 [(3, hr f_frame_unless.S y1)] (ac (f_frame_unless.rl e2) az) ?_
  obtain rfl := Option.some.inj H
  exact Lq (tn [1] 5)
theorem ok {r k p1 p2 p3} (H : f k p1 p2 p3 = some r) : W P 5 c0 (s0 p1 p2 p3) (CallQ 5 (out p1 p2 p3 r)) := of_G (f_ok H)
theorem at_ : FnAt P 33 6 c0 Go.Proofs.Tryd.f33.results := fnAt Go.Proofs.Tryd.func33 (by kernel_rfl) (by decide) (by kernel_rfl) (by kernel_rfl)
end i_frame_Open_2_2b5
/-! ### function 35, wayfinder/frame.Open$3, where it is called -/
namespace i_frame_Open_3_96f
noncomputable def c0 : Code := (Go.Proofs.Tryd.f35.body).getD .skip
noncomputable def V : Env := { tt := tt, Γ := slk [(34, f_frame_unless.S)] }
theorem V_ok : EnvOk P V := { ck := tt_ck, fits := slk_cons f_frame_unless.fits (slk_nil), mixed := mixed }
abbrev R := (Int) × (Int) × Unit
noncomputable def s0 (p1 : List Int) (p2 : T4414.T) (p3 : Int) : St := ⟨12, [(0, .cv (.one (.ptr 0 0))), (1, .cv (.one (.ptr 2 0)))], [(.box 1, [.sl (.int .u8) p1 .any]), (.box 10, (encC .any T4414 p2)), (.box 1, [.i p3]), (.box 6, [.fn 33 [] [(0, 0)], .fn 35 [] [(0, 0), (2, 0)], .fn 36 [] [(0, 0), (4, 0)], .fn 37 [] [(0, 0), (4, 0)], .fn 38 [] [(0, 0)], .fn 39 [] [(2, 0), (0, 0)]]), (.box 1, [.fn 32 [] [(2, 0)]])]⟩
noncomputable def out (p1 : List Int) (p2 : T4414.T) (p3 : Int) (r : R) : St := ⟨12, [(2, .cv (.one (.i r.1)))], [(.box 1, [.sl (.int .u8) p1 .any]), (.box 10, (encC .any T4414 p2)), (.box 1, [.i r.2.1]), (.box 6, [.fn 33 [] [(0, 0)], .fn 35 [] [(0, 0), (2, 0)], .fn 36 [] [(0, 0), (4, 0)], .fn 37 [] [(0, 0), (4, 0)], .fn 38 [] [(0, 0)], .fn 39 [] [(2, 0), (0, 0)]]), (.box 1, [.fn 32 [] [(2, 0)]])]⟩
abbrev Q (p1 : List Int) (p2 : T4414.T) (p3 : Int) (r : R) := CallQ 5 (out p1 p2 p3 r)
noncomputable def f (k : Nat) (p1 : List Int) (p2 : T4414.T) (p3 : Int) : Option R :=
  if (1 : Int) < (p1.length : Int) then
    if (0 : Int) < (p1.length : Int) then
      (f_frame_unless.f k ((att (.int .u8) p1 0) != (197 : Int)) (2 : Int)).bind fun y2 =>
        some (y2.1, ((IntKind.i64.wrap (att (.int .u8) p1 1)), ()))
    else none
  else none
theorem f_ok {r k p1 p2 p3} (H : f k p1 p2 p3 = some r) : Gw P 5 (Q p1 p2 p3 r) (Px c0 1 []) (s0 p1 p2 p3) := by
  unfold f at H
  refine Rg V_ok 0 [] az ?_
  obtain ⟨n1, H⟩ := of_if H
  refine Rg V_ok 0 [] (ac (show 0 ≤ (1 : Int) by decide) (ac n1 az)) ?_
  obtain ⟨n3, H⟩ := of_if H
  obtain ⟨y2, e4, H⟩ := of_bind H
  refine Rg V_ok 0 [(4, hr f_frame_unless.S y2)] (ac (show 0 ≤ (0 : Int) by decide) (ac n3 (ac (f_frame_unless.rl e4) az))) ?_
  obtain rfl := Option.some.inj H
  exact Lq (tn [2] 5)
theorem ok {r k p1 p2 p3} (H : f k p1 p2 p3 = some r) : W P 5 c0 (s0 p1 p2 p3) (CallQ 5 (out p1 p2 p3 r)) := of_G (f_ok H)
theorem at_ : FnAt P 35 12 c0 Go.Proofs.Tryd.f35.results := fnAt Go.Proofs.Tryd.func35 (by kernel_rfl) (by decide) (by kernel_rfl) (by kernel_rfl)
end i_frame_Open_3_96f
/-! ### function 32, wayfinder/frame.Open$1, where it is called -/
namespace i_frame_Open_1_da9
noncomputable def c0 : Code := (Go.Proofs.Tryd.f32.body).getD .skip
noncomputable def V : Env := { tt := tt, Γ := slk [] }
theorem V_ok : EnvOk P V := { ck := tt_ck, fits := slk_nil, mixed := mixed }
abbrev R := (Int) × Unit
noncomputable def s0 (p1 : List Int) (p2 : T4414.T) (p3 : Int) : St := ⟨8, [(0, .cv (.one (.ptr 2 0)))], [(.box 1, [.sl (.int .u8) p1 .any]), (.box 10, (encC .any T4414 p2)), (.box 1, [.i p3]), (.box 1, [.fn 32 [] [(2, 0)]]), (.box 6, [.fn 33 [] [(0, 0)], .fn 35 [] [(0, 0), (2, 0)], .fn 36 [] [(0, 0), (3, 0)], .fn 37 [] [(0, 0), (3, 0)], .fn 38 [] [(0, 0)], .fn 39 [] [(2, 0), (0, 0)]])]⟩
noncomputable def out (p1 : List Int) (p2 : T4414.T) (p3 : Int) (r : R) : St := ⟨8, [(1, .cv (.one (.i r.1)))], [(.box 1, [.sl (.int .u8) p1 .any]), (.box 10, (encC .any T4414 p2)), (.box 1, [.i p3]), (.box 1, [.fn 32 [] [(2, 0)]]), (.box 6, [.fn 33 [] [(0, 0)], .fn 35 [] [(0, 0), (2, 0)], .fn 36 [] [(0, 0), (3, 0)], .fn 37 [] [(0, 0), (3, 0)], .fn 38 [] [(0, 0)], .fn 39 [] [(2, 0), (0, 0)]])]⟩
abbrev Q (p1 : List Int) (p2 : T4414.T) (p3 : Int) (r : R) := CallQ 5 (out p1 p2 p3 r)
noncomputable def f (k : Nat) (p1 : List Int) (p2 : T4414.T) (p3 : Int) : Option R :=
  some ((IntKind.i64.wrap ((IntKind.i64.wrap ((IntKind.i64.wrap (2 + p3)) + (Int.tmod p3 2))) + 2)), ())
theorem f_ok {r k p1 p2 p3} (H : f k p1 p2 p3 = some r) : Gw P 5 (Q p1 p2 p3 r) (Px c0 1 []) (s0 p1 p2 p3) := by
  unfold f at H
  refine Rg V_ok 0 [] az ?_
  refine Rg V_ok 0 [] (ac (show (2 : Int) ≠ 0 by decide) az) ?_
  obtain rfl := Option.some.inj H
  exact Lq (tn [1] 5)
theorem ok {r k p1 p2 p3} (H : f k p1 p2 p3 = some r) : W P 5 c0 (s0 p1 p2 p3) (CallQ 5 (out p1 p2 p3 r)) := of_G (f_ok H)
theorem at_ : FnAt P 32 8 c0 Go.Proofs.Tryd.f32.results := fnAt Go.Proofs.Tryd.func32 (by kernel_rfl) (by decide) (by kernel_rfl) (by kernel_rfl)
end i_frame_Open_1_da9
/-! ### function 36, wayfinder/frame.Open$4, where it is called -/
namespace i_frame_Open_4_316
noncomputable def c0 : Code := (Go.Proofs.Tryd.f36.body).getD .skip
noncomputable def V : Env := { tt := tt, Γ := slk [(34, f_frame_unless.S)] }
theorem V_ok : EnvOk P V := { ck := tt_ck, fits := slk_cons f_frame_unless.fits (slk_nil), mixed := mixed }
abbrev R := (Int) × Unit
noncomputable def s0 (p1 : List Int) (p2 : T4414.T) (p3 : Int) : St := ⟨9, [(0, .cv (.one (.ptr 0 0))), (1, .cv (.one (.ptr 3 0)))], [(.box 1, [.sl (.int .u8) p1 .any]), (.box 10, (encC .any T4414 p2)), (.box 1, [.i p3]), (.box 1, [.fn 32 [] [(2, 0)]]), (.box 6, [.fn 33 [] [(0, 0)], .fn 35 [] [(0, 0), (2, 0)], .fn 36 [] [(0, 0), (3, 0)], .fn 37 [] [(0, 0), (3, 0)], .fn 38 [] [(0, 0)], .fn 39 [] [(2, 0), (0, 0)]])]⟩
noncomputable def out (p1 : List Int) (p2 : T4414.T) (p3 : Int) (r : R) : St := ⟨9, [(2, .cv (.one (.i r.1)))], [(.box 1, [.sl (.int .u8) p1 .any]), (.box 10, (encC .any T4414 p2)), (.box 1, [.i p3]), (.box 1, [.fn 32 [] [(2, 0)]]), (.box 6, [.fn 33 [] [(0, 0)], .fn 35 [] [(0, 0), (2, 0)], .fn 36 [] [(0, 0), (3, 0)], .fn 37 [] [(0, 0), (3, 0)], .fn 38 [] [(0, 0)], .fn 39 [] [(2, 0), (0, 0)]])]⟩
abbrev Q (p1 : List Int) (p2 : T4414.T) (p3 : Int) (r : R) := CallQ 5 (out p1 p2 p3 r)
noncomputable def f (k : Nat) (p1 : List Int) (p2 : T4414.T) (p3 : Int) : Option R :=
  (i_frame_Open_1_da9.f k p1 p2 p3).bind fun y1 =>
    (f_frame_unless.f k (decide ((p1.length : Int) < y1.1)) (3 : Int)).bind fun y3 =>
        some (y3.1, ())
theorem f_ok {r k p1 p2 p3} (H : f k p1 p2 p3 = some r) : Gw P 5 (Q p1 p2 p3 r) (Px c0 1 []) (s0 p1 p2 p3) := by
  unfold f at H
  refine Rg V_ok 0 [] az ?_
  obtain ⟨y1, e2, H⟩ := of_bind H
  obtain ⟨y3, e4, H⟩ := of_bind H
  let x : Nx := (Px c0 5 [])
  let t0 : St := ⟨9, [(0, .cv (.one (.ptr 0 0))), (1, .cv (.one (.ptr 3 0)))], [(.box 1, [.sl (.int .u8) p1 .any]), (.box 10, (encC .any T4414 p2)), (.box 1, [.i p3]), (.box 1, [.fn 32 [] [(2, 0)]]), (.box 6, [.fn 33 [] [(0, 0)], .fn 35 [] [(0, 0), (2, 0)], .fn 36 [] [(0, 0), (3, 0)], .fn 37 [] [(0, 0), (3, 0)], .fn 38 [] [(0, 0)], .fn 39 [] [(2, 0), (0, 0)]])]⟩
  refine Jm (x' := x) (τ := t0) (tn [0, 1] 5) ?_
  let Φ := phiX P 5 (Q p1 p2 p3 r) x
  let t1 : St := stpS V x 0 [] 0 (tn [0, 1, 3] 5) t0
  let t2 : St := stpS V x 0 [] 2 (tn [0, 1, 5] 5) t0
  let t3 : St := stpS V x 0 [] 1 (tn [0, 1, 4] 5) t1
  let t4 : St := stpS V x 0 [] 2 (tn [0, 1, 3, 5] 5) t1
  let t5 : St := clT V.tt x 3 Go.Proofs.Tryd.f32.results (tn [0, 1, 6] 5) t2 (i_frame_Open_1_da9.out p1 p2 p3 y1)
  let t6 : St := stpS V x 0 [] 2 (tn [0, 1, 4, 5] 5) t3
  let t7 : St := clT V.tt x 3 Go.Proofs.Tryd.f32.results (tn [0, 1, 3, 6] 5) t4 (i_frame_Open_1_da9.out p1 p2 p3 y1)
  let t8 : St := clT V.tt x 3 Go.Proofs.Tryd.f32.results (tn [0, 1, 4, 6] 5) t6 (i_frame_Open_1_da9.out p1 p2 p3 y1)
  let t9 : St := stpS V x 0 [] 4 (tn [0, 1, 7] 5) t8
  let t10 : St := stpS V x 0 [(5, hr f_frame_unless.S y3)] 5 (tn [0, 1, 8] 5) t9
  let t11 : St := stpS V x 0 [] 6 (tn [2] 5) t10
  have w11 : WA P 5 (opsX x) 0 (bs 7 127) Φ t11 := by
    refine WA_nil (by kernel_rfl) (RAn (by kernel_rfl) ?_)
    obtain rfl := Option.some.inj H
    exact Lq (tn [2] 5)
  have w10 : WA P 5 (opsX x) 1 (bs 7 63) Φ t10 := WT V_ok [] 6 (tn [2] 5) az w11
  have w9 : WA P 5 (opsX x) 2 (bs 7 31) Φ t9 := WAs (an (WE V_ok 0 [(5, hr f_frame_unless.S y3)] 5 (tn [0, 1, 8] 5) (ac (f_frame_unless.rl e4) az) w10) aN)
  have w8 : WA P 5 (opsX x) 3 (bs 7 15) Φ t8 := WAs (an (WE V_ok 0 [] 4 (tn [0, 1, 7] 5) az w9) aN)
  have w7 : WA P 5 (opsX x) 4 (bs 7 13) Φ t7 := WAs (an (WE V_ok 0 [] 1 (tn [0, 1, 4, 6] 5) az w8) aN)
  have w6 : WA P 5 (opsX x) 4 (bs 7 7) Φ t6 := WAs (an (WC V_ok 3 (tn [0, 1, 4, 6] 5) i_frame_Open_1_da9.at_ (i_frame_Open_1_da9.ok e2) w8) aN)
  have w5 : WA P 5 (opsX x) 5 (bs 7 12) Φ t5 := WAs (an (WE V_ok 0 [] 0 (tn [0, 1, 3, 6] 5) az w7) aN)
  have w4 : WA P 5 (opsX x) 5 (bs 7 5) Φ t4 := WAs (an (WE V_ok 0 [] 1 (tn [0, 1, 4, 5] 5) az w6) (an (WC V_ok 3 (tn [0, 1, 3, 6] 5) i_frame_Open_1_da9.at_ (i_frame_Open_1_da9.ok e2) w7) aN))
  have w3 : WA P 5 (opsX x) 5 (bs 7 3) Φ t3 := WAs (an (WE V_ok 0 [] 2 (tn [0, 1, 4, 5] 5) az w6) aN)
  have w2 : WA P 5 (opsX x) 6 (bs 7 4) Φ t2 := WAs (an (WE V_ok 0 [] 0 (tn [0, 1, 3, 5] 5) az w4) (an (WC V_ok 3 (tn [0, 1, 6] 5) i_frame_Open_1_da9.at_ (i_frame_Open_1_da9.ok e2) w5) aN))
  have w1 : WA P 5 (opsX x) 6 (bs 7 1) Φ t1 := WAs (an (WE V_ok 0 [] 1 (tn [0, 1, 4] 5) az w3) (an (WE V_ok 0 [] 2 (tn [0, 1, 3, 5] 5) az w4) aN))
  have w0 : WA P 5 (opsX x) 7 (bs 7 0) Φ t0 := WAs (an (WE V_ok 0 [] 0 (tn [0, 1, 3] 5) az w1) (an (WE V_ok 0 [] 2 (tn [0, 1, 5] 5) az w2) aN))
  exact RA V_ok 7 (by kernel_rfl) (by kernel_rfl) (by kernel_rfl) w0
theorem ok {r k p1 p2 p3} (H : f k p1 p2 p3 = some r) : W P 5 c0 (s0 p1 p2 p3) (CallQ 5 (out p1 p2 p3 r)) := of_G (f_ok H)
theorem at_ : FnAt P 36 9 c0 Go.Proofs.Tryd.f36.results := fnAt Go.Proofs.Tryd.func36 (by kernel_rfl) (by decide) (by kernel_rfl) (by kernel_rfl)
end i_frame_Open_4_316
/-! ### function 37, wayfinder/frame.Open$5, where it is called -/
namespace i_frame_Open_5_316
noncomputable def c0 : Code := (Go.Proofs.Tryd.f37.body).getD .skip
noncomputable def V : Env := { tt := tt, Γ := slk [(34, f_frame_unless.S)] }
theorem V_ok : EnvOk P V := { ck := tt_ck, fits := slk_cons f_frame_unless.fits (slk_nil), mixed := mixed }
abbrev R := (Int) × Unit
noncomputable def s0 (p1 : List Int) (p2 : T4414.T) (p3 : Int) : St := ⟨9, [(0, .cv (.one (.ptr 0 0))), (1, .cv (.one (.ptr 3 0)))], [(.box 1, [.sl (.int .u8) p1 .any]), (.box 10, (encC .any T4414 p2)), (.box 1, [.i p3]), (.box 1, [.fn 32 [] [(2, 0)]]), (.box 6, [.fn 33 [] [(0, 0)], .fn 35 [] [(0, 0), (2, 0)], .fn 36 [] [(0, 0), (3, 0)], .fn 37 [] [(0, 0), (3, 0)], .fn 38 [] [(0, 0)], .fn 39 [] [(2, 0), (0, 0)]])]⟩
noncomputable def out (p1 : List Int) (p2 : T4414.T) (p3 : Int) (r : R) : St := ⟨9, [(2, .cv (.one (.i r.1)))], [(.box 1, [.sl (.int .u8) p1 .any]), (.box 10, (encC .any T4414 p2)), (.box 1, [.i p3]), (.box 1, [.fn 32 [] [(2, 0)]]), (.box 6, [.fn 33 [] [(0, 0)], .fn 35 [] [(0, 0), (2, 0)], .fn 36 [] [(0, 0), (3, 0)], .fn 37 [] [(0, 0), (3, 0)], .fn 38 [] [(0, 0)], .fn 39 [] [(2, 0), (0, 0)]])]⟩
abbrev Q (p1 : List Int) (p2 : T4414.T) (p3 : Int) (r : R) := CallQ 5 (out p1 p2 p3 r)
noncomputable def f (k : Nat) (p1 : List Int) (p2 : T4414.T) (p3 : Int) : Option R :=
  (i_frame_Open_1_da9.f k p1 p2 p3).bind fun y1 =>
    (f_frame_unless.f k (decide ((p1.length : Int) > y1.1)) (2 : Int)).bind fun y3 =>
        some (y3.1, ())
theorem f_ok {r k p1 p2 p3} (H : f k p1 p2 p3 = some r) : Gw P 5 (Q p1 p2 p3 r) (Px c0 1 []) (s0 p1 p2 p3) := by
  unfold f at H
  refine Rg V_ok 0 [] az ?_
  obtain ⟨y1, e2, H⟩ := of_bind H
  obtain ⟨y3, e4, H⟩ := of_bind H
  let x : Nx := (Px c0 5 [])
  let t0 : St := ⟨9, [(0, .cv (.one (.ptr 0 0))), (1, .cv (.one (.ptr 3 0)))], [(.box 1, [.sl (.int .u8) p1 .any]), (.box 10, (encC .any T4414 p2)), (.box 1, [.i p3]), (.box 1, [.fn 32 [] [(2, 0)]]), (.box 6, [.fn 33 [] [(0, 0)], .fn 35 [] [(0, 0), (2, 0)], .fn 36 [] [(0, 0), (3, 0)], .fn 37 [] [(0, 0), (3, 0)], .fn 38 [] [(0, 0)], .fn 39 [] [(2, 0), (0, 0)]])]⟩
  refine Jm (x' := x) (τ := t0) (tn [0, 1] 5) ?_
  let Φ := phiX P 5 (Q p1 p2 p3 r) x
  let t1 : St := stpS V x 0 [] 0 (tn [0, 1, 3] 5) t0
  let t2 : St := stpS V x 0 [] 2 (tn [0, 1, 5] 5) t0
  let t3 : St := stpS V x 0 [] 1 (tn [0, 1, 4] 5) t1
  let t4 : St := stpS V x 0 [] 2 (tn [0, 1, 3, 5] 5) t1
  let t5 : St := clT V.tt x 3 Go.Proofs.Tryd.f32.results (tn [0, 1, 6] 5) t2 (i_frame_Open_1_da9.out p1 p2 p3 y1)
  let t6 : St := stpS V x 0 [] 2 (tn [0, 1, 4, 5] 5) t3
  let t7 : St := clT V.tt x 3 Go.Proofs.Tryd.f32.results (tn [0, 1, 3, 6] 5) t4 (i_frame_Open_1_da9.out p1 p2 p3 y1)
  let t8 : St := clT V.tt x 3 Go.Proofs.Tryd.f32.results (tn [0, 1, 4, 6] 5) t6 (i_frame_Open_1_da9.out p1 p2 p3 y1)
  let t9 : St := stpS V x 0 [] 4 (tn [0, 1, 7] 5) t8
  let t10 : St := stpS V x 0 [(5, hr f_frame_unless.S y3)] 5 (tn [0, 1, 8] 5) t9
  let t11 : St := stpS V x 0 [] 6 (tn [2] 5) t10
  have w11 : WA P 5 (opsX x) 0 (bs 7 127) Φ t11 := by
    refine WA_nil (by kernel_rfl) (RAn (by kernel_rfl) ?_)
    obtain rfl := Option.some.inj H
    exact Lq (tn [2] 5)
  have w10 : WA P 5 (opsX x) 1 (bs 7 63) Φ t10 := WT V_ok [] 6 (tn [2] 5) az w11
  have w9 : WA P 5 (opsX x) 2 (bs 7 31) Φ t9 := WAs (an (WE V_ok 0 [(5, hr f_frame_unless.S y3)] 5 (tn [0, 1, 8] 5) (ac (f_frame_unless.rl e4) az) w10) aN)
  have w8 : WA P 5 (opsX x) 3 (bs 7 15) Φ t8 := WAs (an (WE V_ok 0 [] 4 (tn [0, 1, 7] 5) az w9) aN)
  have w7 : WA P 5 (opsX x) 4 (bs 7 13) Φ t7 := WAs (an (WE V_ok 0 [] 1 (tn [0, 1, 4, 6] 5) az w8) aN)
  have w6 : WA P 5 (opsX x) 4 (bs 7 7) Φ t6 := WAs (an (WC V_ok 3 (tn [0, 1, 4, 6] 5) i_frame_Open_1_da9.at_ (i_frame_Open_1_da9.ok e2) w8) aN)
  have w5 : WA P 5 (opsX x) 5 (bs 7 12) Φ t5 := WAs (an (WE V_ok 0 [] 0 (tn [0, 1, 3, 6] 5) az w7) aN)
  have w4 : WA P 5 (opsX x) 5 (bs 7 5) Φ t4 := WAs (an (WE V_ok 0 [] 1 (tn [0, 1, 4, 5] 5) az w6) (an (WC V_ok 3 (tn [0, 1, 3, 6] 5) i_frame_Open_1_da9.at_ (i_frame_Open_1_da9.ok e2) w7) aN))
  have w3 : WA P 5 (opsX x) 5 (bs 7 3) Φ t3 := WAs (an (WE V_ok 0 [] 2 (tn [0, 1, 4, 5] 5) az w6) aN)
  have w2 : WA P 5 (opsX x) 6 (bs 7 4) Φ t2 := WAs (an (WE V_ok 0 [] 0 (tn [0, 1, 3, 5] 5) az w4) (an (WC V_ok 3 (tn [0, 1, 6] 5) i_frame_Open_1_da9.at_ (i_frame_Open_1_da9.ok e2) w5) aN))
  have w1 : WA P 5 (opsX x) 6 (bs 7 1) Φ t1 := WAs (an (WE V_ok 0 [] 1 (tn [0, 1, 4] 5) az w3) (an (WE V_ok 0 [] 2 (tn [0, 1, 3, 5] 5) az w4) aN))
  have w0 : WA P 5 (opsX x) 7 (bs 7 0) Φ t0 := WAs (an (WE V_ok 0 [] 0 (tn [0, 1, 3] 5) az w1) (an (WE V_ok 0 [] 2 (tn [0, 1, 5] 5) az w2) aN))
  exact RA V_ok 7 (by kernel_rfl) (by kernel_rfl) (by kernel_rfl) w0
theorem ok {r k p1 p2 p3} (H : f k p1 p2 p3 = some r) : W P 5 c0 (s0 p1 p2 p3) (CallQ 5 (out p1 p2 p3 r)) := of_G (f_ok H)
theorem at_ : FnAt P 37 9 c0 Go.Proofs.Tryd.f37.results := fnAt Go.Proofs.Tryd.func37 (by kernel_rfl) (by decide) (by kernel_rfl) (by kernel_rfl)
end i_frame_Open_5_316
/-! ### function 38, wayfinder/frame.Open$6, where it is called -/
namespace i_frame_Open_6_2b5
noncomputable def c0 : Code := (Go.Proofs.Tryd.f38.body).getD .skip
noncomputable def V : Env := { tt := tt, Γ := slk [(27, f_octets_Sum.S), (34, f_frame_unless.S)] }
theorem V_ok : EnvOk P V := { ck := tt_ck, fits := slk_cons f_octets_Sum.fits (slk_cons f_frame_unless.fits (slk_nil)), mixed := mixed }
abbrev R := (Int) × Unit
noncomputable def s0 (p1 : List Int) (p2 : T4414.T) (p3 : Int) : St := ⟨6, [(0, .cv (.one (.ptr 0 0)))], [(.box 1, [.sl (.int .u8) p1 .any]), (.box 10, (encC .any T4414 p2)), (.box 1, [.i p3]), (.box 6, [.fn 33 [] [(0, 0)], .fn 35 [] [(0, 0), (2, 0)], .fn 36 [] [(0, 0), (4, 0)], .fn 37 [] [(0, 0), (4, 0)], .fn 38 [] [(0, 0)], .fn 39 [] [(2, 0), (0, 0)]]), (.box 1, [.fn 32 [] [(2, 0)]])]⟩
noncomputable def out (p1 : List Int) (p2 : T4414.T) (p3 : Int) (r : R) : St := ⟨6, [(1, .cv (.one (.i r.1)))], [(.box 1, [.sl (.int .u8) p1 .any]), (.box 10, (encC .any T4414 p2)), (.box 1, [.i p3]), (.box 6, [.fn 33 [] [(0, 0)], .fn 35 [] [(0, 0), (2, 0)], .fn 36 [] [(0, 0), (4, 0)], .fn 37 [] [(0, 0), (4, 0)], .fn 38 [] [(0, 0)], .fn 39 [] [(2, 0), (0, 0)]]), (.box 1, [.fn 32 [] [(2, 0)]])]⟩
abbrev Q (p1 : List Int) (p2 : T4414.T) (p3 : Int) (r : R) := CallQ 5 (out p1 p2 p3 r)
noncomputable def f (k : Nat) (p1 : List Int) (p2 : T4414.T) (p3 : Int) : Option R :=
  (f_octets_Sum.f k p1).bind fun y1 =>
    (f_frame_unless.f k (y1.1 != (0 : Int)) (4 : Int)).bind fun y2 =>
      some (y2.1, ())
theorem f_ok {r k p1 p2 p3} (H : f k p1 p2 p3 = some r) : Gw P 5 (Q p1 p2 p3 r) (Px c0 1 []) (s0 p1 p2 p3) := by
  unfold f at H
  refine Rg V_ok 0 [] az ?_
  obtain ⟨y1, e3, H⟩ := of_bind H
  obtain ⟨y2, e4, H⟩ := of_bind H
  refine Rg V_ok 0 [(1, hr f_octets_Sum.S y1), (3, hr f_frame_unless.S y2)] (ac (f_octets_Sum.rl e3) (ac (f_frame_unless.rl e4) az)) ?_
  obtain rfl := Option.some.inj H
  exact Lq (tn [1] 5)
theorem ok {r k p1 p2 p3} (H : f k p1 p2 p3 = some r) : W P 5 c0 (s0 p1 p2 p3) (CallQ 5 (out p1 p2 p3 r)) := of_G (f_ok H)
theorem at_ : FnAt P 38 6 c0 Go.Proofs.Tryd.f38.results := fnAt Go.Proofs.Tryd.func38 (by kernel_rfl) (by decide) (by kernel_rfl) (by kernel_rfl)
end i_frame_Open_6_2b5
/-! ### function 39, wayfinder/frame.Open$7, where it is called -/
namespace i_frame_Open_7_0bb
noncomputable def c0 : Code := (Go.Proofs.Tryd.f39.body).getD .skip
noncomputable def V : Env := { tt := tt, Γ := slk [(34, f_frame_unless.S)] }
theorem V_ok : EnvOk P V := { ck := tt_ck, fits := slk_cons f_frame_unless.fits (slk_nil), mixed := mixed }
abbrev R := (Int) × Unit
noncomputable def s0 (p1 : List Int) (p2 : T4414.T) (p3 : Int) : St := ⟨15, [(0, .cv (.one (.ptr 2 0))), (1, .cv (.one (.ptr 0 0)))], [(.box 1, [.sl (.int .u8) p1 .any]), (.box 10, (encC .any T4414 p2)), (.box 1, [.i p3]), (.box 6, [.fn 33 [] [(0, 0)], .fn 35 [] [(0, 0), (2, 0)], .fn 36 [] [(0, 0), (4, 0)], .fn 37 [] [(0, 0), (4, 0)], .fn 38 [] [(0, 0)], .fn 39 [] [(2, 0), (0, 0)]]), (.box 1, [.fn 32 [] [(2, 0)]])]⟩
noncomputable def out (p1 : List Int) (p2 : T4414.T) (p3 : Int) (r : R) : St := ⟨15, [(2, .cv (.one (.i r.1)))], [(.box 1, [.sl (.int .u8) p1 .any]), (.box 10, (encC .any T4414 p2)), (.box 1, [.i p3]), (.box 6, [.fn 33 [] [(0, 0)], .fn 35 [] [(0, 0), (2, 0)], .fn 36 [] [(0, 0), (4, 0)], .fn 37 [] [(0, 0), (4, 0)], .fn 38 [] [(0, 0)], .fn 39 [] [(2, 0), (0, 0)]]), (.box 1, [.fn 32 [] [(2, 0)]])]⟩
abbrev Q (p1 : List Int) (p2 : T4414.T) (p3 : Int) (r : R) := CallQ 5 (out p1 p2 p3 r)
noncomputable def f (k : Nat) (p1 : List Int) (p2 : T4414.T) (p3 : Int) : Option R :=
  if ((Int.tmod p3 2) == (1 : Int)) = true then
    if 0 ≤ (IntKind.i64.wrap (2 + p3)) then
      if (IntKind.i64.wrap (2 + p3)) < (p1.length : Int) then
        (f_frame_unless.f k ((att (.int .u8) p1 (IntKind.i64.wrap (2 + p3))) != (0 : Int)) (2 : Int)).bind fun y1 =>
          some (y1.1, ())
      else none
    else none
  else
    (f_frame_unless.f k false (2 : Int)).bind fun y1 =>
      some (y1.1, ())
theorem f_ok {r k p1 p2 p3} (H : f k p1 p2 p3 = some r) : Gw P 5 (Q p1 p2 p3 r) (Px c0 1 []) (s0 p1 p2 p3) := by
  unfold f at H
  refine Rg V_ok 0 [] az ?_
  rcases of_ite H with ⟨hb2, H⟩ | ⟨hb2, H⟩
  · obtain ⟨n3, H⟩ := of_if H
    obtain ⟨n4, H⟩ := of_if H
    obtain ⟨y1, e5, H⟩ := of_bind H
    refine Rg V_ok 0 [(2, {bv := some true}), (11, hr f_frame_unless.S y1)] (ac (show (2 : Int) ≠ 0 by decide) (ac hb2 (ac n3 (ac n4 (ac (f_frame_unless.rl e5) az))))) ?_
    obtain rfl := Option.some.inj H
    exact Lq (tn [2] 5)
  · obtain ⟨y1, e6, H⟩ := of_bind H
    refine Rg V_ok 0 [(2, {bv := some false}), (11, hr f_frame_unless.S y1)] (ac (show (2 : Int) ≠ 0 by decide) (ac hb2 (ac (f_frame_unless.rl e6) az))) ?_
    obtain rfl := Option.some.inj H
    exact Lq (tn [2] 5)
theorem ok {r k p1 p2 p3} (H : f k p1 p2 p3 = some r) : W P 5 c0 (s0 p1 p2 p3) (CallQ 5 (out p1 p2 p3 r)) := of_G (f_ok H)
theorem at_ : FnAt P 39 15 c0 Go.Proofs.Tryd.f39.results := fnAt Go.Proofs.Tryd.func39 (by kernel_rfl) (by decide) (by kernel_rfl) (by kernel_rfl)
end i_frame_Open_7_0bb
/-! ### function 12, wayfinder/frame.Open -/
namespace f_frame_Open
noncomputable def c0 : Code := (Go.Proofs.Tryd.f12.body).getD .skip
abbrev ps : Sg := [(false, (.slice (.int .u8)))]
abbrev rs : Sg := [(true, T4414), (false, (.int .i64))]
noncomputable def V : Env := { tt := tt, Γ := slk [(40, f_msg_Get.S)] }
theorem V_ok : EnvOk P V := { ck := tt_ck, fits := slk_cons f_msg_Get.fits (slk_nil), mixed := mixed }
abbrev R := Tup rs
noncomputable abbrev Q (r : R) : Exit → St → Prop := Qr tt Go.Proofs.Tryd.f12.results ⟨ps, rs, .any, none, fun _ _ => True⟩ r
noncomputable def f (k : Nat) (a1 : List Int) : Option R :=
  (i_frame_Open_2_2b5.f k a1 (0, (0, (0, (0, ((0, 0), (0, (0, (0, 0)))))))) (0 : Int)).bind fun y1 =>
    if (y1.1 != (0 : Int)) = true then
      some ((0, (0, (0, (0, ((0, 0), (0, (0, (0, 0)))))))), (y1.1, ()))
    else
      (i_frame_Open_3_96f.f k a1 (0, (0, (0, (0, ((0, 0), (0, (0, (0, 0)))))))) (0 : Int)).bind fun y4 =>
        if (y4.1 != (0 : Int)) = true then
          some ((0, (0, (0, (0, ((0, 0), (0, (0, (0, 0)))))))), (y4.1, ()))
        else
          (i_frame_Open_4_316.f k a1 (0, (0, (0, (0, ((0, 0), (0, (0, (0, 0)))))))) y4.2.1).bind fun y7 =>
            if (y7.1 != (0 : Int)) = true then
              some ((0, (0, (0, (0, ((0, 0), (0, (0, (0, 0)))))))), (y7.1, ()))
            else
              (i_frame_Open_5_316.f k a1 (0, (0, (0, (0, ((0, 0), (0, (0, (0, 0)))))))) y4.2.1).bind fun y10 =>
                if (y10.1 != (0 : Int)) = true then
                  some ((0, (0, (0, (0, ((0, 0), (0, (0, (0, 0)))))))), (y10.1, ()))
                else
                  (i_frame_Open_6_2b5.f k a1 (0, (0, (0, (0, ((0, 0), (0, (0, (0, 0)))))))) y4.2.1).bind fun y13 =>
                    if (y13.1 != (0 : Int)) = true then
                      some ((0, (0, (0, (0, ((0, 0), (0, (0, (0, 0)))))))), (y13.1, ()))
                    else
                      (i_frame_Open_7_0bb.f k a1 (0, (0, (0, (0, ((0, 0), (0, (0, (0, 0)))))))) y4.2.1).bind fun y16 =>
                        if (y16.1 != (0 : Int)) = true then
                          some ((0, (0, (0, (0, ((0, 0), (0, (0, (0, 0)))))))), (y16.1, ()))
                        else
                          if 0 ≤ (2 : Int) ∧ (2 : Int) ≤ (IntKind.i64.wrap (2 + y4.2.1)) ∧ (IntKind.i64.wrap (2 + y4.2.1)) ≤ (a1.length : Int) then
                            (f_msg_Get.f k ((a1.take (IntKind.i64.wrap (2 + y4.2.1)).toNat).drop (2 : Int).toNat)).bind fun y19 =>
                              some (y19.1, (y19.2.1, ()))
                          else none
noncomputable def S : Spec := ⟨ps, rs, .any, none, fun x r => ∃ k, f k x.1 = some r⟩
theorem rl {k a1 r} (e : f k a1 = some r) : S.rel (a1, ()) r := ⟨k, e⟩
theorem f_ok {r k a1} (H : f k a1 = some r) : Gw P 0 (Q r) (Px c0 1 []) (⟨35, [(0, .cv (.one (.sl (.int .u8) a1 .any)))], []⟩) := by
  unfold f at H
  refine Rg V_ok 2 [(0, hb 0), (1, hb 1)] az ?_
  refine Rg V_ok 1 [(0, hb 2)] az ?_
  refine Rg V_ok 1 [(1, hb 3)] az ?_
  refine Rg V_ok 1 [(6, hb 4)] az ?_
  refine GT (tl [1, 2, 4, 15, 16, 17] [0, 1, 2, 4, 3]) (LP 31 (UN ?_))
  refine Rg V_ok 0 [] az ?_
  refine C1 rfl ?_
  refine Rg V_ok 0 [] (ac (show 0 ≤ (0 : Int) by decide) (ac (show (0 : Int) < (6 : Int) by decide) az)) ?_
  refine GT (tn [1, 2, 4, 7, 15, 16, 17] 5) (RI ?_)
  refine EV V_ok 0 [] 1 az ?_
  obtain ⟨y1, e2, H⟩ := of_bind H
  refine CL V_ok i_frame_Open_2_2b5.at_ (i_frame_Open_2_2b5.ok e2) ?_
  refine EV V_ok 0 [] 1 az ?_
  refine RN ?_
  refine Rg V_ok 0 [] az ?_
  rcases of_ite H with ⟨hb3, H⟩ | ⟨hb3, H⟩
  · refine C1 hb3 ?_
    refine Rg V_ok 0 [] az ?_
    exact Lf (Eq.trans (by kernel_rfl) H)
  · refine C0 hb3 ?_
    refine Rg V_ok 0 [] az ?_
    refine GT (tn [1, 2, 4, 15, 16, 17] 5) (UN ?_)
    refine Rg V_ok 0 [] az ?_
    refine C1 rfl ?_
    refine Rg V_ok 0 [] (ac (show 0 ≤ (1 : Int) by decide) (ac (show (1 : Int) < (6 : Int) by decide) az)) ?_
    refine GT (tn [1, 2, 4, 7, 15, 16, 17] 5) (RI ?_)
    refine EV V_ok 0 [] 1 az ?_
    obtain ⟨y4, e5, H⟩ := of_bind H
    refine CL V_ok i_frame_Open_3_96f.at_ (i_frame_Open_3_96f.ok e5) ?_
    refine EV V_ok 0 [] 1 az ?_
    refine RN ?_
    refine Rg V_ok 0 [] az ?_
    rcases of_ite H with ⟨hb6, H⟩ | ⟨hb6, H⟩
    · refine C1 hb6 ?_
      refine Rg V_ok 0 [] az ?_
      exact Lf (Eq.trans (by kernel_rfl) H)
    · refine C0 hb6 ?_
      refine Rg V_ok 0 [] az ?_
      refine GT (tn [1, 2, 4, 15, 16, 17] 5) (UN ?_)
      refine Rg V_ok 0 [] az ?_
      refine C1 rfl ?_
      refine Rg V_ok 0 [] (ac (show 0 ≤ (2 : Int) by decide) (ac (show (2 : Int) < (6 : Int) by decide) az)) ?_
      refine GT (tl [1, 2, 4, 7, 15, 16, 17] [0, 1, 2, 4, 3]) (RI ?_)
      refine EV V_ok 0 [] 1 az ?_
      obtain ⟨y7, e8, H⟩ := of_bind H
      refine CL V_ok i_frame_Open_4_316.at_ (i_frame_Open_4_316.ok e8) ?_
      refine EV V_ok 0 [] 1 az ?_
      refine RN ?_
      refine Rg V_ok 0 [] az ?_
      rcases of_ite H with ⟨hb9, H⟩ | ⟨hb9, H⟩
      · refine C1 hb9 ?_
        refine Rg V_ok 0 [] az ?_
        exact Lf (Eq.trans (by kernel_rfl) H)
      · refine C0 hb9 ?_
        refine Rg V_ok 0 [] az ?_
        refine GT (tl [1, 2, 4, 15, 16, 17] [0, 1, 2, 4, 3]) (UN ?_)
        refine Rg V_ok 0 [] az ?_
        refine C1 rfl ?_
        refine Rg V_ok 0 [] (ac (show 0 ≤ (3 : Int) by decide) (ac (show (3 : Int) < (6 : Int) by decide) az)) ?_
        refine GT (tl [1, 2, 4, 7, 15, 16, 17] [0, 1, 2, 4, 3]) (RI ?_)
        refine EV V_ok 0 [] 1 az ?_
        obtain ⟨y10, e11, H⟩ := of_bind H
        refine CL V_ok i_frame_Open_5_316.at_ (i_frame_Open_5_316.ok e11) ?_
        refine EV V_ok 0 [] 1 az ?_
        refine RN ?_
        refine Rg V_ok 0 [] az ?_
        rcases of_ite H with ⟨hb12, H⟩ | ⟨hb12, H⟩
        · refine C1 hb12 ?_
          refine Rg V_ok 0 [] az ?_
          exact Lf (Eq.trans (by kernel_rfl) H)
        · refine C0 hb12 ?_
          refine Rg V_ok 0 [] az ?_
          refine GT (tl [1, 2, 4, 15, 16, 17] [0, 1, 2, 4, 3]) (UN ?_)
          refine Rg V_ok 0 [] az ?_
          refine C1 rfl ?_
          refine Rg V_ok 0 [] (ac (show 0 ≤ (4 : Int) by decide) (ac (show (4 : Int) < (6 : Int) by decide) az)) ?_
          refine GT (tn [1, 2, 4, 7, 15, 16, 17] 5) (RI ?_)
          refine EV V_ok 0 [] 1 az ?_
          obtain ⟨y13, e14, H⟩ := of_bind H
          refine CL V_ok i_frame_Open_6_2b5.at_ (i_frame_Open_6_2b5.ok e14) ?_
          refine EV V_ok 0 [] 1 az ?_
          refine RN ?_
          refine Rg V_ok 0 [] az ?_
          rcases of_ite H with ⟨hb15, H⟩ | ⟨hb15, H⟩
          · refine C1 hb15 ?_
            refine Rg V_ok 0 [] az ?_
            exact Lf (Eq.trans (by kernel_rfl) H)
          · refine C0 hb15 ?_
            refine Rg V_ok 0 [] az ?_
            refine GT (tn [1, 2, 4, 15, 16, 17] 5) (UN ?_)
            refine Rg V_ok 0 [] az ?_
            refine C1 rfl ?_
            refine Rg V_ok 0 [] (ac (show 0 ≤ (5 : Int) by decide) (ac (show (5 : Int) < (6 : Int) by decide) az)) ?_
            refine GT (tn [1, 2, 4, 7, 15, 16, 17] 5) (RI ?_)
            refine EV V_ok 0 [] 1 az ?_
            obtain ⟨y16, e17, H⟩ := of_bind H
            refine CL V_ok i_frame_Open_7_0bb.at_ (i_frame_Open_7_0bb.ok e17) ?_
            refine EV V_ok 0 [] 1 az ?_
            refine RN ?_
            refine Rg V_ok 0 [] az ?_
            rcases of_ite H with ⟨hb18, H⟩ | ⟨hb18, H⟩
            · refine C1 hb18 ?_
              refine Rg V_ok 0 [] az ?_
              exact Lf (Eq.trans (by kernel_rfl) H)
            · refine C0 hb18 ?_
              refine Rg V_ok 0 [] az ?_
              refine GT (tn [1, 2, 4, 15, 16, 17] 5) (UN ?_)
              refine Rg V_ok 0 [] az ?_
              refine C0 rfl ?_
              obtain ⟨n20, H⟩ := of_if H
              obtain ⟨y19, e21, H⟩ := of_bind H
              refine Rg V_ok 0 [(4, hr f_msg_Get.S y19)] (ac n20 (ac (f_msg_Get.rl e21) az)) ?_
              exact Lf (Eq.trans (by kernel_rfl) H)
theorem fits : Fits P 12 S := fits_of V_ok Go.Proofs.Tryd.func12 (by kernel_rfl) (by decide) (by decide) rfl (fun x r ⟨k, H⟩ => of_G (f_ok H))
end f_frame_Open
/-! ### function 23, wayfinder/rule.Alike -/
namespace f_rule_Alike
noncomputable def c0 : Code := (Go.Proofs.Tryd.f23.body).getD .skip
abbrev ps : Sg := [(true, T1383), (true, T1383)]
abbrev rs : Sg := [(false, .bool)]
noncomputable def V : Env := { tt := tt, Γ := slk [] }
theorem V_ok : EnvOk P V := { ck := tt_ck, fits := slk_nil, mixed := mixed }
abbrev R := Tup rs
noncomputable abbrev Q (r : R) : Exit → St → Prop := Qr tt Go.Proofs.Tryd.f23.results ⟨ps, rs, .any, none, fun _ _ => True⟩ r
noncomputable def f (k : Nat) (a1 a2 : T1383.T) : Option R :=
  some (((a1.1.1 == a2.1.1) && ((a1.1.2 == a2.1.2) && ((a1.2.1 == a2.2.1) && ((a1.2.2.1 == a2.2.2.1) && (((0 : Int) == (0 : Int)) && (((0 : Int) == (0 : Int)) && true)))))), ())
noncomputable def S : Spec := ⟨ps, rs, .any, none, fun x r => ∃ k, f k x.1 x.2.1 = some r⟩
theorem rl {k a1 a2 r} (e : f k a1 a2 = some r) : S.rel (a1, a2, ()) r := ⟨k, e⟩
theorem f_ok {r k a1 a2} (H : f k a1 a2 = some r) : Gw P 0 (Q r) (Px c0 1 []) (⟨12, [(0, .cv (.agg (encC .any T1383 a1))), (1, .cv (.agg (encC .any T1383 a2)))], []⟩) := by
  unfold f at H
  refine Rg V_ok 2 [(0, hb 0), (1, hb 1)] az ?_
  refine Rg V_ok 0 [] az ?_
  refine Rg V_ok 0 [] az ?_
  exact Lf (Eq.trans (by kernel_rfl) H)
theorem fits : Fits P 23 S := fits_of V_ok Go.Proofs.Tryd.func23 (by kernel_rfl) (by decide) (by decide) rfl (fun x r ⟨k, H⟩ => of_G (f_ok H))
end f_rule_Alike
/-! ### function 47, wayfinder/table.Size -/
namespace f_table_Size
noncomputable def c0 : Code := (Go.Proofs.Tryd.f47.body).getD .skip
abbrev ps : Sg := [(false, (.slice T814c))]
abbrev rs : Sg := [(false, (.int .i64))]
noncomputable def V : Env := { tt := tt, Γ := slk [] }
theorem V_ok : EnvOk P V := { ck := tt_ck, fits := slk_nil, mixed := mixed }
abbrev R := Tup rs
noncomputable abbrev Q (r : R) : Exit → St → Prop := Qr tt Go.Proofs.Tryd.f47.results ⟨ps, rs, .any, none, fun _ _ => True⟩ r
noncomputable def s1 (p1 : Int) (p2 : List T814c.T) (p3 p4 : Int) : St := ⟨19, [(3, .cv (.one (.i p1))), (6, .cv (.one (.sl T814c p2 .any))), (7, .cv (.one (.i p3))), (8, .cv (.one (.i p4)))], []⟩
noncomputable def b1 (L1 : Int → List T814c.T → Int → Int → Option R) (k : Nat) (p1 : Int) (p2 : List T814c.T) (p3 p4 : Int) : Option R :=
  if (decide (p4 < p3)) = true then
  if 0 ≤ p4 then
    if p4 < (p2.length : Int) then
      L1 (IntKind.i64.wrap (p1 + (((att T814c p2 p4).2).length : Int))) p2 p3 (IntKind.i64.wrap (p4 + 1))
    else none
  else none
else
  some (p1, ())
theorem b1_ok {r} {L1 : Int → List T814c.T → Int → Int → Option R} {m1 : Nat} (hL1 : ∀ p1 p2 p3 p4, L1 p1 p2 p3 p4 = some r → Gw P 0 (Q r) (Pb c0 43 [] m1) (s1 p1 p2 p3 p4)) {k p1 p2 p3 p4} (H : b1 L1 k p1 p2 p3 p4 = some r) : Gw P 0 (Q r) (Px c0 75 [m1]) (s1 p1 p2 p3 p4) := by
  unfold b1 at H
  refine Rg V_ok 0 [] az ?_
  rcases of_ite H with ⟨hb1, H⟩ | ⟨hb1, H⟩
  · refine C1 hb1 ?_
    obtain ⟨n2, H⟩ := of_if H
    obtain ⟨n3, H⟩ := of_if H
    refine Rg V_ok 1 [(2, hb 0)] (ac n2 (ac n3 az)) ?_
    refine Rg V_ok 0 [] az ?_
    refine Rg V_ok 0 [] az ?_
    exact Jm (tn [3, 6, 7, 8] 0) (hL1 (IntKind.i64.wrap (p1 + (((att T814c p2 p4).2).length : Int))) p2 p3 (IntKind.i64.wrap (p4 + 1)) H)
  · refine C0 hb1 ?_
    refine Rg V_ok 0 [] az ?_
    exact Lf (Eq.trans (by kernel_rfl) H)
noncomputable def l1 (k : Nat) : Nat → Int → List T814c.T → Int → Int → Option R
  | 0, _, _, _, _ => none
  | m + 1, p1, p2, p3, p4 => b1 (l1 k m) k p1 p2 p3 p4
theorem l1_ok {r} (k : Nat) : ∀ (m1 : Nat) (p1 : Int) (p2 : List T814c.T) (p3 : Int) (p4 : Int), l1 k m1 p1 p2 p3 p4 = some r → Gw P 0 (Q r) (Pb c0 43 [] m1) (s1 p1 p2 p3 p4)
  | 0, _, _, _, _, H => by cases H
  | m1 + 1, p1, p2, p3, p4, H => SU (by kernel_rfl) (b1_ok (l1_ok k m1) H)
noncomputable def f (k : Nat) (a1 : List T814c.T) : Option R :=
  l1 k k 0 a1 (a1.length : Int) 0
noncomputable def S : Spec := ⟨ps, rs, .any, none, fun x r => ∃ k, f k x.1 = some r⟩
theorem rl {k a1 r} (e : f k a1 = some r) : S.rel (a1, ()) r := ⟨k, e⟩
theorem f_ok {r k a1} (H : f k a1 = some r) : Gw P 0 (Q r) (Px c0 1 []) (⟨19, [(0, .cv (.one (.sl T814c a1 .any)))], []⟩) := by
  unfold f at H
  refine Rg V_ok 0 [] az ?_
  refine Rg V_ok 0 [] az ?_
  refine Rg V_ok 0 [] az ?_
  exact LP k (Jm (tn [3, 6, 7, 8] 0) (l1_ok k k 0 a1 (a1.length : Int) 0 H))
theorem fits : Fits P 47 S := fits_of V_ok Go.Proofs.Tryd.func47 (by kernel_rfl) (by decide) (by decide) rfl (fun x r ⟨k, H⟩ => of_G (f_ok H))
end f_table_Size
/-! ### slices.Insert of one thing: function 50 -/
section
open Go.Shelf Go.Lib
theorem N50.info : (Go.Proofs.Tryd.prog.info? 61).map (fun i => (i.zero, i.size, i.bytes)) = some (some (.agg #[.int .i64 0, .slice none 0 0]), 2, 32) := by kernel_rfl
set_option maxHeartbeats 4000000 in
set_option maxRecDepth 1000000 in
theorem N50.shift (b n c i vb vc : Nat) (cs vs : List Value) (w : World) (hi : i < n) (hroom : n + 1 ≤ c) (hc63 : c ≤ 9223372036854775807) (hvb : vb ≠ b)
    (hcl : cs.length = n * 2) (hvl : vs.length = 2)
    (hcs : ∀ j v, cs[j]? = some v → w.cell? ⟨b, j, none⟩ = some v) (hsp : ∀ j, j < (n + 1) * 2 → (w.cell? ⟨b, j, none⟩).isSome = true) (hfz : ∀ j, w.frozen? ⟨b, j, none⟩ = false)
    (hvs : ∀ j v, vs[j]? = some v → w.cell? ⟨vb, j, none⟩ = some v) (h1c : ∀ v ∈ cs, v.oneCell' = true) (h1v : ∀ v ∈ vs, v.oneCell' = true)
    (tA tB : TypeId) (kA kB : Nat) (hsa : w.shape? vb = some (tA, kA)) (hsb : w.shape? b = some (tB, kB)) (hkB : kB ≠ 0) (hfa : w.frozen? ⟨vb, 0, none⟩ = false) (hfe : w.frozen? ⟨vb, kA, none⟩ = false) :
    Calls Go.Proofs.Tryd.prog 50 #[.slice (some ⟨b, 0, none⟩) n c, .int .i64 i, .slice (some ⟨vb, 0, none⟩) 1 vc] w fun e w' =>
      e = .returned (.slice (some ⟨b, 0, none⟩) (n + 1) c) ∧ w' = (w.drew.setCells b ((i + 1) * 2) (cs.drop (i * 2))).setCells b (i * 2) vs := by
  have hz2 : ¬ ((i : Int) = (n : Int)) := by omega
  have hsz : (Go.Proofs.Tryd.prog.info? 61).map (·.size) = some 2 := by
    obtain ⟨i0, hi0, h0, h1, h2⟩ := info_parts N50.info
    rw [hi0]; simp [h1]
  have hso : ∀ w, (Go.sizeOf 61).run Go.Proofs.Tryd.prog w = .ok 2 w := fun w => by
    obtain ⟨i0, hi0, h0, h1, h2⟩ := info_parts N50.info
    simp [sizeOf, typeInfo, hi0, h1]
  have hov : ∀ lb cb, (callFunc 70 #[.slice (some ⟨vb, 0, none⟩) 1 vc, .slice (some ⟨b, (i + 1) * 2, none⟩) lb cb]).run Go.Proofs.Tryd.prog w = .ok (.value (.bool false)) w := fun lb cb => by
    rw [run_callFunc_extern Go.Proofs.Tryd.func70 (by kernel_rfl) (by kernel_rfl) (by kernel_rfl) (e := Extern.SlicesOverlaps.overlaps #[22, 22] #[4]) (by kernel_rfl),
      Lib.run_overlaps_apart w 22 4 61 Go.Proofs.Tryd.underlying22 2 hso ⟨vb, 0, none⟩ ⟨b, (i + 1) * 2, none⟩ 1 vc lb cb hvb tA tB kA kB hsa hsb hkB hfa hfe]
    rfl
  have hdl : (cs.drop (i * 2)).length = (n - i) * 2 := by rw [List.length_drop, hcl]; omega
  have hw1 : IntKind.i64.wrap ((i : Int) + 1) = (i : Int) + 1 := by rw [IntKind.wrap_i64]; omega
  have hw2 : IntKind.i64.wrap ((n : Int) + 1) = (n : Int) + 1 := by rw [IntKind.wrap_i64]; omega
  have hb1 : (0 : Int) ≤ (i : Int) + 1 := by omega
  have hin : i ≤ n := by omega
  have htn : ((i : Int) + 1).toNat = i + 1 := by omega
  have htm : ((n : Int) + 1).toNat = n + 1 := by omega
  have hb2 : ¬ (c = i + 1) := by omega
  have hb3 : (i : Int) ≤ (n : Int) + 1 := by omega
  have hb4 : ¬ (c = i) := by omega
  have hb5 : (0 : Int) ≤ (n : Int) + 1 := by omega
  have hb6 : (n : Int) + 1 ≤ (c : Int) := by omega
  have hb7 : (i : Int) + 1 ≤ (n : Int) + 1 := by omega
  have hcp1 : ∀ ty dc sc, (Builtin.copy_ #[22, 22] ty #[.slice (some ⟨b, (i + 1) * 2, none⟩) (n - i) dc, .slice (some ⟨b, i * 2, none⟩) (n + 1 - i) sc]).run Go.Proofs.Tryd.prog w.drew = .ok (goInt (Nat.min (n + 1 - i) (n - i))) (w.drew.setCells b ((i + 1) * 2) (cs.drop (i * 2))) := fun ty dc sc =>
    run_copy_sz w.drew _ ty 61 b ((i + 1) * 2) (n - i) dc ⟨b, i * 2, none⟩ (n + 1 - i) sc 2 (cs.drop (i * 2)) Go.Proofs.Tryd.underlying22 hsz (by rw [hdl]; congr 1; simp only [Nat.min_def]; split <;> omega)
      (fun j v hj => by rw [Addr.add_lit]; exact hcs (i * 2 + j) v (by rwa [List.getElem?_drop] at hj))
      (fun j hj => hsp _ (by omega)) (fun j hj => hfz _) (fun v hv => h1c v (List.mem_of_mem_drop hv))
  obtain ⟨W1, hW1⟩ : ∃ W1, W1 = w.drew.setCells b ((i + 1) * 2) (cs.drop (i * 2)) := ⟨_, rfl⟩
  have hsp1 : ∀ k, k < (n + 1) * 2 → (W1.cell? ⟨b, k, none⟩).isSome = true := fun k hk => by
    rw [hW1]
    exact isSome_setCells b (cs.drop (i * 2)) ((i + 1) * 2) w.drew (fun j hj => hsp _ (by rw [hdl] at hj; omega)) k (hsp k hk)
  have hcp2 : ∀ (W : World), (∀ x, W.cell? x = W1.cell? x) → (∀ x, W.frozen? x = W1.frozen? x) → ∀ ty dc, (Builtin.copy_ #[22, 22] ty #[.slice (some ⟨b, i * 2, none⟩) (n + 1 - i) dc, .slice (some ⟨vb, 0, none⟩) 1 vc]).run Go.Proofs.Tryd.prog W = .ok (goInt (Nat.min 1 (n + 1 - i))) (W.setCells b (i * 2) vs) := fun W hWc hWf ty dc =>
    run_copy_sz W _ ty 61 b (i * 2) (n + 1 - i) dc ⟨vb, 0, none⟩ 1 vc 2 vs Go.Proofs.Tryd.underlying22 hsz (by rw [hvl]; simp only [Nat.min_def]; split <;> omega)
      (fun j v hj => by
        rw [Addr.add_lit, hWc, hW1, World.cell?_setCells_out b _ _ _ _ (fun h _ => absurd h hvb), Nat.zero_add]
        exact hvs j v hj)
      (fun j hj => by rw [hWc]; exact hsp1 _ (by omega)) (fun j hj => by rw [hWf, hW1, World.frozen?_setCells]; exact hfz _) h1v
  rw [← hW1] at hcp1
  have mixed : Go.Proofs.Tryd.prog.follows .mixedOrders = true := by kernel_rfl
  clear hso
  go_enter Go.Proofs.Tryd.func50, Go.Proofs.Tryd.ntmps50
  go_wp2_with (simp only [hov])
  go_region_law_o (refine step_copy_runI rfl _ _ 22 22 rfl _ _ (by simp [Act.eval, Act.put]) (by simp [Act.eval, Act.put]) (hcp1 _ _ _) ?_)
  go_wp2_with (at_builtin; refine wpList_copy_runI _ rfl _ _ 22 22 rfl _ _ rfl rfl (hcp2 _ (fun _ => rfl) (fun _ => rfl) _ _) ?_)
  go_ret
  first | exact ⟨rfl, rfl⟩ | exact ⟨rfl, by rw [hW1]⟩
set_option maxHeartbeats 4000000 in
set_option maxRecDepth 1000000 in
theorem N50.atEnd (base : Option Addr) (n c vb vc : Nat) (w w1 : World) (r : Value) (hnc : n ≤ c) (hr : ∀ ty, (Builtin.append_ #[22, 22] ty #[.slice base n c, .slice (some ⟨vb, 0, none⟩) 1 vc]).run Go.Proofs.Tryd.prog w = .ok r w1) :
    Calls Go.Proofs.Tryd.prog 50 #[.slice base n c, .int .i64 n, .slice (some ⟨vb, 0, none⟩) 1 vc] w fun e w' => e = .returned r ∧ w' = w1 := by
  have mixed : Go.Proofs.Tryd.prog.follows .mixedOrders = true := by kernel_rfl
  go_enter Go.Proofs.Tryd.func50, Go.Proofs.Tryd.ntmps50
  cases base with
  | none =>
    go_wp2_with (at_builtin; refine Lib.wpList_append_run _ rfl _ _ _ _ rfl _ _ rfl rfl _ _ (hr _) ?_)
    all_goals (go_ret; exact ⟨rfl, rfl⟩)
  | some a =>
    obtain ⟨ab, ao, asp⟩ := a
    go_wp2_with (at_builtin; refine Lib.wpList_append_run _ rfl _ _ _ _ rfl _ _ rfl rfl _ _ (hr _) ?_)
    all_goals (go_ret; exact ⟨rfl, rfl⟩)
set_option maxHeartbeats 4000000 in
set_option maxRecDepth 1000000 in
theorem N50.grow (b n c i vb vc : Nat) (cs vs : List Value) (w : World) (hi : i < n) (hnc : n ≤ c) (hroom : c < n + 1) (hbig : (n + 1) * 32 ≤ 140737488355328)
    (hcl : cs.length = n * 2) (hvl : vs.length = 2)
    (hcs : ∀ j v, cs[j]? = some v → w.cell? ⟨b, j, none⟩ = some v)
    (hvs : ∀ j v, vs[j]? = some v → w.cell? ⟨vb, j, none⟩ = some v) (h1c : ∀ v ∈ cs, v.oneCell' = true) (h1v : ∀ v ∈ vs, v.oneCell' = true) :
    Calls Go.Proofs.Tryd.prog 50 #[.slice (some ⟨b, 0, none⟩) n c, .int .i64 i, .slice (some ⟨vb, 0, none⟩) 1 vc] w fun e w' =>
      e = .returned (.slice (some ⟨w.heap.size, 0, none⟩) (n + 1) (grownCap w (n + 1) c 61)) ∧
      w' = (((w.alloc (.cells ((cs.take (i * 2)).toArray ++ Builtin.zeroCells (Value.cells (.agg #[.int .i64 0, .slice none 0 0])) (n + 1 - i) ++ Builtin.zeroCells (Value.cells (.agg #[.int .i64 0, .slice none 0 0])) (grownCap w (n + 1) c 61 - (n + 1))) 61)).drew.setCells w.heap.size (i * 2) vs).drew).setCells w.heap.size ((i + 1) * 2) (cs.drop (i * 2)) := by
  have mixed : Go.Proofs.Tryd.prog.follows .mixedOrders = true := by kernel_rfl
  obtain ⟨i0, hi0, hz0, hzs, hzb⟩ := info_parts N50.info
  have hz2 : ¬ ((i : Int) = (n : Int)) := by omega
  have hz3 : (c : Int) < (n : Int) + 1 := by omega
  have hsz : (Go.Proofs.Tryd.prog.info? 61).map (·.size) = some 2 := by rw [hi0]; simp [hzs]
  have hbw : b < w.heap.size := block_lt_of_cell (hcs 0 _ (List.getElem?_eq_getElem (by omega)))
  have hvw : vb < w.heap.size := block_lt_of_cell (hvs 0 _ (List.getElem?_eq_getElem (by omega)))
  have hkk : (n : Int) + 1 - (i : Int) = ((n + 1 - i : Nat) : Int) := by omega
  have hik : i + (n + 1 - i) = n + 1 := by omega
  have hold : (Builtin.firstCells i0.size i (.slice (some ⟨b, 0, none⟩) i c)).run Go.Proofs.Tryd.prog w.drew = .ok (cs.take (i * 2)).toArray w.drew := by
    rw [hzs]
    exact run_firstCells_some w.drew 2 i ⟨b, 0, none⟩ i c (cs.take (i * 2)) (by rw [List.length_take]; omega) (fun j v hj => by
      rw [Addr.add_lit]
      rw [List.getElem?_take] at hj
      split at hj
      · rw [Nat.zero_add]; exact hcs j v hj
      · cases hj)
  have hrz : ∀ ty, (Builtin.append_ #[22, 3] ty #[.slice (some ⟨b, 0, none⟩) i c, .int .i64 ((n : Int) + 1 - (i : Int))]).run Go.Proofs.Tryd.prog w =
      .ok (.slice (some ⟨w.heap.size, 0, none⟩) (n + 1) (grownCap w (n + 1) c 61)) (w.drew.alloc (.cells ((cs.take (i * 2)).toArray ++ Builtin.zeroCells (Value.cells (.agg #[.int .i64 0, .slice none 0 0])) (n + 1 - i) ++ Builtin.zeroCells (Value.cells (.agg #[.int .i64 0, .slice none 0 0])) (grownCap w (n + 1) c 61 - (n + 1))) 61)) := fun ty => by
    have h := Lib.run_append_grow_zeros (P := Go.Proofs.Tryd.prog) w 22 3 ty 61 i0 _ .i64 .i64 Go.Proofs.Tryd.underlying22 Go.Proofs.Tryd.underlying3 hi0 hz0 (some ⟨b, 0, none⟩) i c (cs.take (i * 2)) hold (n + 1 - i) (by omega) (by omega) (by omega) (by omega) (by rw [hzb]; omega) (by rw [hzb, hik]; exact growslice_fits hroom hbig)
    rw [hik] at h
    rw [hkk]
    exact h
  obtain ⟨G, hG⟩ : ∃ G, G = grownCap w (n + 1) c 61 := ⟨_, rfl⟩
  obtain ⟨ROW, hROW⟩ : ∃ ROW : Array Value, ROW = (cs.take (i * 2)).toArray ++ Builtin.zeroCells (Value.cells (.agg #[.int .i64 0, .slice none 0 0])) (n + 1 - i) ++ Builtin.zeroCells (Value.cells (.agg #[.int .i64 0, .slice none 0 0])) (G - (n + 1)) := ⟨_, rfl⟩
  rw [← hG] at hrz ⊢
  rw [← hROW] at hrz ⊢
  have hRl : (n + 1) * 2 ≤ ROW.size := by
    rw [hROW]
    simp [Builtin.zeroCells, Value.cells]
    omega
  obtain ⟨W1, hW1⟩ : ∃ W1, W1 = w.drew.alloc (.cells ROW 61) := ⟨_, rfl⟩
  rw [← hW1] at hrz
  have hN : ∀ j, j < (n + 1) * 2 → (W1.cell? ⟨w.heap.size, j, none⟩).isSome = true := fun j hj => by
    rw [hW1, World.cell?_alloc_at (w := w.drew) ROW _ w.heap.size j rfl, Array.getElem?_eq_getElem (by omega)]; rfl
  have hNf : ∀ j, W1.frozen? ⟨w.heap.size, j, none⟩ = false := fun j => by rw [hW1]; exact World.frozen?_alloc_at (w := w.drew) ROW _ w.heap.size j rfl
  have hOb : ∀ j v, w.cell? ⟨b, j, none⟩ = some v → W1.cell? ⟨b, j, none⟩ = some v := fun j v h => by rw [hW1, World.cell?_alloc_past (w := w.drew) _ b j hbw]; exact h
  have hOv : ∀ j v, w.cell? ⟨vb, j, none⟩ = some v → W1.cell? ⟨vb, j, none⟩ = some v := fun j v h => by rw [hW1, World.cell?_alloc_past (w := w.drew) _ vb j hvw]; exact h
  have hdl : (cs.drop (i * 2)).length = (n - i) * 2 := by rw [List.length_drop, hcl]; omega
  have hcpA : ∀ (W : World), (∀ x, W.cell? x = W1.cell? x) → (∀ x, W.frozen? x = W1.frozen? x) → ∀ ty dc, (Builtin.copy_ #[22, 22] ty #[.slice (some ⟨w.heap.size, i * 2, none⟩) (n + 1 - i) dc, .slice (some ⟨vb, 0, none⟩) 1 vc]).run Go.Proofs.Tryd.prog W = .ok (goInt (Nat.min 1 (n + 1 - i))) (W.setCells w.heap.size (i * 2) vs) := fun W hWc hWf ty dc =>
    run_copy_sz W _ ty 61 w.heap.size (i * 2) (n + 1 - i) dc ⟨vb, 0, none⟩ 1 vc 2 vs Go.Proofs.Tryd.underlying22 hsz (by rw [hvl]; simp only [Nat.min_def]; split <;> omega)
      (fun j v hj => by rw [Addr.add_lit, hWc, Nat.zero_add]; exact hOv _ v (hvs j v hj))
      (fun j hj => by rw [hWc]; exact hN _ (by omega)) (fun j hj => by rw [hWf]; exact hNf _) h1v
  have hGn : n + 1 ≤ G := by rw [hG]; exact grownCap_ge w _ _ _
  have hG63 : G ≤ 9223372036854775807 := by
    have := grownCap_le_maxLen w (n + 1) c 61 (by unfold maxLen; omega)
    rw [← hG] at this
    unfold maxLen at this
    omega
  have hGi : ¬ (G = i) := by omega
  have hGim : ¬ (G = i + 1) := by omega
  have hci : ¬ (c = i) := by omega
  have hbN : b ≠ w.heap.size := by omega
  have hcpB : ∀ (W : World), (∀ x, W.cell? x = (W1.setCells w.heap.size (i * 2) vs).cell? x) → (∀ x, W.frozen? x = (W1.setCells w.heap.size (i * 2) vs).frozen? x) → ∀ ty dc sc, (Builtin.copy_ #[22, 22] ty #[.slice (some ⟨w.heap.size, (i + 1) * 2, none⟩) (n - i) dc, .slice (some ⟨b, i * 2, none⟩) (n - i) sc]).run Go.Proofs.Tryd.prog W = .ok (goInt (Nat.min (n - i) (n - i))) (W.setCells w.heap.size ((i + 1) * 2) (cs.drop (i * 2))) := fun W hWc hWf ty dc sc =>
    run_copy_sz W _ ty 61 w.heap.size ((i + 1) * 2) (n - i) dc ⟨b, i * 2, none⟩ (n - i) sc 2 (cs.drop (i * 2)) Go.Proofs.Tryd.underlying22 hsz (by rw [hdl]; congr 1; simp only [Nat.min_def]; split <;> omega)
      (fun j v hj => by
        rw [Addr.add_lit, hWc, World.cell?_setCells_out _ _ _ _ _ (fun h _ => absurd h hbN)]
        exact hOb _ v (hcs (i * 2 + j) v (by rwa [List.getElem?_drop] at hj)))
      (fun j hj => by rw [hWc]; exact isSome_setCells w.heap.size vs (i * 2) W1 (fun t ht => hN _ (by omega)) _ (hN _ (by omega)))
      (fun j hj => by rw [hWf, World.frozen?_setCells]; exact hNf _) (fun v hv => h1c v (List.mem_of_mem_drop hv))
  subst hW1
  have hE1 : ∀ x, ((w.alloc (.cells ROW 61)).drew).cell? x = (w.drew.alloc (.cells ROW 61)).cell? x := fun x => rfl
  have hE2 : ∀ x, ((w.alloc (.cells ROW 61)).drew).frozen? x = (w.drew.alloc (.cells ROW 61)).frozen? x := fun x => rfl
  have hF1 : ∀ x, (((w.alloc (.cells ROW 61)).drew.setCells w.heap.size (i * 2) vs).drew).cell? x = ((w.drew.alloc (.cells ROW 61)).setCells w.heap.size (i * 2) vs).cell? x := fun x => rfl
  have hF2 : ∀ x, (((w.alloc (.cells ROW 61)).drew.setCells w.heap.size (i * 2) vs).drew).frozen? x = ((w.drew.alloc (.cells ROW 61)).setCells w.heap.size (i * 2) vs).frozen? x := fun x => rfl
  have hw1 : IntKind.i64.wrap ((i : Int) + 1) = (i : Int) + 1 := by rw [IntKind.wrap_i64]; omega
  have hw2 : IntKind.i64.wrap ((n : Int) + 1) = (n : Int) + 1 := by rw [IntKind.wrap_i64]; omega
  have hw3 : IntKind.i64.wrap ((n : Int) + 1 - (i : Int)) = (n : Int) + 1 - (i : Int) := by rw [IntKind.wrap_i64]; omega
  have hb1 : (0 : Int) ≤ (i : Int) + 1 := by omega
  have hin : i ≤ n := by omega
  have hic : i ≤ c := by omega
  have htn : ((i : Int) + 1).toNat = i + 1 := by omega
  have hb3 : (i : Int) ≤ (n : Int) := by omega
  have hb4 : (i : Int) ≤ (n : Int) + 1 := by omega
  have hb5 : (i : Int) + 1 ≤ (n : Int) + 1 := by omega
  clear hkk hik hold hROW hG hRl
  go_enter Go.Proofs.Tryd.func50, Go.Proofs.Tryd.ntmps50
  go_wp2_with (first
    | (at_builtin; refine Lib.wpList_append_run _ rfl _ _ _ _ rfl _ _ rfl rfl _ _ (hrz _) ?_)
    | (at_builtin; refine wpList_copy_runI _ rfl _ _ 22 22 rfl _ _ rfl rfl (hcpA _ hE1 hE2 _ _) ?_)
    | (at_builtin; refine wpList_copy_runI _ rfl _ _ 22 22 rfl _ _ rfl rfl (hcpB _ (fun _ => rfl) (fun _ => rfl) _ _ _) ?_))
  go_region_law_o (refine step_copy_runI rfl _ _ 22 22 rfl (.slice (some ⟨w.heap.size, (i + 1) * 2, none⟩) (n - i) (G - (i + 1))) (.slice (some ⟨b, i * 2, none⟩) (n - i) (c - i)) (by simp [Act.eval, Act.put]) (by simp [Act.eval, Act.put]) (hcpB _ hF1 hF2 3 (G - (i + 1)) (c - i)) ?_)
  go_wp2
  go_ret
  exact ⟨rfl, rfl⟩
end
theorem N50.ok : InsOk Go.Proofs.Tryd.prog 50 61 2 32 := ins_of (enters_of Go.Proofs.Tryd.func50 (by kernel_rfl : Go.Proofs.Tryd.f50.body = some ((Go.Proofs.Tryd.f50.body).getD .skip)) (by decide)) Go.Proofs.Tryd.underlying22 N50.info rfl (by decide) (by decide)
  (fun b n c i vb vc cs vs w h1 h2 h3 h4 h5 h6 h7 h8 h9 h10 h11 h12 tA tB kA kB h13 h14 h15 h16 h17 => N50.shift b n c i vb vc cs vs w h1 h2 h3 h4 h5 h6 h7 h8 h9 h10 h11 h12 tA tB kA kB h13 h14 h15 h16 h17) N50.atEnd (fun b n c i vb vc cs vs w h1 h2 h3 h4 h5 h6 h7 h8 h9 h10 => N50.grow b n c i vb vc cs vs w h1 h2 h3 h4 h5 h6 h7 h8 h9 h10)

/-! ### function 46, wayfinder/table.Put$1, where it is called -/
namespace i_table_Put_1_a6e
noncomputable def c0 : Code := (Go.Proofs.Tryd.f46.body).getD .skip
noncomputable def V : Env := { tt := tt, Γ := slk [(23, f_rule_Alike.S)] }
theorem V_ok : EnvOk P V := { ck := tt_ck, fits := slk_cons f_rule_Alike.fits (slk_nil), mixed := mixed }
abbrev R := (Bool) × Unit
noncomputable def s0 (p1 : T1383.T) (p2 : List (Int × List T1383.T)) (p3 : Nat) (p4 : Int) (p5 : T1383.T) (p6 : List T1383.T) : St := ⟨7, [(0, .cv (.agg (encC .any T1383 p1))), (1, .cv (.one (.ptr 2 0)))], [(.lnk 61 (.int .i64) T1383 p2 3 p3, []), (.box 1, [.i p4]), (.box 6, (encC .any T1383 p5)), (.buf 30 T1383 p6, [])]⟩
noncomputable def out (p1 : T1383.T) (p2 : List (Int × List T1383.T)) (p3 : Nat) (p4 : Int) (p5 : T1383.T) (p6 : List T1383.T) (r : R) : St := ⟨7, [(3, .cv (.one (.bool r.1)))], [(.lnk 61 (.int .i64) T1383 p2 3 p3, []), (.box 1, [.i p4]), (.box 6, (encC .any T1383 p5)), (.buf 30 T1383 p6, [])]⟩
abbrev Q (p1 : T1383.T) (p2 : List (Int × List T1383.T)) (p3 : Nat) (p4 : Int) (p5 : T1383.T) (p6 : List T1383.T) (r : R) := CallQ 4 (out p1 p2 p3 p4 p5 p6 r)
noncomputable def f (k : Nat) (p1 : T1383.T) (p2 : List (Int × List T1383.T)) (p3 : Nat) (p4 : Int) (p5 : T1383.T) (p6 : List T1383.T) : Option R :=
  (f_rule_Alike.f k p1 p5).bind fun y1 =>
    some (y1.1, ())
theorem f_ok {r k p1 p2 p3 p4 p5 p6} (H : f k p1 p2 p3 p4 p5 p6 = some r) : Gw P 4 (Q p1 p2 p3 p4 p5 p6 r) (Px c0 1 []) (s0 p1 p2 p3 p4 p5 p6) := by
  unfold f at H
  refine Rg V_ok 1 [(0, hb 4)] az ?_
  obtain ⟨y1, e2, H⟩ := of_bind H
  refine Rg V_ok 0 [(2, hr f_rule_Alike.S y1)] (ac (f_rule_Alike.rl e2) az) ?_
  obtain rfl := Option.some.inj H
  exact Lq (tn [3] 4)
theorem ok {r k p1 p2 p3 p4 p5 p6} (H : f k p1 p2 p3 p4 p5 p6 = some r) : W P 4 c0 (s0 p1 p2 p3 p4 p5 p6) (CallQ 4 (out p1 p2 p3 p4 p5 p6 r)) := of_G (f_ok H)
theorem at_ : FnAt P 46 7 c0 Go.Proofs.Tryd.f46.results := fnAt Go.Proofs.Tryd.func46 (by kernel_rfl) (by decide) (by kernel_rfl) (by kernel_rfl)
end i_table_Put_1_a6e
/-! ### function 68, slices.IndexFunc[[]wayfinder/api.Rule,wayfinder/api.Rule], where it is called -/
namespace i_slices_IndexFunc_Rule_7cf
noncomputable def c0 : Code := (Go.Proofs.Tryd.f68.body).getD .skip
noncomputable def V : Env := { tt := tt, Γ := slk [] }
theorem V_ok : EnvOk P V := { ck := tt_ck, fits := slk_nil, mixed := mixed }
abbrev R := (Int) × (List (Int × List T1383.T)) × (Nat) × (Int) × (T1383.T) × (List T1383.T) × Unit
noncomputable def s0 (p1 : List (Int × List T1383.T)) (p2 : Nat) (p3 : Int) (p4 : T1383.T) (p5 : List T1383.T) : St := ⟨19, [(0, .cv (.one (.own 3))), (1, .cv (.one (.fn 46 [] [(2, 0)])))], [(.lnk 61 (.int .i64) T1383 p1 3 p2, []), (.box 1, [.i p3]), (.box 6, (encC .any T1383 p4)), (.buf 30 T1383 p5, [])]⟩
noncomputable def out (r : R) : St := ⟨19, [(4, .cv (.one (.i r.1)))], [(.lnk 61 (.int .i64) T1383 r.2.1 3 r.2.2.1, []), (.box 1, [.i r.2.2.2.1]), (.box 6, (encC .any T1383 r.2.2.2.2.1)), (.buf 30 T1383 r.2.2.2.2.2.1, [])]⟩
abbrev Q (r : R) := CallQ 4 (out r)
noncomputable def s1 (p1 p2 : Int) (p3 : List (Int × List T1383.T)) (p4 : Nat) (p5 : Int) (p6 : T1383.T) (p7 : List T1383.T) : St := ⟨19, [(0, .cv (.one (.own 3))), (1, .cv (.one (.fn 46 [] [(2, 0)]))), (7, .cv (.one (.i p1))), (8, .cv (.one (.i p2)))], [(.lnk 61 (.int .i64) T1383 p3 3 p4, []), (.box 1, [.i p5]), (.box 6, (encC .any T1383 p6)), (.buf 30 T1383 p7, [])]⟩
noncomputable def b1 (L1 : Int → Int → List (Int × List T1383.T) → Nat → Int → T1383.T → List T1383.T → Option R) (k : Nat) (p1 p2 : Int) (p3 : List (Int × List T1383.T)) (p4 : Nat) (p5 : Int) (p6 : T1383.T) (p7 : List T1383.T) : Option R :=
  if (decide (p2 < p1)) = true then
  if 0 ≤ p2 then
    if p2 < (p7.length : Int) then
      (i_table_Put_1_a6e.f k (att T1383 p7 p2) p3 p4 p5 p6 p7).bind fun y4 =>
        if y4.1 = true then
          some (p2, (p3, (p4, (p5, (p6, (p7, ()))))))
        else
          L1 p1 (IntKind.i64.wrap (p2 + 1)) p3 p4 p5 p6 p7
    else none
  else none
else
  some ((-1), (p3, (p4, (p5, (p6, (p7, ()))))))
theorem b1_ok {r} {L1 : Int → Int → List (Int × List T1383.T) → Nat → Int → T1383.T → List T1383.T → Option R} {m1 : Nat} (hL1 : ∀ p1 p2 p3 p4 p5 p6 p7, L1 p1 p2 p3 p4 p5 p6 p7 = some r → Gw P 4 (Q r) (Pb c0 21 [] m1) (s1 p1 p2 p3 p4 p5 p6 p7)) {k p1 p2 p3 p4 p5 p6 p7} (H : b1 L1 k p1 p2 p3 p4 p5 p6 p7 = some r) : Gw P 4 (Q r) (Px c0 37 [m1]) (s1 p1 p2 p3 p4 p5 p6 p7) := by
  unfold b1 at H
  refine Rg V_ok 0 [] az ?_
  rcases of_ite H with ⟨hb1, H⟩ | ⟨hb1, H⟩
  · refine C1 hb1 ?_
    refine Rg V_ok 0 [] az ?_
    refine GT (tn [0, 1, 5, 7, 8] 4) (RI ?_)
    obtain ⟨n2, H⟩ := of_if H
    obtain ⟨n3, H⟩ := of_if H
    refine EV V_ok 0 [] 5 (ac n2 (ac n3 az)) ?_
    obtain ⟨y4, e5, H⟩ := of_bind H
    refine CL V_ok i_table_Put_1_a6e.at_ (i_table_Put_1_a6e.ok e5) ?_
    refine RN ?_
    rcases of_ite H with ⟨hb6, H⟩ | ⟨hb6, H⟩
    · refine C1 hb6 ?_
      refine Rg V_ok 0 [] az ?_
      obtain rfl := Option.some.inj H
      exact Lq (tn [4] 4)
    · refine C0 hb6 ?_
      refine Rg V_ok 0 [] az ?_
      exact Jm (tn [0, 1, 7, 8] 4) (hL1 p1 (IntKind.i64.wrap (p2 + 1)) p3 p4 p5 p6 p7 H)
  · refine C0 hb1 ?_
    refine Rg V_ok 0 [] az ?_
    obtain rfl := Option.some.inj H
    exact Lq (tn [4] 4)
noncomputable def l1 (k : Nat) : Nat → Int → Int → List (Int × List T1383.T) → Nat → Int → T1383.T → List T1383.T → Option R
  | 0, _, _, _, _, _, _, _ => none
  | m + 1, p1, p2, p3, p4, p5, p6, p7 => b1 (l1 k m) k p1 p2 p3 p4 p5 p6 p7
theorem l1_ok {r} (k : Nat) : ∀ (m1 : Nat) (p1 p2 : Int) (p3 : List (Int × List T1383.T)) (p4 : Nat) (p5 : Int) (p6 : T1383.T) (p7 : List T1383.T), l1 k m1 p1 p2 p3 p4 p5 p6 p7 = some r → Gw P 4 (Q r) (Pb c0 21 [] m1) (s1 p1 p2 p3 p4 p5 p6 p7)
  | 0, _, _, _, _, _, _, _, H => by cases H
  | m1 + 1, p1, p2, p3, p4, p5, p6, p7, H => SU (by kernel_rfl) (b1_ok (l1_ok k m1) H)
noncomputable def f (k : Nat) (p1 : List (Int × List T1383.T)) (p2 : Nat) (p3 : Int) (p4 : T1383.T) (p5 : List T1383.T) : Option R :=
  l1 k k (p5.length : Int) 0 p1 p2 p3 p4 p5
theorem f_ok {r k p1 p2 p3 p4 p5} (H : f k p1 p2 p3 p4 p5 = some r) : Gw P 4 (Q r) (Px c0 1 []) (s0 p1 p2 p3 p4 p5) := by
  unfold f at H
  refine Rg V_ok 0 [] az ?_
  refine Rg V_ok 0 [] az ?_
  exact LP k (Jm (tn [0, 1, 7, 8] 4) (l1_ok k k (p5.length : Int) 0 p1 p2 p3 p4 p5 H))
theorem ok {r k p1 p2 p3 p4 p5} (H : f k p1 p2 p3 p4 p5 = some r) : W P 4 c0 (s0 p1 p2 p3 p4 p5) (CallQ 4 (out r)) := of_G (f_ok H)
theorem at_ : FnAt P 68 19 c0 Go.Proofs.Tryd.f68.results := fnAt Go.Proofs.Tryd.func68 (by kernel_rfl) (by decide) (by kernel_rfl) (by kernel_rfl)
end i_slices_IndexFunc_Rule_7cf
/-! ### function 45, wayfinder/table.first[wayfinder/api.Rule], where it is called -/
namespace i_table_first_Rule_7cf
noncomputable def c0 : Code := (Go.Proofs.Tryd.f45.body).getD .skip
noncomputable def V : Env := { tt := tt, Γ := slk [] }
theorem V_ok : EnvOk P V := { ck := tt_ck, fits := slk_nil, mixed := mixed }
abbrev R := (Int) × (List (Int × List T1383.T)) × (Nat) × (Int) × (T1383.T) × (List T1383.T) × Unit
noncomputable def s0 (p1 : List (Int × List T1383.T)) (p2 : Nat) (p3 : Int) (p4 : T1383.T) (p5 : List T1383.T) : St := ⟨14, [(0, .cv (.one (.own 3))), (1, .cv (.one (.fn 46 [] [(2, 0)])))], [(.lnk 61 (.int .i64) T1383 p1 3 p2, []), (.box 1, [.i p3]), (.box 6, (encC .any T1383 p4)), (.buf 30 T1383 p5, [])]⟩
noncomputable def out (r : R) : St := ⟨14, [(4, .cv (.one (.i r.1)))], [(.lnk 61 (.int .i64) T1383 r.2.1 3 r.2.2.1, []), (.box 1, [.i r.2.2.2.1]), (.box 6, (encC .any T1383 r.2.2.2.2.1)), (.buf 30 T1383 r.2.2.2.2.2.1, [])]⟩
abbrev Q (r : R) := CallQ 4 (out r)
noncomputable def f (k : Nat) (p1 : List (Int × List T1383.T)) (p2 : Nat) (p3 : Int) (p4 : T1383.T) (p5 : List T1383.T) : Option R :=
  (i_slices_IndexFunc_Rule_7cf.f k p1 p2 p3 p4 p5).bind fun y1 =>
    if (decide (y1.1 ≥ (0 : Int))) = true then
      some (y1.1, (y1.2.1, (y1.2.2.1, (y1.2.2.2.1, (y1.2.2.2.2.1, (y1.2.2.2.2.2.1, ()))))))
    else
      some ((y1.2.2.2.2.2.1.length : Int), (y1.2.1, (y1.2.2.1, (y1.2.2.2.1, (y1.2.2.2.2.1, (y1.2.2.2.2.2.1, ()))))))
theorem f_ok {r k p1 p2 p3 p4 p5} (H : f k p1 p2 p3 p4 p5 = some r) : Gw P 4 (Q r) (Px c0 1 []) (s0 p1 p2 p3 p4 p5) := by
  unfold f at H
  refine Rg V_ok 0 [] az ?_
  refine GT (tn [0, 1] 4) (RI ?_)
  refine EV V_ok 0 [] 2 az ?_
  obtain ⟨y1, e2, H⟩ := of_bind H
  refine CL V_ok i_slices_IndexFunc_Rule_7cf.at_ (i_slices_IndexFunc_Rule_7cf.ok e2) ?_
  refine EV V_ok 0 [] 1 az ?_
  refine RN ?_
  refine Rg V_ok 0 [] az ?_
  rcases of_ite H with ⟨hb3, H⟩ | ⟨hb3, H⟩
  · refine C1 hb3 ?_
    refine Rg V_ok 0 [] az ?_
    obtain rfl := Option.some.inj H
    exact Lq (tn [4] 4)
  · refine C0 hb3 ?_
    refine Rg V_ok 0 [] az ?_
    obtain rfl := Option.some.inj H
    exact Lq (tn [4] 4)
theorem ok {r k p1 p2 p3 p4 p5} (H : f k p1 p2 p3 p4 p5 = some r) : W P 4 c0 (s0 p1 p2 p3 p4 p5) (CallQ 4 (out r)) := of_G (f_ok H)
theorem at_ : FnAt P 45 14 c0 Go.Proofs.Tryd.f45.results := fnAt Go.Proofs.Tryd.func45 (by kernel_rfl) (by decide) (by kernel_rfl) (by kernel_rfl)
end i_table_first_Rule_7cf
/-! ### function 43, wayfinder/table.own, where it is called -/
namespace i_table_own_6f4
noncomputable def c0 : Code := (Go.Proofs.Tryd.f43.body).getD .skip
noncomputable def V : Env := { tt := tt, Γ := slk [(66, f_slices_Clone_Rule.S)] }
theorem V_ok : EnvOk P V := { ck := tt_ck, fits := slk_cons f_slices_Clone_Rule.fits (slk_nil), mixed := mixed }
abbrev R := (Int) × (T1383.T) × (List T814c.T) × Unit
noncomputable def s0 (p1 : List T814c.T) (p2 : Int) (p3 : T1383.T) : St := ⟨23, [(0, .cv (.one (.sl T814c p1 .any)))], [(.box 1, [.i p2]), (.box 6, (encC .any T1383 p3))]⟩
noncomputable def out (r : R) : St := ⟨23, [(2, .cv (.one (.own 2)))], [(.box 1, [.i r.1]), (.box 6, (encC .any T1383 r.2.1)), (.buf 61 T814c r.2.2.1, [])]⟩
abbrev Q (r : R) := CallQ 2 (out r)
noncomputable def s1 (p1 : List T814c.T) (p2 p3 p4 : Int) (p5 : T1383.T) (p6 : List T814c.T) : St := ⟨23, [(3, .cv (.one (.own 2))), (6, .cv (.one (.sl T814c p1 .any))), (7, .cv (.one (.i p2))), (8, .cv (.one (.i p3)))], [(.box 1, [.i p4]), (.box 6, (encC .any T1383 p5)), (.buf 61 T814c p6, [])]⟩
noncomputable def b1 (L1 : List T814c.T → Int → Int → Int → T1383.T → List T814c.T → Option R) (k : Nat) (p1 : List T814c.T) (p2 p3 p4 : Int) (p5 : T1383.T) (p6 : List T814c.T) : Option R :=
  if (decide (p3 < p2)) = true then
  if 0 ≤ p3 then
    if p3 < (p1.length : Int) then
      (f_slices_Clone_Rule.f k ((att T814c p1 p3).2)).bind fun y4 =>
        if (p6.length + 1) * 32 ≤ 140737488355328 then
          L1 p1 p2 (IntKind.i64.wrap (p3 + 1)) p4 p5 (p6 ++ [((att T814c p1 p3).1, y4.1)])
        else none
    else none
  else none
else
  some (p4, (p5, (p6, ())))
theorem b1_ok {r} {L1 : List T814c.T → Int → Int → Int → T1383.T → List T814c.T → Option R} {m1 : Nat} (hL1 : ∀ p1 p2 p3 p4 p5 p6, L1 p1 p2 p3 p4 p5 p6 = some r → Gw P 2 (Q r) (Pb c0 43 [] m1) (s1 p1 p2 p3 p4 p5 p6)) {k p1 p2 p3 p4 p5 p6} (H : b1 L1 k p1 p2 p3 p4 p5 p6 = some r) : Gw P 2 (Q r) (Px c0 75 [m1]) (s1 p1 p2 p3 p4 p5 p6) := by
  unfold b1 at H
  refine Rg V_ok 0 [] az ?_
  rcases of_ite H with ⟨hb1, H⟩ | ⟨hb1, H⟩
  · refine C1 hb1 ?_
    obtain ⟨n2, H⟩ := of_if H
    obtain ⟨n3, H⟩ := of_if H
    refine Rg V_ok 1 [(2, hb 3)] (ac n2 (ac n3 az)) ?_
    obtain ⟨y4, e5, H⟩ := of_bind H
    obtain ⟨n6, H⟩ := of_if H
    refine Rg V_ok 1 [(5, hr f_slices_Clone_Rule.S y4), (8, hb 4)] (ac (f_slices_Clone_Rule.rl e5) (ac n6 az)) ?_
    refine Rg V_ok 0 [] az ?_
    exact Jm (tl [3, 6, 7, 8] [0, 1, 4]) (hL1 p1 p2 (IntKind.i64.wrap (p3 + 1)) p4 p5 (p6 ++ [((att T814c p1 p3).1, y4.1)]) H)
  · refine C0 hb1 ?_
    refine Rg V_ok 0 [] az ?_
    obtain rfl := Option.some.inj H
    exact Lq (tn [2] 3)
noncomputable def l1 (k : Nat) : Nat → List T814c.T → Int → Int → Int → T1383.T → List T814c.T → Option R
  | 0, _, _, _, _, _, _ => none
  | m + 1, p1, p2, p3, p4, p5, p6 => b1 (l1 k m) k p1 p2 p3 p4 p5 p6
theorem l1_ok {r} (k : Nat) : ∀ (m1 : Nat) (p1 : List T814c.T) (p2 p3 p4 : Int) (p5 : T1383.T) (p6 : List T814c.T), l1 k m1 p1 p2 p3 p4 p5 p6 = some r → Gw P 2 (Q r) (Pb c0 43 [] m1) (s1 p1 p2 p3 p4 p5 p6)
  | 0, _, _, _, _, _, _, H => by cases H
  | m1 + 1, p1, p2, p3, p4, p5, p6, H => SU (by kernel_rfl) (b1_ok (l1_ok k m1) H)
noncomputable def f (k : Nat) (p1 : List T814c.T) (p2 : Int) (p3 : T1383.T) : Option R :=
  l1 k k p1 (p1.length : Int) 0 p2 p3 []
theorem f_ok {r k p1 p2 p3} (H : f k p1 p2 p3 = some r) : Gw P 2 (Q r) (Px c0 1 []) (s0 p1 p2 p3) := by
  unfold f at H
  refine Rg V_ok 0 [] az ?_
  refine Rg V_ok 0 [] az ?_
  refine Rg V_ok 0 [] az ?_
  exact LP k (Jm {fz := [], gr := 1, ad := [.ownT 3 2 61 T814c], live := [3, 6, 7, 8], src := [some 0, some 1, some 2]} (l1_ok k k p1 (p1.length : Int) 0 p2 p3 [] H))
theorem ok {r k p1 p2 p3} (H : f k p1 p2 p3 = some r) : W P 2 c0 (s0 p1 p2 p3) (CallQ 2 (out r)) := of_G (f_ok H)
theorem at_ : FnAt P 43 23 c0 Go.Proofs.Tryd.f43.results := fnAt Go.Proofs.Tryd.func43 (by kernel_rfl) (by decide) (by kernel_rfl) (by kernel_rfl)
end i_table_own_6f4
/-! ### function 46, wayfinder/table.Put$1, where it is called -/
namespace i_table_Put_1_e90
noncomputable def c0 : Code := (Go.Proofs.Tryd.f46.body).getD .skip
noncomputable def V : Env := { tt := tt, Γ := slk [(23, f_rule_Alike.S)] }
theorem V_ok : EnvOk P V := { ck := tt_ck, fits := slk_cons f_rule_Alike.fits (slk_nil), mixed := mixed }
abbrev R := (Bool) × Unit
noncomputable def s0 (p1 : T1383.T) (p2 : List T814c.T) (p3 : Int) (p4 : T1383.T) : St := ⟨7, [(0, .cv (.agg (encC .any T1383 p1))), (1, .cv (.one (.ptr 2 0)))], [(.buf 61 T814c p2, []), (.box 1, [.i p3]), (.box 6, (encC .any T1383 p4))]⟩
noncomputable def out (p1 : T1383.T) (p2 : List T814c.T) (p3 : Int) (p4 : T1383.T) (r : R) : St := ⟨7, [(3, .cv (.one (.bool r.1)))], [(.buf 61 T814c p2, []), (.box 1, [.i p3]), (.box 6, (encC .any T1383 p4))]⟩
abbrev Q (p1 : T1383.T) (p2 : List T814c.T) (p3 : Int) (p4 : T1383.T) (r : R) := CallQ 3 (out p1 p2 p3 p4 r)
noncomputable def f (k : Nat) (p1 : T1383.T) (p2 : List T814c.T) (p3 : Int) (p4 : T1383.T) : Option R :=
  (f_rule_Alike.f k p1 p4).bind fun y1 =>
    some (y1.1, ())
theorem f_ok {r k p1 p2 p3 p4} (H : f k p1 p2 p3 p4 = some r) : Gw P 3 (Q p1 p2 p3 p4 r) (Px c0 1 []) (s0 p1 p2 p3 p4) := by
  unfold f at H
  refine Rg V_ok 1 [(0, hb 3)] az ?_
  obtain ⟨y1, e2, H⟩ := of_bind H
  refine Rg V_ok 0 [(2, hr f_rule_Alike.S y1)] (ac (f_rule_Alike.rl e2) az) ?_
  obtain rfl := Option.some.inj H
  exact Lq (tn [3] 3)
theorem ok {r k p1 p2 p3 p4} (H : f k p1 p2 p3 p4 = some r) : W P 3 c0 (s0 p1 p2 p3 p4) (CallQ 3 (out p1 p2 p3 p4 r)) := of_G (f_ok H)
theorem at_ : FnAt P 46 7 c0 Go.Proofs.Tryd.f46.results := fnAt Go.Proofs.Tryd.func46 (by kernel_rfl) (by decide) (by kernel_rfl) (by kernel_rfl)
end i_table_Put_1_e90
/-! ### function 68, slices.IndexFunc[[]wayfinder/api.Rule,wayfinder/api.Rule], where it is called -/
namespace i_slices_IndexFunc_Rule_26b
noncomputable def c0 : Code := (Go.Proofs.Tryd.f68.body).getD .skip
noncomputable def V : Env := { tt := tt, Γ := slk [] }
theorem V_ok : EnvOk P V := { ck := tt_ck, fits := slk_nil, mixed := mixed }
abbrev R := (Int) × (List T814c.T) × (Int) × (T1383.T) × Unit
noncomputable def s0 (p1 : List T1383.T) (p2 : List T814c.T) (p3 : Int) (p4 : T1383.T) : St := ⟨19, [(0, .cv (.one (.sl T1383 p1 .any))), (1, .cv (.one (.fn 46 [] [(2, 0)])))], [(.buf 61 T814c p2, []), (.box 1, [.i p3]), (.box 6, (encC .any T1383 p4))]⟩
noncomputable def out (r : R) : St := ⟨19, [(4, .cv (.one (.i r.1)))], [(.buf 61 T814c r.2.1, []), (.box 1, [.i r.2.2.1]), (.box 6, (encC .any T1383 r.2.2.2.1))]⟩
abbrev Q (r : R) := CallQ 3 (out r)
noncomputable def s1 (p1 : List T1383.T) (p2 p3 : Int) (p4 : List T814c.T) (p5 : Int) (p6 : T1383.T) : St := ⟨19, [(0, .cv (.one (.sl T1383 p1 .any))), (1, .cv (.one (.fn 46 [] [(2, 0)]))), (7, .cv (.one (.i p2))), (8, .cv (.one (.i p3)))], [(.buf 61 T814c p4, []), (.box 1, [.i p5]), (.box 6, (encC .any T1383 p6))]⟩
noncomputable def b1 (L1 : List T1383.T → Int → Int → List T814c.T → Int → T1383.T → Option R) (k : Nat) (p1 : List T1383.T) (p2 p3 : Int) (p4 : List T814c.T) (p5 : Int) (p6 : T1383.T) : Option R :=
  if (decide (p3 < p2)) = true then
  if 0 ≤ p3 then
    if p3 < (p1.length : Int) then
      (i_table_Put_1_e90.f k (att T1383 p1 p3) p4 p5 p6).bind fun y4 =>
        if y4.1 = true then
          some (p3, (p4, (p5, (p6, ()))))
        else
          L1 p1 p2 (IntKind.i64.wrap (p3 + 1)) p4 p5 p6
    else none
  else none
else
  some ((-1), (p4, (p5, (p6, ()))))
theorem b1_ok {r} {L1 : List T1383.T → Int → Int → List T814c.T → Int → T1383.T → Option R} {m1 : Nat} (hL1 : ∀ p1 p2 p3 p4 p5 p6, L1 p1 p2 p3 p4 p5 p6 = some r → Gw P 3 (Q r) (Pb c0 21 [] m1) (s1 p1 p2 p3 p4 p5 p6)) {k p1 p2 p3 p4 p5 p6} (H : b1 L1 k p1 p2 p3 p4 p5 p6 = some r) : Gw P 3 (Q r) (Px c0 37 [m1]) (s1 p1 p2 p3 p4 p5 p6) := by
  unfold b1 at H
  refine Rg V_ok 0 [] az ?_
  rcases of_ite H with ⟨hb1, H⟩ | ⟨hb1, H⟩
  · refine C1 hb1 ?_
    refine Rg V_ok 0 [] az ?_
    refine GT (tn [0, 1, 5, 7, 8] 3) (RI ?_)
    obtain ⟨n2, H⟩ := of_if H
    obtain ⟨n3, H⟩ := of_if H
    refine EV V_ok 0 [] 5 (ac n2 (ac n3 az)) ?_
    obtain ⟨y4, e5, H⟩ := of_bind H
    refine CL V_ok i_table_Put_1_e90.at_ (i_table_Put_1_e90.ok e5) ?_
    refine RN ?_
    rcases of_ite H with ⟨hb6, H⟩ | ⟨hb6, H⟩
    · refine C1 hb6 ?_
      refine Rg V_ok 0 [] az ?_
      obtain rfl := Option.some.inj H
      exact Lq (tn [4] 3)
    · refine C0 hb6 ?_
      refine Rg V_ok 0 [] az ?_
      exact Jm (tn [0, 1, 7, 8] 3) (hL1 p1 p2 (IntKind.i64.wrap (p3 + 1)) p4 p5 p6 H)
  · refine C0 hb1 ?_
    refine Rg V_ok 0 [] az ?_
    obtain rfl := Option.some.inj H
    exact Lq (tn [4] 3)
noncomputable def l1 (k : Nat) : Nat → List T1383.T → Int → Int → List T814c.T → Int → T1383.T → Option R
  | 0, _, _, _, _, _, _ => none
  | m + 1, p1, p2, p3, p4, p5, p6 => b1 (l1 k m) k p1 p2 p3 p4 p5 p6
theorem l1_ok {r} (k : Nat) : ∀ (m1 : Nat) (p1 : List T1383.T) (p2 p3 : Int) (p4 : List T814c.T) (p5 : Int) (p6 : T1383.T), l1 k m1 p1 p2 p3 p4 p5 p6 = some r → Gw P 3 (Q r) (Pb c0 21 [] m1) (s1 p1 p2 p3 p4 p5 p6)
  | 0, _, _, _, _, _, _, H => by cases H
  | m1 + 1, p1, p2, p3, p4, p5, p6, H => SU (by kernel_rfl) (b1_ok (l1_ok k m1) H)
noncomputable def f (k : Nat) (p1 : List T1383.T) (p2 : List T814c.T) (p3 : Int) (p4 : T1383.T) : Option R :=
  l1 k k p1 (p1.length : Int) 0 p2 p3 p4
theorem f_ok {r k p1 p2 p3 p4} (H : f k p1 p2 p3 p4 = some r) : Gw P 3 (Q r) (Px c0 1 []) (s0 p1 p2 p3 p4) := by
  unfold f at H
  refine Rg V_ok 0 [] az ?_
  refine Rg V_ok 0 [] az ?_
  exact LP k (Jm (tn [0, 1, 7, 8] 3) (l1_ok k k p1 (p1.length : Int) 0 p2 p3 p4 H))
theorem ok {r k p1 p2 p3 p4} (H : f k p1 p2 p3 p4 = some r) : W P 3 c0 (s0 p1 p2 p3 p4) (CallQ 3 (out r)) := of_G (f_ok H)
theorem at_ : FnAt P 68 19 c0 Go.Proofs.Tryd.f68.results := fnAt Go.Proofs.Tryd.func68 (by kernel_rfl) (by decide) (by kernel_rfl) (by kernel_rfl)
end i_slices_IndexFunc_Rule_26b
/-! ### function 45, wayfinder/table.first[wayfinder/api.Rule], where it is called -/
namespace i_table_first_Rule_26b
noncomputable def c0 : Code := (Go.Proofs.Tryd.f45.body).getD .skip
noncomputable def V : Env := { tt := tt, Γ := slk [] }
theorem V_ok : EnvOk P V := { ck := tt_ck, fits := slk_nil, mixed := mixed }
abbrev R := (Int) × (List T814c.T) × (Int) × (T1383.T) × Unit
noncomputable def s0 (p1 : List T1383.T) (p2 : List T814c.T) (p3 : Int) (p4 : T1383.T) : St := ⟨14, [(0, .cv (.one (.sl T1383 p1 .any))), (1, .cv (.one (.fn 46 [] [(2, 0)])))], [(.buf 61 T814c p2, []), (.box 1, [.i p3]), (.box 6, (encC .any T1383 p4))]⟩
noncomputable def out (r : R) : St := ⟨14, [(4, .cv (.one (.i r.1)))], [(.buf 61 T814c r.2.1, []), (.box 1, [.i r.2.2.1]), (.box 6, (encC .any T1383 r.2.2.2.1))]⟩
abbrev Q (r : R) := CallQ 3 (out r)
noncomputable def f (k : Nat) (p1 : List T1383.T) (p2 : List T814c.T) (p3 : Int) (p4 : T1383.T) : Option R :=
  (i_slices_IndexFunc_Rule_26b.f k p1 p2 p3 p4).bind fun y1 =>
    if (decide (y1.1 ≥ (0 : Int))) = true then
      some (y1.1, (y1.2.1, (y1.2.2.1, (y1.2.2.2.1, ()))))
    else
      some ((p1.length : Int), (y1.2.1, (y1.2.2.1, (y1.2.2.2.1, ()))))
theorem f_ok {r k p1 p2 p3 p4} (H : f k p1 p2 p3 p4 = some r) : Gw P 3 (Q r) (Px c0 1 []) (s0 p1 p2 p3 p4) := by
  unfold f at H
  refine Rg V_ok 0 [] az ?_
  refine GT (tn [0, 1] 3) (RI ?_)
  refine EV V_ok 0 [] 2 az ?_
  obtain ⟨y1, e2, H⟩ := of_bind H
  refine CL V_ok i_slices_IndexFunc_Rule_26b.at_ (i_slices_IndexFunc_Rule_26b.ok e2) ?_
  refine EV V_ok 0 [] 1 az ?_
  refine RN ?_
  refine Rg V_ok 0 [] az ?_
  rcases of_ite H with ⟨hb3, H⟩ | ⟨hb3, H⟩
  · refine C1 hb3 ?_
    refine Rg V_ok 0 [] az ?_
    obtain rfl := Option.some.inj H
    exact Lq (tn [4] 3)
  · refine C0 hb3 ?_
    refine Rg V_ok 0 [] az ?_
    obtain rfl := Option.some.inj H
    exact Lq (tn [4] 3)
theorem ok {r k p1 p2 p3 p4} (H : f k p1 p2 p3 p4 = some r) : W P 3 c0 (s0 p1 p2 p3 p4) (CallQ 3 (out r)) := of_G (f_ok H)
theorem at_ : FnAt P 45 14 c0 Go.Proofs.Tryd.f45.results := fnAt Go.Proofs.Tryd.func45 (by kernel_rfl) (by decide) (by kernel_rfl) (by kernel_rfl)
end i_table_first_Rule_26b
/-! ### function 49, wayfinder/table.Put$2, where it is called -/
namespace i_table_Put_2_4f9
noncomputable def c0 : Code := (Go.Proofs.Tryd.f49.body).getD .skip
noncomputable def V : Env := { tt := tt, Γ := slk [] }
theorem V_ok : EnvOk P V := { ck := tt_ck, fits := slk_nil, mixed := mixed }
abbrev R := (Bool) × Unit
noncomputable def s0 (p1 : T814c.T) (p2 : List T814c.T) (p3 : Int) (p4 : T1383.T) : St := ⟨8, [(0, .cv (.agg [.i p1.1, .sl T1383 p1.2 .any])), (1, .cv (.one (.ptr 1 0)))], [(.buf 61 T814c p2, []), (.box 1, [.i p3]), (.box 6, (encC .any T1383 p4))]⟩
noncomputable def out (p1 : T814c.T) (p2 : List T814c.T) (p3 : Int) (p4 : T1383.T) (r : R) : St := ⟨8, [(3, .cv (.one (.bool r.1)))], [(.buf 61 T814c p2, []), (.box 1, [.i p3]), (.box 6, (encC .any T1383 p4))]⟩
abbrev Q (p1 : T814c.T) (p2 : List T814c.T) (p3 : Int) (p4 : T1383.T) (r : R) := CallQ 3 (out p1 p2 p3 p4 r)
noncomputable def f (k : Nat) (p1 : T814c.T) (p2 : List T814c.T) (p3 : Int) (p4 : T1383.T) : Option R :=
  some ((decide (p1.1 > p3)), ())
theorem f_ok {r k p1 p2 p3 p4} (H : f k p1 p2 p3 p4 = some r) : Gw P 3 (Q p1 p2 p3 p4 r) (Px c0 1 []) (s0 p1 p2 p3 p4) := by
  unfold f at H
  refine Rg V_ok 1 [(0, hb 3)] az ?_
  refine Rg V_ok 0 [] az ?_
  obtain rfl := Option.some.inj H
  exact Lq (tn [3] 3)
theorem ok {r k p1 p2 p3 p4} (H : f k p1 p2 p3 p4 = some r) : W P 3 c0 (s0 p1 p2 p3 p4) (CallQ 3 (out p1 p2 p3 p4 r)) := of_G (f_ok H)
theorem at_ : FnAt P 49 8 c0 Go.Proofs.Tryd.f49.results := fnAt Go.Proofs.Tryd.func49 (by kernel_rfl) (by decide) (by kernel_rfl) (by kernel_rfl)
end i_table_Put_2_4f9
/-! ### function 69, slices.IndexFunc[[]wayfinder/api.Ver,wayfinder/api.Ver], where it is called -/
namespace i_slices_IndexFunc_Ver_d92
noncomputable def c0 : Code := (Go.Proofs.Tryd.f69.body).getD .skip
noncomputable def V : Env := { tt := tt, Γ := slk [] }
theorem V_ok : EnvOk P V := { ck := tt_ck, fits := slk_nil, mixed := mixed }
abbrev R := (Int) × (List T814c.T) × (Int) × (T1383.T) × Unit
noncomputable def s0 (p1 : List T814c.T) (p2 : Int) (p3 : T1383.T) : St := ⟨19, [(0, .cv (.one (.own 0))), (1, .cv (.one (.fn 49 [] [(1, 0)])))], [(.buf 61 T814c p1, []), (.box 1, [.i p2]), (.box 6, (encC .any T1383 p3))]⟩
noncomputable def out (r : R) : St := ⟨19, [(4, .cv (.one (.i r.1)))], [(.buf 61 T814c r.2.1, []), (.box 1, [.i r.2.2.1]), (.box 6, (encC .any T1383 r.2.2.2.1))]⟩
abbrev Q (r : R) := CallQ 3 (out r)
noncomputable def s1 (p1 p2 : Int) (p3 : List T814c.T) (p4 : Int) (p5 : T1383.T) : St := ⟨19, [(0, .cv (.one (.own 0))), (1, .cv (.one (.fn 49 [] [(1, 0)]))), (7, .cv (.one (.i p1))), (8, .cv (.one (.i p2)))], [(.buf 61 T814c p3, []), (.box 1, [.i p4]), (.box 6, (encC .any T1383 p5))]⟩
noncomputable def b1 (L1 : Int → Int → List T814c.T → Int → T1383.T → Option R) (k : Nat) (p1 p2 : Int) (p3 : List T814c.T) (p4 : Int) (p5 : T1383.T) : Option R :=
  if (decide (p2 < p1)) = true then
  if 0 ≤ p2 then
    if p2 < (p3.length : Int) then
      (i_table_Put_2_4f9.f k (att T814c p3 p2) p3 p4 p5).bind fun y4 =>
        if y4.1 = true then
          some (p2, (p3, (p4, (p5, ()))))
        else
          L1 p1 (IntKind.i64.wrap (p2 + 1)) p3 p4 p5
    else none
  else none
else
  some ((-1), (p3, (p4, (p5, ()))))
theorem b1_ok {r} {L1 : Int → Int → List T814c.T → Int → T1383.T → Option R} {m1 : Nat} (hL1 : ∀ p1 p2 p3 p4 p5, L1 p1 p2 p3 p4 p5 = some r → Gw P 3 (Q r) (Pb c0 21 [] m1) (s1 p1 p2 p3 p4 p5)) {k p1 p2 p3 p4 p5} (H : b1 L1 k p1 p2 p3 p4 p5 = some r) : Gw P 3 (Q r) (Px c0 37 [m1]) (s1 p1 p2 p3 p4 p5) := by
  unfold b1 at H
  refine Rg V_ok 0 [] az ?_
  rcases of_ite H with ⟨hb1, H⟩ | ⟨hb1, H⟩
  · refine C1 hb1 ?_
    refine Rg V_ok 0 [] az ?_
    refine GT (tn [0, 1, 5, 7, 8] 3) (RI ?_)
    obtain ⟨n2, H⟩ := of_if H
    obtain ⟨n3, H⟩ := of_if H
    refine EV V_ok 0 [] 5 (ac n2 (ac n3 az)) ?_
    obtain ⟨y4, e5, H⟩ := of_bind H
    refine CL V_ok i_table_Put_2_4f9.at_ (i_table_Put_2_4f9.ok e5) ?_
    refine RN ?_
    rcases of_ite H with ⟨hb6, H⟩ | ⟨hb6, H⟩
    · refine C1 hb6 ?_
      refine Rg V_ok 0 [] az ?_
      obtain rfl := Option.some.inj H
      exact Lq (tn [4] 3)
    · refine C0 hb6 ?_
      refine Rg V_ok 0 [] az ?_
      exact Jm (tn [0, 1, 7, 8] 3) (hL1 p1 (IntKind.i64.wrap (p2 + 1)) p3 p4 p5 H)
  · refine C0 hb1 ?_
    refine Rg V_ok 0 [] az ?_
    obtain rfl := Option.some.inj H
    exact Lq (tn [4] 3)
noncomputable def l1 (k : Nat) : Nat → Int → Int → List T814c.T → Int → T1383.T → Option R
  | 0, _, _, _, _, _ => none
  | m + 1, p1, p2, p3, p4, p5 => b1 (l1 k m) k p1 p2 p3 p4 p5
theorem l1_ok {r} (k : Nat) : ∀ (m1 : Nat) (p1 p2 : Int) (p3 : List T814c.T) (p4 : Int) (p5 : T1383.T), l1 k m1 p1 p2 p3 p4 p5 = some r → Gw P 3 (Q r) (Pb c0 21 [] m1) (s1 p1 p2 p3 p4 p5)
  | 0, _, _, _, _, _, H => by cases H
  | m1 + 1, p1, p2, p3, p4, p5, H => SU (by kernel_rfl) (b1_ok (l1_ok k m1) H)
noncomputable def f (k : Nat) (p1 : List T814c.T) (p2 : Int) (p3 : T1383.T) : Option R :=
  l1 k k (p1.length : Int) 0 p1 p2 p3
theorem f_ok {r k p1 p2 p3} (H : f k p1 p2 p3 = some r) : Gw P 3 (Q r) (Px c0 1 []) (s0 p1 p2 p3) := by
  unfold f at H
  refine Rg V_ok 0 [] az ?_
  refine Rg V_ok 0 [] az ?_
  exact LP k (Jm (tn [0, 1, 7, 8] 3) (l1_ok k k (p1.length : Int) 0 p1 p2 p3 H))
theorem ok {r k p1 p2 p3} (H : f k p1 p2 p3 = some r) : W P 3 c0 (s0 p1 p2 p3) (CallQ 3 (out r)) := of_G (f_ok H)
theorem at_ : FnAt P 69 19 c0 Go.Proofs.Tryd.f69.results := fnAt Go.Proofs.Tryd.func69 (by kernel_rfl) (by decide) (by kernel_rfl) (by kernel_rfl)
end i_slices_IndexFunc_Ver_d92
/-! ### function 48, wayfinder/table.first[wayfinder/api.Ver], where it is called -/
namespace i_table_first_Ver_d92
noncomputable def c0 : Code := (Go.Proofs.Tryd.f48.body).getD .skip
noncomputable def V : Env := { tt := tt, Γ := slk [] }
theorem V_ok : EnvOk P V := { ck := tt_ck, fits := slk_nil, mixed := mixed }
abbrev R := (Int) × (List T814c.T) × (Int) × (T1383.T) × Unit
noncomputable def s0 (p1 : List T814c.T) (p2 : Int) (p3 : T1383.T) : St := ⟨14, [(0, .cv (.one (.own 0))), (1, .cv (.one (.fn 49 [] [(1, 0)])))], [(.buf 61 T814c p1, []), (.box 1, [.i p2]), (.box 6, (encC .any T1383 p3))]⟩
noncomputable def out (r : R) : St := ⟨14, [(4, .cv (.one (.i r.1)))], [(.buf 61 T814c r.2.1, []), (.box 1, [.i r.2.2.1]), (.box 6, (encC .any T1383 r.2.2.2.1))]⟩
abbrev Q (r : R) := CallQ 3 (out r)
noncomputable def f (k : Nat) (p1 : List T814c.T) (p2 : Int) (p3 : T1383.T) : Option R :=
  (i_slices_IndexFunc_Ver_d92.f k p1 p2 p3).bind fun y1 =>
    if (decide (y1.1 ≥ (0 : Int))) = true then
      some (y1.1, (y1.2.1, (y1.2.2.1, (y1.2.2.2.1, ()))))
    else
      some ((y1.2.1.length : Int), (y1.2.1, (y1.2.2.1, (y1.2.2.2.1, ()))))
theorem f_ok {r k p1 p2 p3} (H : f k p1 p2 p3 = some r) : Gw P 3 (Q r) (Px c0 1 []) (s0 p1 p2 p3) := by
  unfold f at H
  refine Rg V_ok 0 [] az ?_
  refine GT (tn [0, 1] 3) (RI ?_)
  refine EV V_ok 0 [] 2 az ?_
  obtain ⟨y1, e2, H⟩ := of_bind H
  refine CL V_ok i_slices_IndexFunc_Ver_d92.at_ (i_slices_IndexFunc_Ver_d92.ok e2) ?_
  refine EV V_ok 0 [] 1 az ?_
  refine RN ?_
  refine Rg V_ok 0 [] az ?_
  rcases of_ite H with ⟨hb3, H⟩ | ⟨hb3, H⟩
  · refine C1 hb3 ?_
    refine Rg V_ok 0 [] az ?_
    obtain rfl := Option.some.inj H
    exact Lq (tn [4] 3)
  · refine C0 hb3 ?_
    refine Rg V_ok 0 [] az ?_
    obtain rfl := Option.some.inj H
    exact Lq (tn [4] 3)
theorem ok {r k p1 p2 p3} (H : f k p1 p2 p3 = some r) : W P 3 c0 (s0 p1 p2 p3) (CallQ 3 (out r)) := of_G (f_ok H)
theorem at_ : FnAt P 48 14 c0 Go.Proofs.Tryd.f48.results := fnAt Go.Proofs.Tryd.func48 (by kernel_rfl) (by decide) (by kernel_rfl) (by kernel_rfl)
end i_table_first_Ver_d92
/-! ### function 18, wayfinder/table.Put -/
namespace f_table_Put
noncomputable def c0 : Code := (Go.Proofs.Tryd.f18.body).getD .skip
abbrev ps : Sg := [(false, (.slice T814c)), (false, (.int .i64)), (true, T1383), (false, (.int .i64))]
abbrev rs : Sg := [(false, (.slice T814c)), (false, (.int .i64))]
noncomputable def V : Env := { tt := tt, Γ := slk [(22, f_rule_May.S), (44, f_table_at.S), (47, f_table_Size.S)], pr := plk [(43, .lnk 61 30 (.int .i64) T1383 32 48), (50, .ins 61 T814c 32)] }
theorem V_ok : EnvOk P V := { ck := tt_ck, fits := slk_cons f_rule_May.fits (slk_cons f_table_at.fits (slk_cons f_table_Size.fits (slk_nil))), mixed := mixed, prims := plk_cons (show PrimOk P 43 _ from L43.prim) (plk_cons (show PrimOk P 50 _ from N50.ok) (plk_nil)) }
abbrev R := Tup rs
noncomputable abbrev Q (r : R) : Exit → St → Prop := Qr tt Go.Proofs.Tryd.f18.results ⟨ps, rs, .any, none, fun _ _ => True⟩ r
noncomputable def s1 (p1 : Int) (p2 : Bool) (p3 : List (Int × List T1383.T)) (p4 : Nat) (p5 : Int) (p6 : T1383.T) (p7 : List T1383.T) : St := ⟨107, [(0, .cv (.one (.own 0))), (3, .cv (.one (.i p1))), (5, .cv (.one (.ptr 1 0))), (6, .cv (.one (.ptr 2 0))), (26, .cv (.one (.bool p2)))], [(.lnk 61 (.int .i64) T1383 p3 3 p4, []), (.box 1, [.i p5]), (.box 6, (encC .any T1383 p6)), (.buf 30 T1383 p7, [])]⟩
noncomputable def s2 (p1 p2 : Int) (p3 : List (Int × List T1383.T)) (p4 : Nat) (p5 : Int) (p6 : T1383.T) (p7 : List T1383.T) : St := ⟨107, [(0, .cv (.one (.own 0))), (3, .cv (.one (.i p1))), (5, .cv (.one (.ptr 1 0))), (6, .cv (.one (.ptr 2 0))), (10, .cv (.one (.i p2)))], [(.lnk 61 (.int .i64) T1383 p3 3 p4, []), (.box 1, [.i p5]), (.box 6, (encC .any T1383 p6)), (.buf 30 T1383 p7, [])]⟩
noncomputable def j2 (k : Nat) (p1 p2 : Int) (p3 : List (Int × List T1383.T)) (p4 : Nat) (p5 : Int) (p6 : T1383.T) (p7 : List T1383.T) : Option R :=
  (f_table_Size.f k (lnkd p3 p4 p7)).bind fun y21 =>
  if (decide (y21.1 ≥ p1)) = true then
    some ((lnkd p3 p4 p7), ((7 : Int), ()))
  else
    if (decide (p2 < (p3.length : Int))) = true then
      if 0 ≤ p2 then
        if p2 < ((lnkd p3 p4 p7).length : Int) then
          if 0 ≤ (0 : Int) ∧ (0 : Int) ≤ (((att T814c (lnkd p3 p4 p7) p2).2).length : Int) ∧ (((att T814c (lnkd p3 p4 p7) p2).2).length : Int) ≤ (((att T814c (lnkd p3 p4 p7) p2).2).length : Int) ∧ (((att T814c (lnkd p3 p4 p7) p2).2).length : Int) = (((att T814c (lnkd p3 p4 p7) p2).2).length : Int) then
            if (((((att T814c (lnkd p3 p4 p7) p2).2).take (((att T814c (lnkd p3 p4 p7) p2).2).length : Int).toNat).drop (0 : Int).toNat).length + 1) * 48 ≤ 140737488355328 then
              some (((lnkd p3 p4 p7).set p2.toNat ((att T814c (lnkd p3 p4 p7) p2).1, (((((att T814c (lnkd p3 p4 p7) p2).2).take (((att T814c (lnkd p3 p4 p7) p2).2).length : Int).toNat).drop (0 : Int).toNat) ++ [p6]))), ((0 : Int), ()))
            else none
          else none
        else none
      else none
    else
      none
theorem j2_ok {r} {k p1 p2 p3 p4 p5 p6 p7} (H : j2 k p1 p2 p3 p4 p5 p6 p7 = some r) : Gw P 0 (Q r) (Px c0 63 []) (s2 p1 p2 p3 p4 p5 p6 p7) := by
  unfold j2 at H
  obtain ⟨y21, e22, H⟩ := of_bind H
  refine Rg V_ok 0 [(1, hr f_table_Size.S y21)] (ac (f_table_Size.rl e22) az) ?_
  rcases of_ite H with ⟨hb23, H⟩ | ⟨hb23, H⟩
  · refine C1 hb23 ?_
    refine Rg V_ok 0 [] az ?_
    refine FZ 3 ?_
    exact Lf (Eq.trans (by kernel_rfl) H)
  · refine C0 hb23 ?_
    refine Rg V_ok 0 [] az ?_
    rcases of_ite H with ⟨hb24, H⟩ | ⟨hb24, H⟩
    · refine C1 hb24 ?_
      refine FZ 3 ?_
      obtain ⟨n25, H⟩ := of_if H
      obtain ⟨n26, H⟩ := of_if H
      obtain ⟨n27, H⟩ := of_if H
      obtain ⟨n28, H⟩ := of_if H
      refine Rg V_ok 0 [(22, ho)] (ac n25 (ac n26 (ac n25 (ac n26 (ac n25 (ac n26 (ac n27 (ac n28 (ac n25 (ac n26 az)))))))))) ?_
      refine Rg V_ok 0 [] az ?_
      exact Lf (Eq.trans (by kernel_rfl) H)
    · refine C0 hb24 ?_
      cases H
noncomputable def j1 (k : Nat) (p1 : Int) (p2 : Bool) (p3 : List (Int × List T1383.T)) (p4 : Nat) (p5 : Int) (p6 : T1383.T) (p7 : List T1383.T) : Option R :=
  if p2 = true then
  some ((lnkd p3 p4 p7), ((1 : Int), ()))
else
  (f_table_at.f k (lnkd p3 p4 p7) p5).bind fun y9 =>
    if (decide (y9.1 < (p3.length : Int))) = true then
      if 0 ≤ y9.1 then
        if y9.1 < (p3.length : Int) then
          if y9.1 = (p4 : Int) then
            (i_table_first_Rule_7cf.f k p3 p4 p5 p6 p7).bind fun y15 =>
              if y9.1 = (y15.2.2.1 : Int) then
                if (decide (y15.1 < (y15.2.2.2.2.2.1.length : Int))) = true then
                  if 0 ≤ y15.1 then
                    if y15.1 < (y15.2.2.2.2.2.1.length : Int) then
                      some ((lnkd y15.2.1 y15.2.2.1 (y15.2.2.2.2.2.1.set y15.1.toNat y15.2.2.2.2.1)), ((0 : Int), ()))
                    else none
                  else none
                else
                  j2 k p1 y9.1 y15.2.1 y15.2.2.1 y15.2.2.2.1 y15.2.2.2.2.1 y15.2.2.2.2.2.1
              else none
          else none
        else none
      else none
    else
      j2 k p1 y9.1 p3 p4 p5 p6 p7
theorem j1_ok {r} {k p1 p2 p3 p4 p5 p6 p7} (H : j1 k p1 p2 p3 p4 p5 p6 p7 = some r) : Gw P 0 (Q r) (Px c0 27 []) (s1 p1 p2 p3 p4 p5 p6 p7) := by
  unfold j1 at H
  rcases of_ite H with ⟨hb8, H⟩ | ⟨hb8, H⟩
  · refine C1 hb8 ?_
    refine Rg V_ok 0 [] az ?_
    refine FZ 3 ?_
    exact Lf (Eq.trans (by kernel_rfl) H)
  · refine C0 hb8 ?_
    obtain ⟨y9, e10, H⟩ := of_bind H
    refine Rg V_ok 0 [(2, hr f_table_at.S y9)] (ac (f_table_at.rl e10) az) ?_
    refine Rg V_ok 0 [] az ?_
    rcases of_ite H with ⟨hb11, H⟩ | ⟨hb11, H⟩
    · refine C1 hb11 ?_
      obtain ⟨n12, H⟩ := of_if H
      obtain ⟨n13, H⟩ := of_if H
      refine Rg V_ok 0 [] (ac n12 (ac n13 az)) ?_
      refine GT (tn [0, 3, 5, 6, 10, 11] 4) (RI ?_)
      obtain ⟨n14, H⟩ := of_if H
      refine EV V_ok 0 [] 5 (ac n14 az) ?_
      obtain ⟨y15, e16, H⟩ := of_bind H
      refine CL V_ok i_table_first_Rule_7cf.at_ (i_table_first_Rule_7cf.ok e16) ?_
      refine EV V_ok 0 [] 1 az ?_
      refine RN ?_
      obtain ⟨n17, H⟩ := of_if H
      refine Rg V_ok 0 [] (ac n17 az) ?_
      rcases of_ite H with ⟨hb18, H⟩ | ⟨hb18, H⟩
      · refine C1 hb18 ?_
        obtain ⟨n19, H⟩ := of_if H
        obtain ⟨n20, H⟩ := of_if H
        refine Rg V_ok 0 [] (ac n17 (ac n19 (ac n20 az))) ?_
        refine Rg V_ok 0 [] az ?_
        refine FZ 3 ?_
        exact Lf (Eq.trans (by kernel_rfl) H)
      · refine C0 hb18 ?_
        exact Jm (tn [0, 3, 5, 6, 10] 4) (j2_ok H)
    · refine C0 hb11 ?_
      exact Jm (tn [0, 3, 5, 6, 10] 4) (j2_ok H)
noncomputable def s3 (p1 : Int) (p2 : Bool) (p3 : List T814c.T) (p4 : Int) (p5 : T1383.T) : St := ⟨107, [(0, .cv (.one (.own 0))), (3, .cv (.one (.i p1))), (5, .cv (.one (.ptr 1 0))), (6, .cv (.one (.ptr 2 0))), (26, .cv (.one (.bool p2)))], [(.buf 61 T814c p3, []), (.box 1, [.i p4]), (.box 6, (encC .any T1383 p5))]⟩
noncomputable def s4 (p1 p2 : Int) (p3 : List T814c.T) (p4 : Int) (p5 : T1383.T) : St := ⟨107, [(0, .cv (.one (.own 0))), (3, .cv (.one (.i p1))), (5, .cv (.one (.ptr 1 0))), (6, .cv (.one (.ptr 2 0))), (10, .cv (.one (.i p2)))], [(.buf 61 T814c p3, []), (.box 1, [.i p4]), (.box 6, (encC .any T1383 p5))]⟩
noncomputable def j4 (k : Nat) (p1 p2 : Int) (p3 : List T814c.T) (p4 : Int) (p5 : T1383.T) : Option R :=
  (f_table_Size.f k p3).bind fun y44 =>
  if (decide (y44.1 ≥ p1)) = true then
    some (p3, ((7 : Int), ()))
  else
    if (decide (p2 < (p3.length : Int))) = true then
      if 0 ≤ p2 then
        if p2 < (p3.length : Int) then
          if 0 ≤ (0 : Int) ∧ (0 : Int) ≤ (((att T814c p3 p2).2).length : Int) ∧ (((att T814c p3 p2).2).length : Int) ≤ (((att T814c p3 p2).2).length : Int) ∧ (((att T814c p3 p2).2).length : Int) = (((att T814c p3 p2).2).length : Int) then
            if (((((att T814c p3 p2).2).take (((att T814c p3 p2).2).length : Int).toNat).drop (0 : Int).toNat).length + 1) * 48 ≤ 140737488355328 then
              some ((p3.set p2.toNat ((att T814c p3 p2).1, (((((att T814c p3 p2).2).take (((att T814c p3 p2).2).length : Int).toNat).drop (0 : Int).toNat) ++ [p5]))), ((0 : Int), ()))
            else none
          else none
        else none
      else none
    else
      (i_table_first_Ver_d92.f k p3 p4 p5).bind fun y52 =>
        if 0 ≤ y52.1 ∧ y52.1 ≤ (y52.2.1.length : Int) ∧ 1 = 1 ∧ (y52.2.1.length + 1) * 32 ≤ 140737488355328 ∧ (0 : Nat) ≠ 3 then
          some ((y52.2.1.take y52.1.toNat ++ [(y52.2.2.1, [y52.2.2.2.1])] ++ y52.2.1.drop y52.1.toNat), ((0 : Int), ()))
        else none
theorem j4_ok {r} {k p1 p2 p3 p4 p5} (H : j4 k p1 p2 p3 p4 p5 = some r) : Gw P 0 (Q r) (Px c0 63 []) (s4 p1 p2 p3 p4 p5) := by
  unfold j4 at H
  obtain ⟨y44, e45, H⟩ := of_bind H
  refine Rg V_ok 0 [(1, hr f_table_Size.S y44)] (ac (f_table_Size.rl e45) az) ?_
  rcases of_ite H with ⟨hb46, H⟩ | ⟨hb46, H⟩
  · refine C1 hb46 ?_
    refine Rg V_ok 0 [] az ?_
    exact Lf (Eq.trans (by kernel_rfl) H)
  · refine C0 hb46 ?_
    refine Rg V_ok 0 [] az ?_
    rcases of_ite H with ⟨hb47, H⟩ | ⟨hb47, H⟩
    · refine C1 hb47 ?_
      obtain ⟨n48, H⟩ := of_if H
      obtain ⟨n49, H⟩ := of_if H
      obtain ⟨n50, H⟩ := of_if H
      obtain ⟨n51, H⟩ := of_if H
      refine Rg V_ok 0 [(22, ho)] (ac n48 (ac n49 (ac n48 (ac n49 (ac n48 (ac n49 (ac n50 (ac n51 (ac n48 (ac n49 az)))))))))) ?_
      refine Rg V_ok 0 [] az ?_
      exact Lf (Eq.trans (by kernel_rfl) H)
    · refine C0 hb47 ?_
      refine GT (tn [0, 5, 6] 3) (RI ?_)
      refine EV V_ok 0 [] 2 az ?_
      obtain ⟨y52, e53, H⟩ := of_bind H
      refine CL V_ok i_table_first_Ver_d92.at_ (i_table_first_Ver_d92.ok e53) ?_
      refine EV V_ok 0 [] 1 az ?_
      refine RN ?_
      obtain ⟨n54, H⟩ := of_if H
      refine Rg V_ok 2 [(6, {sb := 3, bo := true}), (7, {sb := 4, ph := {sb := 4}})] (ac n54 az) ?_
      exact Lf (Eq.trans (by kernel_rfl) H)
noncomputable def j3 (k : Nat) (p1 : Int) (p2 : Bool) (p3 : List T814c.T) (p4 : Int) (p5 : T1383.T) : Option R :=
  if p2 = true then
  some (p3, ((1 : Int), ()))
else
  (f_table_at.f k p3 p4).bind fun y36 =>
    if (decide (y36.1 < (p3.length : Int))) = true then
      if 0 ≤ y36.1 then
        if y36.1 < (p3.length : Int) then
          (i_table_first_Rule_26b.f k ((att T814c p3 y36.1).2) p3 p4 p5).bind fun y41 =>
            if (decide (y41.1 < (((att T814c y41.2.1 y36.1).2).length : Int))) = true then
              none
            else
              j4 k p1 y36.1 y41.2.1 y41.2.2.1 y41.2.2.2.1
        else none
      else none
    else
      j4 k p1 y36.1 p3 p4 p5
theorem j3_ok {r} {k p1 p2 p3 p4 p5} (H : j3 k p1 p2 p3 p4 p5 = some r) : Gw P 0 (Q r) (Px c0 27 []) (s3 p1 p2 p3 p4 p5) := by
  unfold j3 at H
  rcases of_ite H with ⟨hb35, H⟩ | ⟨hb35, H⟩
  · refine C1 hb35 ?_
    refine Rg V_ok 0 [] az ?_
    exact Lf (Eq.trans (by kernel_rfl) H)
  · refine C0 hb35 ?_
    obtain ⟨y36, e37, H⟩ := of_bind H
    refine Rg V_ok 0 [(2, hr f_table_at.S y36)] (ac (f_table_at.rl e37) az) ?_
    refine Rg V_ok 0 [] az ?_
    rcases of_ite H with ⟨hb38, H⟩ | ⟨hb38, H⟩
    · refine C1 hb38 ?_
      obtain ⟨n39, H⟩ := of_if H
      obtain ⟨n40, H⟩ := of_if H
      refine Rg V_ok 0 [] (ac n39 (ac n40 az)) ?_
      refine GT (tn [0, 3, 5, 6, 10, 11] 3) (RI ?_)
      refine EV V_ok 0 [] 5 az ?_
      obtain ⟨y41, e42, H⟩ := of_bind H
      refine CL V_ok i_table_first_Rule_26b.at_ (i_table_first_Rule_26b.ok e42) ?_
      refine EV V_ok 0 [] 1 az ?_
      refine RN ?_
      refine Rg V_ok 0 [] az ?_
      rcases of_ite H with ⟨hb43, H⟩ | ⟨hb43, H⟩
      · refine C1 hb43 ?_
        cases H
      · refine C0 hb43 ?_
        exact Jm (tn [0, 3, 5, 6, 10] 3) (j4_ok H)
    · refine C0 hb38 ?_
      exact Jm (tn [0, 3, 5, 6, 10] 3) (j4_ok H)
noncomputable def f (k : Nat) (a1 : List T814c.T) (a2 : Int) (a3 : T1383.T) (a4 : Int) : Option R :=
  (f_table_at.f k a1 a2).bind fun y1 =>
    if 0 ≤ y1.1 ∧ y1.1.toNat < a1.length then
      if y1.1.toNat < a1.length ∧ lnkFit 32 48 a1 = true then
        (f_rule_May.f k a3).bind fun y5 =>
          if (!y5.1) = true then
            j1 k a4 true a1 y1.1.toNat a2 a3 ((att T814c a1 (y1.1.toNat : Int)).2)
          else
            if (decide (a2 < (1 : Int))) = true then
              j1 k a4 true a1 y1.1.toNat a2 a3 ((att T814c a1 (y1.1.toNat : Int)).2)
            else
              j1 k a4 (decide (a2 > (4095 : Int))) a1 y1.1.toNat a2 a3 ((att T814c a1 (y1.1.toNat : Int)).2)
      else none
    else
      (i_table_own_6f4.f k a1 a2 a3).bind fun y30 =>
        (f_rule_May.f k y30.2.1).bind fun y32 =>
          if (!y32.1) = true then
            j3 k a4 true y30.2.2.1 y30.1 y30.2.1
          else
            if (decide (y30.1 < (1 : Int))) = true then
              j3 k a4 true y30.2.2.1 y30.1 y30.2.1
            else
              j3 k a4 (decide (y30.1 > (4095 : Int))) y30.2.2.1 y30.1 y30.2.1
noncomputable def S : Spec := ⟨ps, rs, .any, none, fun x r => ∃ k, f k x.1 x.2.1 x.2.2.1 x.2.2.2.1 = some r⟩
theorem rl {k a1 a2 a3 a4 r} (e : f k a1 a2 a3 a4 = some r) : S.rel (a1, a2, a3, a4, ()) r := ⟨k, e⟩
theorem f_ok {r k a1 a2 a3 a4} (H : f k a1 a2 a3 a4 = some r) : Gw P 0 (Q r) (Px c0 1 []) (⟨107, [(0, .cv (.one (.sl T814c a1 .any))), (1, .cv (.one (.i a2))), (2, .cv (.agg (encC .any T1383 a3))), (3, .cv (.one (.i a4)))], []⟩) := by
  unfold f at H
  obtain ⟨y1, e2, H⟩ := of_bind H
  rcases of_ifx H with ⟨hb3, H⟩ | ⟨hb3, H⟩
  · refine Rg V_ok 2 [(0, hb 0), (1, hb 1)] az ?_
    obtain ⟨n4, H⟩ := of_if H
    refine Rg V_ok 2 [(1, {ph := {sb := 2, sb2 := 3, i := y1.1.toNat}})] (ac n4 az) ?_
    obtain ⟨y5, e6, H⟩ := of_bind H
    rcases of_ite H with ⟨hb7, H⟩ | ⟨hb7, H⟩
    · refine Rg V_ok 0 [(1, hr f_rule_May.S y5), (2, {bv := some true})] (ac (f_rule_May.rl e6) (ac hb7 az)) ?_
      exact Jm (tl [0, 3, 5, 6, 26] [2, 0, 1, 3]) (j1_ok H)
    · rcases of_ite H with ⟨hb29, H⟩ | ⟨hb29, H⟩
      · refine Rg V_ok 0 [(1, hr f_rule_May.S y5), (2, {bv := some false}), (6, {bv := some true})] (ac (f_rule_May.rl e6) (ac hb7 (ac hb29 az))) ?_
        exact Jm (tl [0, 3, 5, 6, 26] [2, 0, 1, 3]) (j1_ok H)
      · refine Rg V_ok 0 [(1, hr f_rule_May.S y5), (2, {bv := some false}), (6, {bv := some false})] (ac (f_rule_May.rl e6) (ac hb7 (ac hb29 az))) ?_
        exact Jm (tl [0, 3, 5, 6, 26] [2, 0, 1, 3]) (j1_ok H)
  · refine Rg V_ok 2 [(0, hb 0), (1, hb 1)] az ?_
    refine GT (tn [0, 3, 5, 6] 2) (RI ?_)
    refine EV V_ok 0 [] 1 az ?_
    obtain ⟨y30, e31, H⟩ := of_bind H
    refine CL V_ok i_table_own_6f4.at_ (i_table_own_6f4.ok e31) ?_
    refine EV V_ok 0 [] 1 az ?_
    refine RN ?_
    obtain ⟨y32, e33, H⟩ := of_bind H
    rcases of_ite H with ⟨hb34, H⟩ | ⟨hb34, H⟩
    · refine Rg V_ok 0 [(1, hr f_rule_May.S y32), (2, {bv := some true})] (ac (f_rule_May.rl e33) (ac hb34 az)) ?_
      exact Jm (tl [0, 3, 5, 6, 26] [2, 0, 1]) (j3_ok H)
    · rcases of_ite H with ⟨hb55, H⟩ | ⟨hb55, H⟩
      · refine Rg V_ok 0 [(1, hr f_rule_May.S y32), (2, {bv := some false}), (6, {bv := some true})] (ac (f_rule_May.rl e33) (ac hb34 (ac hb55 az))) ?_
        exact Jm (tl [0, 3, 5, 6, 26] [2, 0, 1]) (j3_ok H)
      · refine Rg V_ok 0 [(1, hr f_rule_May.S y32), (2, {bv := some false}), (6, {bv := some false})] (ac (f_rule_May.rl e33) (ac hb34 (ac hb55 az))) ?_
        exact Jm (tl [0, 3, 5, 6, 26] [2, 0, 1]) (j3_ok H)
theorem fits : Fits P 18 S := fits_of V_ok Go.Proofs.Tryd.func18 (by kernel_rfl) (by decide) (by decide) rfl (fun x r ⟨k, H⟩ => of_G (f_ok H))
end f_table_Put
/-! ### function 30, wayfinder/sess.Take -/
namespace f_sess_Take
noncomputable def c0 : Code := (Go.Proofs.Tryd.f30.body).getD .skip
abbrev ps : Sg := [(false, (.int .i64)), (false, (.int .i64)), (true, T4414)]
abbrev rs : Sg := [(false, (.int .i64))]
noncomputable def V : Env := { tt := tt, Γ := slk [] }
theorem V_ok : EnvOk P V := { ck := tt_ck, fits := slk_nil, mixed := mixed }
abbrev R := Tup rs
noncomputable abbrev Q (r : R) : Exit → St → Prop := Qr tt Go.Proofs.Tryd.f30.results ⟨ps, rs, .any, none, fun _ _ => True⟩ r
noncomputable def f (k : Nat) (a1 a2 : Int) (a3 : T4414.T) : Option R :=
  if (a3.2.1 != a1) = true then
    some ((8 : Int), ())
  else
    if (decide (a3.2.2.1 ≤ a2)) = true then
      some ((6 : Int), ())
    else
      if (decide ((IntKind.i64.wrap (a3.2.2.1 - 1)) > a2)) = true then
        some ((3 : Int), ())
      else
        some ((0 : Int), ())
noncomputable def S : Spec := ⟨ps, rs, .any, none, fun x r => ∃ k, f k x.1 x.2.1 x.2.2.1 = some r⟩
theorem rl {k a1 a2 a3 r} (e : f k a1 a2 a3 = some r) : S.rel (a1, a2, a3, ()) r := ⟨k, e⟩
theorem f_ok {r k a1 a2 a3} (H : f k a1 a2 a3 = some r) : Gw P 0 (Q r) (Px c0 1 []) (⟨23, [(0, .cv (.one (.i a1))), (1, .cv (.one (.i a2))), (2, .cv (.agg (encC .any T4414 a3)))], []⟩) := by
  unfold f at H
  refine Rg V_ok 1 [(0, hb 0)] az ?_
  refine Rg V_ok 0 [] az ?_
  rcases of_ite H with ⟨hb1, H⟩ | ⟨hb1, H⟩
  · refine C1 hb1 ?_
    refine Rg V_ok 0 [] az ?_
    exact Lf (Eq.trans (by kernel_rfl) H)
  · refine C0 hb1 ?_
    refine Rg V_ok 0 [] az ?_
    rcases of_ite H with ⟨hb2, H⟩ | ⟨hb2, H⟩
    · refine C1 hb2 ?_
      refine Rg V_ok 0 [] az ?_
      exact Lf (Eq.trans (by kernel_rfl) H)
    · refine C0 hb2 ?_
      refine Rg V_ok 0 [] az ?_
      rcases of_ite H with ⟨hb3, H⟩ | ⟨hb3, H⟩
      · refine C1 hb3 ?_
        refine Rg V_ok 0 [] az ?_
        exact Lf (Eq.trans (by kernel_rfl) H)
      · refine C0 hb3 ?_
        refine Rg V_ok 0 [] az ?_
        exact Lf (Eq.trans (by kernel_rfl) H)
theorem fits : Fits P 30 S := fits_of V_ok Go.Proofs.Tryd.func30 (by kernel_rfl) (by decide) (by decide) rfl (fun x r ⟨k, H⟩ => of_G (f_ok H))
end f_sess_Take
/-! ### function 11, wayfinder/agent.Hail -/
namespace f_agent_Hail
noncomputable def c0 : Code := (Go.Proofs.Tryd.f11.body).getD .skip
abbrev ps : Sg := [(true, Tf20b)]
abbrev rs : Sg := [(false, (.slice (.int .u8)))]
noncomputable def V : Env := { tt := tt, Γ := slk [(9, f_frame_Seal.S)] }
theorem V_ok : EnvOk P V := { ck := tt_ck, fits := slk_cons f_frame_Seal.fits (slk_nil), mixed := mixed }
abbrev R := Tup rs
noncomputable abbrev Q (r : R) : Exit → St → Prop := Qr tt Go.Proofs.Tryd.f11.results ⟨ps, rs, .any, none, fun _ _ => True⟩ r
noncomputable def f (k : Nat) (a1 : Tf20b.T) : Option R :=
  (f_frame_Seal.f k (0, (a1.1, (0, (0, ((0, 0), (0, (0, (0, 0))))))))).bind fun y1 =>
    some (y1.1, ())
noncomputable def S : Spec := ⟨ps, rs, .any, none, fun x r => ∃ k, f k x.1 = some r⟩
theorem rl {k a1 r} (e : f k a1 = some r) : S.rel (a1, ()) r := ⟨k, e⟩
theorem f_ok {r k a1} (H : f k a1 = some r) : Gw P 0 (Q r) (Px c0 1 []) (⟨13, [(0, .cv (.agg (encC .any Tf20b a1)))], []⟩) := by
  unfold f at H
  refine Rg V_ok 1 [(0, hb 0)] az ?_
  obtain ⟨y1, e2, H⟩ := of_bind H
  refine Rg V_ok 0 [(3, hr f_frame_Seal.S y1)] (ac (f_frame_Seal.rl e2) az) ?_
  refine Rg V_ok 0 [] az ?_
  exact Lf (Eq.trans (by kernel_rfl) H)
theorem fits : Fits P 11 S := fits_of V_ok Go.Proofs.Tryd.func11 (by kernel_rfl) (by decide) (by decide) rfl (fun x r ⟨k, H⟩ => of_G (f_ok H))
end f_agent_Hail
/-! ### function 31, wayfinder/agent.frames -/
namespace f_agent_frames
noncomputable def c0 : Code := (Go.Proofs.Tryd.f31.body).getD .skip
abbrev ps : Sg := [(false, (.slice (.int .u8)))]
abbrev rs : Sg := [(false, (.slice (.slice (.int .u8))))]
noncomputable def V : Env := { tt := tt, Γ := slk [] }
theorem V_ok : EnvOk P V := { ck := tt_ck, fits := slk_nil, mixed := mixed }
abbrev R := Tup rs
noncomputable abbrev Q (r : R) : Exit → St → Prop := Qr tt Go.Proofs.Tryd.f31.results ⟨ps, rs, .any, none, fun _ _ => True⟩ r
noncomputable def f (k : Nat) (a1 : List Int) : Option R :=
  if 0 < a1.length then
    some ([a1], ())
  else none
noncomputable def S : Spec := ⟨ps, rs, .any, none, fun x r => ∃ k, f k x.1 = some r⟩
theorem rl {k a1 r} (e : f k a1 = some r) : S.rel (a1, ()) r := ⟨k, e⟩
theorem f_ok {r k a1} (H : f k a1 = some r) : Gw P 0 (Q r) (Px c0 1 []) (⟨7, [(0, .cv (.one (.sl (.int .u8) a1 .any)))], []⟩) := by
  unfold f at H
  refine Rg V_ok 0 [] az ?_
  obtain ⟨n1, H⟩ := of_if H
  refine Rg V_ok 0 [] (ac n1 az) ?_
  refine C0 rfl ?_
  refine Rg V_ok 0 [] az ?_
  exact Lf (Eq.trans (by kernel_rfl) H)
theorem fits : Fits P 31 S := fits_of V_ok Go.Proofs.Tryd.func31 (by kernel_rfl) (by decide) (by decide) rfl (fun x r ⟨k, H⟩ => of_G (f_ok H))
end f_agent_frames
end Go.Proofs.YthfdkmbijjkmaaaDoor.V
