/- Functions of the program, as Lean functions, and that the code answers so. Printed by vgen.py. -/
import Derived.Test.YthfdkmbijjkmaaaDoorVBase
namespace Go.Proofs.YthfdkmbijjkmaaaDoor.V
open Go Go.RowKit
set_option linter.unusedVariables false
set_option linter.unusedSimpArgs false
set_option maxRecDepth 100000
set_option maxHeartbeats 4000000
/-! ### function 81, wayfinder/bits.bound -/
namespace f_bits_bound
noncomputable def c0 : Code := (Go.Proofs.Tryd.f81.body).getD .skip
abbrev ps : Sg := [(false, (.int .i64))]
abbrev rs : Sg := [(false, (.int .i64))]
noncomputable def V : Env := { tt := tt, Γ := slk [] }
theorem V_ok : EnvOk P V := { ck := tt_ck, fits := slk_nil, mixed := mixed }
abbrev R := Tup rs
noncomputable abbrev Q (r : R) : Exit → St → Prop := Qr tt Go.Proofs.Tryd.f81.results ⟨ps, rs, .any, none, fun _ _ => True⟩ r
noncomputable def f (k : Nat) (a1 : Int) : Option R :=
  some ((if 32 < (if 0 > a1 then 0 else a1) then 32 else (if 0 > a1 then 0 else a1)), ())
noncomputable def S : Spec := ⟨ps, rs, .any, none, fun x r => ∃ k, f k x.1 = some r⟩
theorem rl {k a1 r} (e : f k a1 = some r) : S.rel (a1, ()) r := ⟨k, e⟩
theorem f_ok {r k a1} (H : f k a1 = some r) : Gw P 0 (Q r) (Px c0 1 []) (⟨6, [(0, .cv (.one (.int .i64 a1)))], []⟩) := by
  unfold f at H
  refine Rg V_ok 0 [] az (by kernel_rfl) ?_
  refine Rg V_ok 0 [] az (by kernel_rfl) ?_
  exact Lf (Eq.trans (by kernel_rfl) H)
theorem fits : Fits P 81 S := fits_of V_ok Go.Proofs.Tryd.func81 (by kernel_rfl) (by decide) (by decide) rfl (fun x r ⟨k, H⟩ => of_G (f_ok H))
end f_bits_bound
/-! ### function 72, wayfinder/bits.Mask -/
namespace f_bits_Mask
noncomputable def c0 : Code := (Go.Proofs.Tryd.f72.body).getD .skip
abbrev ps : Sg := [(false, (.int .i64))]
abbrev rs : Sg := [(false, (.int .i64))]
noncomputable def V : Env := { tt := tt, Γ := slk [(81, f_bits_bound.S)] }
theorem V_ok : EnvOk P V := { ck := tt_ck, fits := slk_cons f_bits_bound.fits (slk_nil), mixed := mixed }
abbrev R := Tup rs
noncomputable abbrev Q (r : R) : Exit → St → Prop := Qr tt Go.Proofs.Tryd.f72.results ⟨ps, rs, .any, none, fun _ _ => True⟩ r
noncomputable def f (k : Nat) (a1 : Int) : Option R :=
  (f_bits_bound.f k a1).bind fun y1 =>
    if 0 ≤ (IntKind.i64.wrap (32 - y1.1)) then
      some ((IntKind.i64.wrap (IntKind.u32.wrap (IntKind.u64.wrap (4294967295 * (2 ^ (min (IntKind.i64.wrap (32 - y1.1)).toNat (IntKind.u64.bits))))))), ())
    else none
noncomputable def S : Spec := ⟨ps, rs, .any, none, fun x r => ∃ k, f k x.1 = some r⟩
theorem rl {k a1 r} (e : f k a1 = some r) : S.rel (a1, ()) r := ⟨k, e⟩
theorem f_ok {r k a1} (H : f k a1 = some r) : Gw P 0 (Q r) (Px c0 1 []) (⟨11, [(0, .cv (.one (.int .i64 a1)))], []⟩) := by
  unfold f at H
  refine Rg V_ok 0 [] az (by kernel_rfl) ?_
  obtain ⟨y1, e2, H⟩ := of_bind H
  obtain ⟨n3, H⟩ := of_if H
  refine Rg V_ok 0 [(1, hr f_bits_bound.S y1)] (ac (f_bits_bound.rl e2) (ac n3 az)) (by kernel_rfl) ?_
  refine Rg V_ok 0 [] az (by kernel_rfl) ?_
  exact Lf (Eq.trans (by kernel_rfl) H)
theorem fits : Fits P 72 S := fits_of V_ok Go.Proofs.Tryd.func72 (by kernel_rfl) (by decide) (by decide) rfl (fun x r ⟨k, H⟩ => of_G (f_ok H))
end f_bits_Mask
/-! ### function 52, wayfinder/bits.May -/
namespace f_bits_May
noncomputable def c0 : Code := (Go.Proofs.Tryd.f52.body).getD .skip
abbrev ps : Sg := [(true, T713d)]
abbrev rs : Sg := [(false, .bool)]
noncomputable def V : Env := { tt := tt, Γ := slk [(72, f_bits_Mask.S)] }
theorem V_ok : EnvOk P V := { ck := tt_ck, fits := slk_cons f_bits_Mask.fits (slk_nil), mixed := mixed }
abbrev R := Tup rs
noncomputable abbrev Q (r : R) : Exit → St → Prop := Qr tt Go.Proofs.Tryd.f52.results ⟨ps, rs, .any, none, fun _ _ => True⟩ r
noncomputable def f (k : Nat) (a1 : T713d.T) : Option R :=
  if (decide (a1.2 ≥ (0 : Int))) = true then
    if (decide (a1.2 ≤ (32 : Int))) = true then
      if (decide (a1.1 ≥ (0 : Int))) = true then
        if (decide (a1.1 ≤ (4294967295 : Int))) = true then
          (f_bits_Mask.f k a1.2).bind fun y1 =>
            some (((IntKind.i64.wrap (((BitVec.ofInt IntKind.i64.bits a1.1 &&& ~~~ BitVec.ofInt IntKind.i64.bits y1.1).toNat : Int))) == (0 : Int)), ())
        else
          some (false, ())
      else
        some (false, ())
    else
      some (false, ())
  else
    some (false, ())
noncomputable def S : Spec := ⟨ps, rs, .any, none, fun x r => ∃ k, f k x.1 = some r⟩
theorem rl {k a1 r} (e : f k a1 = some r) : S.rel (a1, ()) r := ⟨k, e⟩
theorem f_ok {r k a1} (H : f k a1 = some r) : Gw P 0 (Q r) (Px c0 1 []) (⟨30, [(0, .cv (.agg [.int .i64 a1.1, .int .i64 a1.2]))], []⟩) := by
  unfold f at H
  refine Rg V_ok 1 [(0, hb 0)] az (by kernel_rfl) ?_
  rcases of_ite H with ⟨hb2, H⟩ | ⟨hb2, H⟩
  · rcases of_ite H with ⟨hb3, H⟩ | ⟨hb3, H⟩
    · rcases of_ite H with ⟨hb4, H⟩ | ⟨hb4, H⟩
      · rcases of_ite H with ⟨hb5, H⟩ | ⟨hb5, H⟩
        · obtain ⟨y1, e6, H⟩ := of_bind H
          refine Rg V_ok 0 [(2, {bv := some true}), (7, {bv := some true}), (12, {bv := some true}), (17, {bv := some true}), (23, hr f_bits_Mask.S y1)] (ac hb2 (ac hb3 (ac hb4 (ac hb5 (ac (f_bits_Mask.rl e6) az))))) (by kernel_rfl) ?_
          exact Lf (Eq.trans (by kernel_rfl) H)
        · refine Rg V_ok 0 [(2, {bv := some true}), (7, {bv := some true}), (12, {bv := some true}), (17, {bv := some false})] (ac hb2 (ac hb3 (ac hb4 (ac hb5 az)))) (by kernel_rfl) ?_
          exact Lf (Eq.trans (by kernel_rfl) H)
      · refine Rg V_ok 0 [(2, {bv := some true}), (7, {bv := some true}), (12, {bv := some false})] (ac hb2 (ac hb3 (ac hb4 az))) (by kernel_rfl) ?_
        exact Lf (Eq.trans (by kernel_rfl) H)
    · refine Rg V_ok 0 [(2, {bv := some true}), (7, {bv := some false})] (ac hb2 (ac hb3 az)) (by kernel_rfl) ?_
      exact Lf (Eq.trans (by kernel_rfl) H)
  · refine Rg V_ok 0 [(2, {bv := some false})] (ac hb2 az) (by kernel_rfl) ?_
    exact Lf (Eq.trans (by kernel_rfl) H)
theorem fits : Fits P 52 S := fits_of V_ok Go.Proofs.Tryd.func52 (by kernel_rfl) (by decide) (by decide) rfl (fun x r ⟨k, H⟩ => of_G (f_ok H))
end f_bits_May
/-! ### function 22, wayfinder/rule.May -/
namespace f_rule_May
noncomputable def c0 : Code := (Go.Proofs.Tryd.f22.body).getD .skip
abbrev ps : Sg := [(true, T1383)]
abbrev rs : Sg := [(false, .bool)]
noncomputable def V : Env := { tt := tt, Γ := slk [(52, f_bits_May.S)] }
theorem V_ok : EnvOk P V := { ck := tt_ck, fits := slk_cons f_bits_May.fits (slk_nil), mixed := mixed }
abbrev R := Tup rs
noncomputable abbrev Q (r : R) : Exit → St → Prop := Qr tt Go.Proofs.Tryd.f22.results ⟨ps, rs, .any, none, fun _ _ => True⟩ r
noncomputable def s1 (p1 : Bool) (p2 : T1383.T) : St := ⟨52, [(1, .cv (.one (.ptr 0 0))), (3, .cv (.one (.bool p1)))], [(.box 6, (encC .any T1383 p2))]⟩
noncomputable def j1 (k : Nat) (p1 : Bool) (p2 : T1383.T) : Option R :=
  if p1 = true then
  (f_bits_May.f k p2.1).bind fun y2 =>
    if y2.1 = true then
      if (decide (p2.2.1 ≥ (-1 : Int))) = true then
        if (decide (p2.2.1 ≤ (7 : Int))) = true then
          if (decide (p2.2.2.1 ≥ (0 : Int))) = true then
            some ((decide (p2.2.2.1 ≤ (255 : Int))), ())
          else
            some (false, ())
        else
          some (false, ())
      else
        some (false, ())
    else
      some (false, ())
else
  some (false, ())
theorem j1_ok {r} {k p1 p2} (H : j1 k p1 p2 = some r) : Gw P 0 (Q r) (Px c0 7 []) (s1 p1 p2) := by
  unfold j1 at H
  rcases of_ite H with ⟨hb3, H⟩ | ⟨hb3, H⟩
  · obtain ⟨y2, e4, H⟩ := of_bind H
    rcases of_ite H with ⟨hb5, H⟩ | ⟨hb5, H⟩
    · rcases of_ite H with ⟨hb6, H⟩ | ⟨hb6, H⟩
      · rcases of_ite H with ⟨hb7, H⟩ | ⟨hb7, H⟩
        · rcases of_ite H with ⟨hb8, H⟩ | ⟨hb8, H⟩
          · refine Rg V_ok 0 [(0, {bv := some true}), (4, hr f_bits_May.S y2), (5, {bv := some true}), (10, {bv := some true}), (15, {bv := some true}), (20, {bv := some true})] (ac hb3 (ac (f_bits_May.rl e4) (ac hb5 (ac hb6 (ac hb7 (ac hb8 az)))))) (by kernel_rfl) ?_
            exact Lf (Eq.trans (by kernel_rfl) H)
          · refine Rg V_ok 0 [(0, {bv := some true}), (4, hr f_bits_May.S y2), (5, {bv := some true}), (10, {bv := some true}), (15, {bv := some true}), (20, {bv := some false})] (ac hb3 (ac (f_bits_May.rl e4) (ac hb5 (ac hb6 (ac hb7 (ac hb8 az)))))) (by kernel_rfl) ?_
            exact Lf (Eq.trans (by kernel_rfl) H)
        · refine Rg V_ok 0 [(0, {bv := some true}), (4, hr f_bits_May.S y2), (5, {bv := some true}), (10, {bv := some true}), (15, {bv := some false})] (ac hb3 (ac (f_bits_May.rl e4) (ac hb5 (ac hb6 (ac hb7 az))))) (by kernel_rfl) ?_
          exact Lf (Eq.trans (by kernel_rfl) H)
      · refine Rg V_ok 0 [(0, {bv := some true}), (4, hr f_bits_May.S y2), (5, {bv := some true}), (10, {bv := some false})] (ac hb3 (ac (f_bits_May.rl e4) (ac hb5 (ac hb6 az)))) (by kernel_rfl) ?_
        exact Lf (Eq.trans (by kernel_rfl) H)
    · refine Rg V_ok 0 [(0, {bv := some true}), (4, hr f_bits_May.S y2), (5, {bv := some false})] (ac hb3 (ac (f_bits_May.rl e4) (ac hb5 az))) (by kernel_rfl) ?_
      exact Lf (Eq.trans (by kernel_rfl) H)
  · refine Rg V_ok 0 [(0, {bv := some false})] (ac hb3 az) (by kernel_rfl) ?_
    exact Lf (Eq.trans (by kernel_rfl) H)
noncomputable def f (k : Nat) (a1 : T1383.T) : Option R :=
  if ((a1.2.2.2.1 == (0 : Int)) && ((a1.2.2.2.2 == (0 : Int)) && true)) = true then
    j1 k true a1
  else
    if (a1.2.2.2.1 == (1 : Int)) = true then
      if (decide (a1.2.2.2.2 ≥ (0 : Int))) = true then
        j1 k (decide (a1.2.2.2.2 ≤ (7 : Int))) a1
      else
        j1 k false a1
    else
      j1 k false a1
noncomputable def S : Spec := ⟨ps, rs, .any, none, fun x r => ∃ k, f k x.1 = some r⟩
theorem rl {k a1 r} (e : f k a1 = some r) : S.rel (a1, ()) r := ⟨k, e⟩
theorem f_ok {r k a1} (H : f k a1 = some r) : Gw P 0 (Q r) (Px c0 1 []) (⟨52, [(0, .cv (.agg (encC .any T1383 a1)))], []⟩) := by
  unfold f at H
  refine Rg V_ok 1 [(0, hb 0)] az (by kernel_rfl) ?_
  rcases of_ite H with ⟨hb1, H⟩ | ⟨hb1, H⟩
  · refine Rg V_ok 0 [(3, {bv := some true})] (ac hb1 az) (by kernel_rfl) ?_
    exact Jm {fz := [], gr := 0, ad := [], live := [1, 3], src := [some 0]} (by kernel_rfl) (by kernel_rfl) (j1_ok H)
  · rcases of_ite H with ⟨hb9, H⟩ | ⟨hb9, H⟩
    · rcases of_ite H with ⟨hb10, H⟩ | ⟨hb10, H⟩
      · refine Rg V_ok 0 [(3, {bv := some false}), (8, {bv := some true}), (14, {bv := some true})] (ac hb1 (ac hb9 (ac hb10 az))) (by kernel_rfl) ?_
        exact Jm {fz := [], gr := 0, ad := [], live := [1, 3], src := [some 0]} (by kernel_rfl) (by kernel_rfl) (j1_ok H)
      · refine Rg V_ok 0 [(3, {bv := some false}), (8, {bv := some true}), (14, {bv := some false})] (ac hb1 (ac hb9 (ac hb10 az))) (by kernel_rfl) ?_
        exact Jm {fz := [], gr := 0, ad := [], live := [1, 3], src := [some 0]} (by kernel_rfl) (by kernel_rfl) (j1_ok H)
    · refine Rg V_ok 0 [(3, {bv := some false}), (8, {bv := some false})] (ac hb1 (ac hb9 az)) (by kernel_rfl) ?_
      exact Jm {fz := [], gr := 0, ad := [], live := [1, 3], src := [some 0]} (by kernel_rfl) (by kernel_rfl) (j1_ok H)
theorem fits : Fits P 22 S := fits_of V_ok Go.Proofs.Tryd.func22 (by kernel_rfl) (by decide) (by decide) rfl (fun x r ⟨k, H⟩ => of_G (f_ok H))
end f_rule_May
/-! ### function 77, (wayfinder/msg.bounds).in -/
namespace f_msg_bounds_in
noncomputable def c0 : Code := (Go.Proofs.Tryd.f77.body).getD .skip
abbrev ps : Sg := [(true, T713d), (false, (.int .i64))]
abbrev rs : Sg := [(false, .bool)]
noncomputable def V : Env := { tt := tt, Γ := slk [] }
theorem V_ok : EnvOk P V := { ck := tt_ck, fits := slk_nil, mixed := mixed }
abbrev R := Tup rs
noncomputable abbrev Q (r : R) : Exit → St → Prop := Qr tt Go.Proofs.Tryd.f77.results ⟨ps, rs, .any, none, fun _ _ => True⟩ r
noncomputable def f (k : Nat) (a1 : T713d.T) (a2 : Int) : Option R :=
  if (decide (a2 ≥ a1.1)) = true then
    some ((decide (a2 ≤ a1.2)), ())
  else
    some (false, ())
noncomputable def S : Spec := ⟨ps, rs, .any, none, fun x r => ∃ k, f k x.1 x.2.1 = some r⟩
theorem rl {k a1 a2 r} (e : f k a1 a2 = some r) : S.rel (a1, a2, ()) r := ⟨k, e⟩
theorem f_ok {r k a1 a2} (H : f k a1 a2 = some r) : Gw P 0 (Q r) (Px c0 1 []) (⟨15, [(0, .cv (.agg [.int .i64 a1.1, .int .i64 a1.2])), (1, .cv (.one (.int .i64 a2)))], []⟩) := by
  unfold f at H
  refine Rg V_ok 1 [(0, hb 0)] az (by kernel_rfl) ?_
  rcases of_ite H with ⟨hb1, H⟩ | ⟨hb1, H⟩
  · refine Rg V_ok 0 [(3, {bv := some true})] (ac hb1 az) (by kernel_rfl) ?_
    exact Lf (Eq.trans (by kernel_rfl) H)
  · refine Rg V_ok 0 [(3, {bv := some false})] (ac hb1 az) (by kernel_rfl) ?_
    exact Lf (Eq.trans (by kernel_rfl) H)
theorem fits : Fits P 77 S := fits_of V_ok Go.Proofs.Tryd.func77 (by kernel_rfl) (by decide) (by decide) rfl (fun x r ⟨k, H⟩ => of_G (f_ok H))
end f_msg_bounds_in
/-! ### function 57, wayfinder/msg.May -/
namespace f_msg_May
noncomputable def c0 : Code := (Go.Proofs.Tryd.f57.body).getD .skip
abbrev ps : Sg := [(true, T4414)]
abbrev rs : Sg := [(false, .bool)]
noncomputable def V : Env := { tt := tt, Γ := slk [(22, f_rule_May.S), (77, f_msg_bounds_in.S)] }
theorem V_ok : EnvOk P V := { ck := tt_ck, fits := slk_cons f_rule_May.fits (slk_cons f_msg_bounds_in.fits (slk_nil)), mixed := mixed }
abbrev R := Tup rs
noncomputable abbrev Q (r : R) : Exit → St → Prop := Qr tt Go.Proofs.Tryd.f57.results ⟨ps, rs, .any, none, fun _ _ => True⟩ r
noncomputable def s1 (p1 : Bool) (p2 : T4414.T) : St := ⟨47, [(1, .cv (.one (.ptr 0 0))), (12, .cv (.one (.bool p1)))], [(.box 10, (encC .any T4414 p2))]⟩
noncomputable def s2 (p1 : Bool) (p2 : T4414.T) (p3 : Ta655.T) : St := ⟨47, [(1, .cv (.one (.ptr 0 0))), (3, .cv (.one (.ptr 1 0))), (4, .cv (.one (.bool p1)))], [(.box 10, (encC .any T4414 p2)), (.box 5, (encC .any Ta655 p3))]⟩
noncomputable def j2 (k : Nat) (p1 : Bool) (p2 : T4414.T) (p3 : Ta655.T) : Option R :=
  if p1 = true then
  (f_msg_bounds_in.f k (1, 1048576) p2.2.1).bind fun y8 =>
    if y8.1 = true then
      (f_msg_bounds_in.f k p3.1 p2.2.2.1).bind fun y9 =>
        if y9.1 = true then
          (f_msg_bounds_in.f k p3.2.1 p2.2.2.2.1).bind fun y10 =>
            some (y10.1, ())
        else
          some (false, ())
    else
      some (false, ())
else
  some (false, ())
theorem j2_ok {r} {k p1 p2 p3} (H : j2 k p1 p2 p3 = some r) : Gw P 0 (Q r) (Px c0 63 []) (s2 p1 p2 p3) := by
  unfold j2 at H
  rcases of_ite H with ⟨hb11, H⟩ | ⟨hb11, H⟩
  · obtain ⟨y8, e12, H⟩ := of_bind H
    rcases of_ite H with ⟨hb13, H⟩ | ⟨hb13, H⟩
    · obtain ⟨y9, e14, H⟩ := of_bind H
      rcases of_ite H with ⟨hb15, H⟩ | ⟨hb15, H⟩
      · obtain ⟨y10, e16, H⟩ := of_bind H
        refine Rg V_ok 0 [(0, {bv := some true}), (5, hr f_msg_bounds_in.S y8), (6, {bv := some true}), (12, hr f_msg_bounds_in.S y9), (13, {bv := some true}), (19, hr f_msg_bounds_in.S y10)] (ac hb11 (ac (f_msg_bounds_in.rl e12) (ac hb13 (ac (f_msg_bounds_in.rl e14) (ac hb15 (ac (f_msg_bounds_in.rl e16) az)))))) (by kernel_rfl) ?_
        exact Lf (Eq.trans (by kernel_rfl) H)
      · refine Rg V_ok 0 [(0, {bv := some true}), (5, hr f_msg_bounds_in.S y8), (6, {bv := some true}), (12, hr f_msg_bounds_in.S y9), (13, {bv := some false})] (ac hb11 (ac (f_msg_bounds_in.rl e12) (ac hb13 (ac (f_msg_bounds_in.rl e14) (ac hb15 az))))) (by kernel_rfl) ?_
        exact Lf (Eq.trans (by kernel_rfl) H)
    · refine Rg V_ok 0 [(0, {bv := some true}), (5, hr f_msg_bounds_in.S y8), (6, {bv := some false})] (ac hb11 (ac (f_msg_bounds_in.rl e12) (ac hb13 az))) (by kernel_rfl) ?_
      exact Lf (Eq.trans (by kernel_rfl) H)
  · refine Rg V_ok 0 [(0, {bv := some false})] (ac hb11 az) (by kernel_rfl) ?_
    exact Lf (Eq.trans (by kernel_rfl) H)
noncomputable def j1 (k : Nat) (p1 : Bool) (p2 : T4414.T) : Option R :=
  if p1 = true then
  some (false, ())
else
  if 0 ≤ p2.1 then
    if p2.1 < (6 : Int) then
      if ((att Ta655 glob0 p2.1).2).2 = true then
        (f_rule_May.f k p2.2.2.2.2).bind fun y6 =>
          j2 k y6.1 p2 (att Ta655 glob0 p2.1)
      else
        j2 k ((p2.2.2.2.2.1.1 == (0 : Int)) && ((p2.2.2.2.2.1.2 == (0 : Int)) && ((p2.2.2.2.2.2.1 == (0 : Int)) && ((p2.2.2.2.2.2.2.1 == (0 : Int)) && ((p2.2.2.2.2.2.2.2.1 == (0 : Int)) && ((p2.2.2.2.2.2.2.2.2 == (0 : Int)) && true)))))) p2 (att Ta655 glob0 p2.1)
    else none
  else none
theorem j1_ok {r} {k p1 p2} (H : j1 k p1 p2 = some r) : Gw P 0 (Q r) (Px c0 13 []) (s1 p1 p2) := by
  unfold j1 at H
  rcases of_ite H with ⟨hb2, H⟩ | ⟨hb2, H⟩
  · refine C1 hb2 (by kernel_rfl) ?_
    refine Rg V_ok 0 [] az (by kernel_rfl) ?_
    exact Lf (Eq.trans (by kernel_rfl) H)
  · refine C0 hb2 (by kernel_rfl) ?_
    obtain ⟨n3, H⟩ := of_if H
    obtain ⟨n4, H⟩ := of_if H
    refine Rg V_ok 1 [(4, hb 1)] (ac n3 (ac n4 az)) (by kernel_rfl) ?_
    refine Rg V_ok 0 [] az (by kernel_rfl) ?_
    refine Rg V_ok 0 [] az (by kernel_rfl) ?_
    rcases of_ite H with ⟨hb5, H⟩ | ⟨hb5, H⟩
    · refine C1 hb5 (by kernel_rfl) ?_
      obtain ⟨y6, e7, H⟩ := of_bind H
      refine Rg V_ok 0 [(2, hr f_rule_May.S y6)] (ac (f_rule_May.rl e7) az) (by kernel_rfl) ?_
      exact Jm {fz := [], gr := 0, ad := [], live := [1, 3, 4], src := [some 0, some 1]} (by kernel_rfl) (by kernel_rfl) (j2_ok H)
    · refine C0 hb5 (by kernel_rfl) ?_
      exact Jm {fz := [], gr := 0, ad := [], live := [1, 3, 4], src := [some 0, some 1]} (by kernel_rfl) (by kernel_rfl) (j2_ok H)
noncomputable def f (k : Nat) (a1 : T4414.T) : Option R :=
  if (decide (a1.1 < (0 : Int))) = true then
    j1 k true a1
  else
    j1 k (decide (a1.1 ≥ (6 : Int))) a1
noncomputable def S : Spec := ⟨ps, rs, .any, none, fun x r => ∃ k, f k x.1 = some r⟩
theorem rl {k a1 r} (e : f k a1 = some r) : S.rel (a1, ()) r := ⟨k, e⟩
theorem f_ok {r k a1} (H : f k a1 = some r) : Gw P 0 (Q r) (Px c0 1 []) (⟨47, [(0, .cv (.agg (encC .any T4414 a1)))], []⟩) := by
  unfold f at H
  refine Rg V_ok 1 [(0, hb 0)] az (by kernel_rfl) ?_
  rcases of_ite H with ⟨hb1, H⟩ | ⟨hb1, H⟩
  · refine Rg V_ok 0 [(2, {bv := some true})] (ac hb1 az) (by kernel_rfl) ?_
    exact Jm {fz := [], gr := 0, ad := [], live := [1, 12], src := [some 0]} (by kernel_rfl) (by kernel_rfl) (j1_ok H)
  · refine Rg V_ok 0 [(2, {bv := some false})] (ac hb1 az) (by kernel_rfl) ?_
    exact Jm {fz := [], gr := 0, ad := [], live := [1, 12], src := [some 0]} (by kernel_rfl) (by kernel_rfl) (j1_ok H)
theorem fits : Fits P 57 S := fits_of V_ok Go.Proofs.Tryd.func57 (by kernel_rfl) (by decide) (by decide) rfl (fun x r ⟨k, H⟩ => of_G (f_ok H))
end f_msg_May
/-! ### function 83, wayfinder/octets.may -/
namespace f_octets_may
noncomputable def c0 : Code := (Go.Proofs.Tryd.f83.body).getD .skip
abbrev ps : Sg := [(false, (.int .i64))]
abbrev rs : Sg := [(false, .bool)]
noncomputable def V : Env := { tt := tt, Γ := slk [] }
theorem V_ok : EnvOk P V := { ck := tt_ck, fits := slk_nil, mixed := mixed }
abbrev R := Tup rs
noncomputable abbrev Q (r : R) : Exit → St → Prop := Qr tt Go.Proofs.Tryd.f83.results ⟨ps, rs, .any, none, fun _ _ => True⟩ r
noncomputable def f (k : Nat) (a1 : Int) : Option R :=
  if (decide (a1 ≥ (1 : Int))) = true then
    some ((decide (a1 ≤ (4 : Int))), ())
  else
    some (false, ())
noncomputable def S : Spec := ⟨ps, rs, .any, none, fun x r => ∃ k, f k x.1 = some r⟩
theorem rl {k a1 r} (e : f k a1 = some r) : S.rel (a1, ()) r := ⟨k, e⟩
theorem f_ok {r k a1} (H : f k a1 = some r) : Gw P 0 (Q r) (Px c0 1 []) (⟨9, [(0, .cv (.one (.int .i64 a1)))], []⟩) := by
  unfold f at H
  refine Rg V_ok 0 [] az (by kernel_rfl) ?_
  rcases of_ite H with ⟨hb1, H⟩ | ⟨hb1, H⟩
  · refine Rg V_ok 0 [(1, {bv := some true})] (ac hb1 az) (by kernel_rfl) ?_
    exact Lf (Eq.trans (by kernel_rfl) H)
  · refine Rg V_ok 0 [(1, {bv := some false})] (ac hb1 az) (by kernel_rfl) ?_
    exact Lf (Eq.trans (by kernel_rfl) H)
theorem fits : Fits P 83 S := fits_of V_ok Go.Proofs.Tryd.func83 (by kernel_rfl) (by decide) (by decide) rfl (fun x r ⟨k, H⟩ => of_G (f_ok H))
end f_octets_may
/-! ### function 78, wayfinder/octets.Put -/
namespace f_octets_Put
noncomputable def c0 : Code := (Go.Proofs.Tryd.f78.body).getD .skip
abbrev ps : Sg := [(false, (.int .i64)), (false, (.int .i64))]
abbrev rs : Sg := [(false, (.slice (.int .u8))), (false, (.int .i64))]
noncomputable def V : Env := { tt := tt, Γ := slk [(83, f_octets_may.S)] }
theorem V_ok : EnvOk P V := { ck := tt_ck, fits := slk_cons f_octets_may.fits (slk_nil), mixed := mixed }
abbrev R := Tup rs
noncomputable abbrev Q (r : R) : Exit → St → Prop := Qr tt Go.Proofs.Tryd.f78.results ⟨ps, rs, .any, none, fun _ _ => True⟩ r
noncomputable def s1 (p1 : Int) (p2 : Int) (p3 : Bool) : St := ⟨42, [(0, .cv (.one (.int .i64 p1))), (1, .cv (.one (.int .i64 p2))), (21, .cv (.one (.bool p3)))], []⟩
noncomputable def s2 (p1 : Int) (p2 : Int) (p3 : Int) (p4 : Int) (p5 : List Int) : St := ⟨42, [(0, .cv (.one (.int .i64 p1))), (1, .cv (.one (.int .i64 p2))), (6, .cv (.one (.own 0))), (25, .cv (.one (.int .i64 p3))), (26, .cv (.one (.int .i64 p4)))], [(.buf 5 (.int .u8) p5, [])]⟩
noncomputable def b2 (L2 : Int → Int → Int → Int → List Int → Option R) (k : Nat) (p1 : Int) (p2 : Int) (p3 : Int) (p4 : Int) (p5 : List Int) : Option R :=
  if (decide (p4 < p3)) = true then
  if 0 ≤ (IntKind.i64.wrap (8 * (IntKind.i64.wrap ((IntKind.i64.wrap (p2 - 1)) - p4)))) then
    if 0 ≤ p4 then
      if p4 < (p5.length : Int) then
        L2 p1 p2 p3 (IntKind.i64.wrap (p4 + 1)) (p5.set p4.toNat (IntKind.u8.wrap (Int.fdiv p1 (2 ^ (min (IntKind.i64.wrap (8 * (IntKind.i64.wrap ((IntKind.i64.wrap (p2 - 1)) - p4)))).toNat (IntKind.i64.bits))))))
      else none
    else none
  else none
else
  some (p5, ((0 : Int), ()))
theorem b2_ok {r} {L2 : Int → Int → Int → Int → List Int → Option R} {m2 : Nat} (hL2 : ∀ p1 p2 p3 p4 p5, L2 p1 p2 p3 p4 p5 = some r → Gw P 0 (Q r) (Pb c0 87 [] m2) (s2 p1 p2 p3 p4 p5)) {k p1 p2 p3 p4 p5} (H : b2 L2 k p1 p2 p3 p4 p5 = some r) : Gw P 0 (Q r) (Px c0 151 [m2]) (s2 p1 p2 p3 p4 p5) := by
  unfold b2 at H
  refine Rg V_ok 0 [] az (by kernel_rfl) ?_
  rcases of_ite H with ⟨hb6, H⟩ | ⟨hb6, H⟩
  · refine C1 hb6 (by kernel_rfl) ?_
    refine Rg V_ok 0 [] az (by kernel_rfl) ?_
    obtain ⟨n7, H⟩ := of_if H
    obtain ⟨n8, H⟩ := of_if H
    obtain ⟨n9, H⟩ := of_if H
    refine Rg V_ok 0 [] (ac n7 (ac n8 (ac n9 az))) (by kernel_rfl) ?_
    refine Rg V_ok 0 [] az (by kernel_rfl) ?_
    exact Jm {fz := [], gr := 0, ad := [], live := [0, 1, 6, 25, 26], src := [some 0]} (by kernel_rfl) (by kernel_rfl) (hL2 p1 p2 p3 (IntKind.i64.wrap (p4 + 1)) (p5.set p4.toNat (IntKind.u8.wrap (Int.fdiv p1 (2 ^ (min (IntKind.i64.wrap (8 * (IntKind.i64.wrap ((IntKind.i64.wrap (p2 - 1)) - p4)))).toNat (IntKind.i64.bits)))))) H)
  · refine C0 hb6 (by kernel_rfl) ?_
    refine Rg V_ok 0 [] az (by kernel_rfl) ?_
    exact Lf (Eq.trans (by kernel_rfl) H)
noncomputable def l2 (k : Nat) : Nat → Int → Int → Int → Int → List Int → Option R
  | 0, _, _, _, _, _ => none
  | m + 1, p1, p2, p3, p4, p5 => b2 (l2 k m) k p1 p2 p3 p4 p5
theorem l2_ok {r} (k : Nat) : ∀ (m2 : Nat) (p1 : Int) (p2 : Int) (p3 : Int) (p4 : Int) (p5 : List Int), l2 k m2 p1 p2 p3 p4 p5 = some r → Gw P 0 (Q r) (Pb c0 87 [] m2) (s2 p1 p2 p3 p4 p5)
  | 0, _, _, _, _, _, H => by cases H
  | m2 + 1, p1, p2, p3, p4, p5, H => SU (by kernel_rfl) (b2_ok (l2_ok k m2) H)
noncomputable def j1 (k : Nat) (p1 : Int) (p2 : Int) (p3 : Bool) : Option R :=
  if p3 = true then
  some ([], ((1 : Int), ()))
else
  if 0 ≤ p2 ∧ p2 = p2 ∧ (1 : Int) * p2 ≤ 140737488355328 ∧ p2 ≤ 140737488355328 then
    l2 k k p1 p2 ((List.replicate p2.toNat (0 : Int)).length : Int) 0 (List.replicate p2.toNat (0 : Int))
  else none
theorem j1_ok {r} {k p1 p2 p3} (H : j1 k p1 p2 p3 = some r) : Gw P 0 (Q r) (Px c0 13 []) (s1 p1 p2 p3) := by
  unfold j1 at H
  rcases of_ite H with ⟨hb4, H⟩ | ⟨hb4, H⟩
  · refine C1 hb4 (by kernel_rfl) ?_
    refine Rg V_ok 0 [] az (by kernel_rfl) ?_
    exact Lf (Eq.trans (by kernel_rfl) H)
  · refine C0 hb4 (by kernel_rfl) ?_
    obtain ⟨n5, H⟩ := of_if H
    refine Rg V_ok 1 [(1, hb 0)] (ac n5 az) (by kernel_rfl) ?_
    refine Rg V_ok 0 [] az (by kernel_rfl) ?_
    exact LP k (Jm {fz := [], gr := 0, ad := [], live := [0, 1, 6, 25, 26], src := [some 0]} (by kernel_rfl) (by kernel_rfl) (l2_ok k k p1 p2 ((List.replicate p2.toNat (0 : Int)).length : Int) 0 (List.replicate p2.toNat (0 : Int)) H))
noncomputable def f (k : Nat) (a1 : Int) (a2 : Int) : Option R :=
  (f_octets_may.f k a2).bind fun y1 =>
    if (!y1.1) = true then
      j1 k a1 a2 true
    else
      if (decide (a1 < (0 : Int))) = true then
        j1 k a1 a2 true
      else
        if 0 ≤ (IntKind.i64.wrap (8 * a2)) then
          j1 k a1 a2 ((Int.fdiv a1 (2 ^ (min (IntKind.i64.wrap (8 * a2)).toNat (IntKind.i64.bits)))) != (0 : Int))
        else none
noncomputable def S : Spec := ⟨ps, rs, .any, none, fun x r => ∃ k, f k x.1 x.2.1 = some r⟩
theorem rl {k a1 a2 r} (e : f k a1 a2 = some r) : S.rel (a1, a2, ()) r := ⟨k, e⟩
theorem f_ok {r k a1 a2} (H : f k a1 a2 = some r) : Gw P 0 (Q r) (Px c0 1 []) (⟨42, [(0, .cv (.one (.int .i64 a1))), (1, .cv (.one (.int .i64 a2)))], []⟩) := by
  unfold f at H
  refine Rg V_ok 0 [] az (by kernel_rfl) ?_
  obtain ⟨y1, e2, H⟩ := of_bind H
  rcases of_ite H with ⟨hb3, H⟩ | ⟨hb3, H⟩
  · refine Rg V_ok 0 [(1, hr f_octets_may.S y1), (2, {bv := some true})] (ac (f_octets_may.rl e2) (ac hb3 az)) (by kernel_rfl) ?_
    exact Jm {fz := [], gr := 0, ad := [], live := [0, 1, 21], src := []} (by kernel_rfl) (by kernel_rfl) (j1_ok H)
  · rcases of_ite H with ⟨hb10, H⟩ | ⟨hb10, H⟩
    · refine Rg V_ok 0 [(1, hr f_octets_may.S y1), (2, {bv := some false}), (6, {bv := some true})] (ac (f_octets_may.rl e2) (ac hb3 (ac hb10 az))) (by kernel_rfl) ?_
      exact Jm {fz := [], gr := 0, ad := [], live := [0, 1, 21], src := []} (by kernel_rfl) (by kernel_rfl) (j1_ok H)
    · obtain ⟨n11, H⟩ := of_if H
      refine Rg V_ok 0 [(1, hr f_octets_may.S y1), (2, {bv := some false}), (6, {bv := some false})] (ac (f_octets_may.rl e2) (ac hb3 (ac hb10 (ac n11 az)))) (by kernel_rfl) ?_
      exact Jm {fz := [], gr := 0, ad := [], live := [0, 1, 21], src := []} (by kernel_rfl) (by kernel_rfl) (j1_ok H)
theorem fits : Fits P 78 S := fits_of V_ok Go.Proofs.Tryd.func78 (by kernel_rfl) (by decide) (by decide) rfl (fun x r ⟨k, H⟩ => of_G (f_ok H))
end f_octets_Put
/-! ### function 58, wayfinder/octets.PutAll -/
namespace f_octets_PutAll
noncomputable def c0 : Code := (Go.Proofs.Tryd.f58.body).getD .skip
abbrev ps : Sg := [(false, (.slice (.int .i64))), (false, (.slice (.int .i64)))]
abbrev rs : Sg := [(false, (.slice (.int .u8))), (false, (.int .i64))]
noncomputable def V : Env := { tt := tt, Γ := slk [(78, f_octets_Put.S)] }
theorem V_ok : EnvOk P V := { ck := tt_ck, fits := slk_cons f_octets_Put.fits (slk_nil), mixed := mixed }
abbrev R := Tup rs
noncomputable abbrev Q (r : R) : Exit → St → Prop := Qr tt Go.Proofs.Tryd.f58.results ⟨ps, rs, .any, none, fun _ _ => True⟩ r
noncomputable def s1 (p1 : List Int) (p2 : List Int) (p3 : Int) (p4 : Int) (p5 : List Int) : St := ⟨40, [(1, .cv (.one (.sl (.int .i64) p1 .any))), (6, .cv (.one (.own 0))), (16, .cv (.one (.sl (.int .i64) p2 .any))), (17, .cv (.one (.int .i64 p3))), (18, .cv (.one (.int .i64 p4)))], [(.buf 5 (.int .u8) p5, [])]⟩
noncomputable def b1 (L1 : List Int → List Int → Int → Int → List Int → Option R) (k : Nat) (p1 : List Int) (p2 : List Int) (p3 : Int) (p4 : Int) (p5 : List Int) : Option R :=
  if (decide (p4 < p3)) = true then
  if 0 ≤ p4 then
    if p4 < (p2.length : Int) then
      if p4 < (p1.length : Int) then
        (f_octets_Put.f k (att (.int .i64) p2 p4) (att (.int .i64) p1 p4)).bind fun y5 =>
          if (y5.2.1 != (0 : Int)) = true then
            some ([], (y5.2.1, ()))
          else
            if (p5.length + y5.1.length) * 1 ≤ 140737488355328 then
              L1 p1 p2 p3 (IntKind.i64.wrap (p4 + 1)) (p5 ++ y5.1)
            else none
      else none
    else none
  else none
else
  some (p5, ((0 : Int), ()))
theorem b1_ok {r} {L1 : List Int → List Int → Int → Int → List Int → Option R} {m1 : Nat} (hL1 : ∀ p1 p2 p3 p4 p5, L1 p1 p2 p3 p4 p5 = some r → Gw P 0 (Q r) (Pb c0 87 [] m1) (s1 p1 p2 p3 p4 p5)) {k p1 p2 p3 p4 p5} (H : b1 L1 k p1 p2 p3 p4 p5 = some r) : Gw P 0 (Q r) (Px c0 151 [m1]) (s1 p1 p2 p3 p4 p5) := by
  unfold b1 at H
  refine Rg V_ok 0 [] az (by kernel_rfl) ?_
  rcases of_ite H with ⟨hb2, H⟩ | ⟨hb2, H⟩
  · refine C1 hb2 (by kernel_rfl) ?_
    obtain ⟨n3, H⟩ := of_if H
    obtain ⟨n4, H⟩ := of_if H
    refine Rg V_ok 0 [] (ac n3 (ac n4 az)) (by kernel_rfl) ?_
    obtain ⟨n6, H⟩ := of_if H
    obtain ⟨y5, e7, H⟩ := of_bind H
    refine Rg V_ok 0 [(5, hr f_octets_Put.S y5)] (ac n3 (ac n6 (ac (f_octets_Put.rl e7) az))) (by kernel_rfl) ?_
    refine Rg V_ok 0 [] az (by kernel_rfl) ?_
    rcases of_ite H with ⟨hb8, H⟩ | ⟨hb8, H⟩
    · refine C1 hb8 (by kernel_rfl) ?_
      refine Rg V_ok 0 [] az (by kernel_rfl) ?_
      exact Lf (Eq.trans (by kernel_rfl) H)
    · refine C0 hb8 (by kernel_rfl) ?_
      obtain ⟨n9, H⟩ := of_if H
      refine Rg V_ok 1 [(2, hb 1)] (ac n9 az) (by kernel_rfl) ?_
      refine Rg V_ok 0 [] az (by kernel_rfl) ?_
      exact Jm {fz := [], gr := 0, ad := [], live := [1, 6, 16, 17, 18], src := [some 1]} (by kernel_rfl) (by kernel_rfl) (hL1 p1 p2 p3 (IntKind.i64.wrap (p4 + 1)) (p5 ++ y5.1) H)
  · refine C0 hb2 (by kernel_rfl) ?_
    refine Rg V_ok 0 [] az (by kernel_rfl) ?_
    exact Lf (Eq.trans (by kernel_rfl) H)
noncomputable def l1 (k : Nat) : Nat → List Int → List Int → Int → Int → List Int → Option R
  | 0, _, _, _, _, _ => none
  | m + 1, p1, p2, p3, p4, p5 => b1 (l1 k m) k p1 p2 p3 p4 p5
theorem l1_ok {r} (k : Nat) : ∀ (m1 : Nat) (p1 : List Int) (p2 : List Int) (p3 : Int) (p4 : Int) (p5 : List Int), l1 k m1 p1 p2 p3 p4 p5 = some r → Gw P 0 (Q r) (Pb c0 87 [] m1) (s1 p1 p2 p3 p4 p5)
  | 0, _, _, _, _, _, H => by cases H
  | m1 + 1, p1, p2, p3, p4, p5, H => SU (by kernel_rfl) (b1_ok (l1_ok k m1) H)
noncomputable def f (k : Nat) (a1 : List Int) (a2 : List Int) : Option R :=
  if ((a1.length : Int) != (a2.length : Int)) = true then
    some ([], ((1 : Int), ()))
  else
    l1 k k a2 a1 (a1.length : Int) 0 []
noncomputable def S : Spec := ⟨ps, rs, .any, none, fun x r => ∃ k, f k x.1 x.2.1 = some r⟩
theorem rl {k a1 a2 r} (e : f k a1 a2 = some r) : S.rel (a1, a2, ()) r := ⟨k, e⟩
theorem f_ok {r k a1 a2} (H : f k a1 a2 = some r) : Gw P 0 (Q r) (Px c0 1 []) (⟨40, [(0, .cv (.one (.sl (.int .i64) a1 .any))), (1, .cv (.one (.sl (.int .i64) a2 .any)))], []⟩) := by
  unfold f at H
  refine Rg V_ok 0 [] az (by kernel_rfl) ?_
  refine Rg V_ok 0 [] az (by kernel_rfl) ?_
  rcases of_ite H with ⟨hb1, H⟩ | ⟨hb1, H⟩
  · refine C1 hb1 (by kernel_rfl) ?_
    refine Rg V_ok 0 [] az (by kernel_rfl) ?_
    exact Lf (Eq.trans (by kernel_rfl) H)
  · refine C0 hb1 (by kernel_rfl) ?_
    refine Rg V_ok 0 [] az (by kernel_rfl) ?_
    refine Rg V_ok 0 [] az (by kernel_rfl) ?_
    exact LP k (Jm {fz := [], gr := 1, ad := [.ownT 6 0 5 (.int .u8)], live := [1, 6, 16, 17, 18], src := [some 0]} (by kernel_rfl) (by kernel_rfl) (l1_ok k k a2 a1 (a1.length : Int) 0 [] H))
theorem fits : Fits P 58 S := fits_of V_ok Go.Proofs.Tryd.func58 (by kernel_rfl) (by decide) (by decide) rfl (fun x r ⟨k, H⟩ => of_G (f_ok H))
end f_octets_PutAll
/-! ### function 78, wayfinder/octets.Put, whose answer is then the caller's own -/
namespace f_octets_PutO
noncomputable def c0 : Code := (Go.Proofs.Tryd.f78.body).getD .skip
abbrev ps : Sg := [(false, (.int .i64)), (false, (.int .i64))]
abbrev rs : Sg := [(false, .slice (.int .u8)), (false, .int .i64)]
noncomputable def V : Env := { tt := tt, Γ := slk [(83, f_octets_may.S)] }
theorem V_ok : EnvOk P V := { ck := tt_ck, fits := slk_cons f_octets_may.fits (slk_nil), mixed := mixed }
abbrev R := Tup rs
noncomputable abbrev Q (r : R) : Exit → St → Prop := QrO2 Go.Proofs.Tryd.f78.results 5 (.int .u8) .i64 r
noncomputable def s1 (p1 : Int) (p2 : Int) (p3 : Bool) : St := ⟨42, [(0, .cv (.one (.int .i64 p1))), (1, .cv (.one (.int .i64 p2))), (21, .cv (.one (.bool p3)))], []⟩
noncomputable def s2 (p1 : Int) (p2 : Int) (p3 : Int) (p4 : Int) (p5 : List Int) : St := ⟨42, [(0, .cv (.one (.int .i64 p1))), (1, .cv (.one (.int .i64 p2))), (6, .cv (.one (.own 0))), (25, .cv (.one (.int .i64 p3))), (26, .cv (.one (.int .i64 p4)))], [(.buf 5 (.int .u8) p5, [])]⟩
noncomputable def b2 (L2 : Int → Int → Int → Int → List Int → Option R) (k : Nat) (p1 : Int) (p2 : Int) (p3 : Int) (p4 : Int) (p5 : List Int) : Option R :=
  if (decide (p4 < p3)) = true then
  if 0 ≤ (IntKind.i64.wrap (8 * (IntKind.i64.wrap ((IntKind.i64.wrap (p2 - 1)) - p4)))) then
    if 0 ≤ p4 then
      if p4 < (p5.length : Int) then
        L2 p1 p2 p3 (IntKind.i64.wrap (p4 + 1)) (p5.set p4.toNat (IntKind.u8.wrap (Int.fdiv p1 (2 ^ (min (IntKind.i64.wrap (8 * (IntKind.i64.wrap ((IntKind.i64.wrap (p2 - 1)) - p4)))).toNat (IntKind.i64.bits))))))
      else none
    else none
  else none
else
  some (p5, ((0 : Int), ()))
theorem b2_ok {r} {L2 : Int → Int → Int → Int → List Int → Option R} {m2 : Nat} (hL2 : ∀ p1 p2 p3 p4 p5, L2 p1 p2 p3 p4 p5 = some r → Gw P 0 (Q r) (Pb c0 87 [] m2) (s2 p1 p2 p3 p4 p5)) {k p1 p2 p3 p4 p5} (H : b2 L2 k p1 p2 p3 p4 p5 = some r) : Gw P 0 (Q r) (Px c0 151 [m2]) (s2 p1 p2 p3 p4 p5) := by
  unfold b2 at H
  refine Rg V_ok 0 [] az (by kernel_rfl) ?_
  rcases of_ite H with ⟨hb6, H⟩ | ⟨hb6, H⟩
  · refine C1 hb6 (by kernel_rfl) ?_
    refine Rg V_ok 0 [] az (by kernel_rfl) ?_
    obtain ⟨n7, H⟩ := of_if H
    obtain ⟨n8, H⟩ := of_if H
    obtain ⟨n9, H⟩ := of_if H
    refine Rg V_ok 0 [] (ac n7 (ac n8 (ac n9 az))) (by kernel_rfl) ?_
    refine Rg V_ok 0 [] az (by kernel_rfl) ?_
    exact Jm {fz := [], gr := 0, ad := [], live := [0, 1, 6, 25, 26], src := [some 0]} (by kernel_rfl) (by kernel_rfl) (hL2 p1 p2 p3 (IntKind.i64.wrap (p4 + 1)) (p5.set p4.toNat (IntKind.u8.wrap (Int.fdiv p1 (2 ^ (min (IntKind.i64.wrap (8 * (IntKind.i64.wrap ((IntKind.i64.wrap (p2 - 1)) - p4)))).toNat (IntKind.i64.bits)))))) H)
  · refine C0 hb6 (by kernel_rfl) ?_
    refine Rg V_ok 0 [] az (by kernel_rfl) ?_
    obtain rfl := Option.some.inj H
    exact LfO2 (by kernel_rfl)
noncomputable def l2 (k : Nat) : Nat → Int → Int → Int → Int → List Int → Option R
  | 0, _, _, _, _, _ => none
  | m + 1, p1, p2, p3, p4, p5 => b2 (l2 k m) k p1 p2 p3 p4 p5
theorem l2_ok {r} (k : Nat) : ∀ (m2 : Nat) (p1 : Int) (p2 : Int) (p3 : Int) (p4 : Int) (p5 : List Int), l2 k m2 p1 p2 p3 p4 p5 = some r → Gw P 0 (Q r) (Pb c0 87 [] m2) (s2 p1 p2 p3 p4 p5)
  | 0, _, _, _, _, _, H => by cases H
  | m2 + 1, p1, p2, p3, p4, p5, H => SU (by kernel_rfl) (b2_ok (l2_ok k m2) H)
noncomputable def j1 (k : Nat) (p1 : Int) (p2 : Int) (p3 : Bool) : Option R :=
  if p3 = true then
  some ([], ((1 : Int), ()))
else
  if 0 ≤ p2 ∧ p2 = p2 ∧ (1 : Int) * p2 ≤ 140737488355328 ∧ p2 ≤ 140737488355328 then
    l2 k k p1 p2 ((List.replicate p2.toNat (0 : Int)).length : Int) 0 (List.replicate p2.toNat (0 : Int))
  else none
theorem j1_ok {r} {k p1 p2 p3} (H : j1 k p1 p2 p3 = some r) : Gw P 0 (Q r) (Px c0 13 []) (s1 p1 p2 p3) := by
  unfold j1 at H
  rcases of_ite H with ⟨hb4, H⟩ | ⟨hb4, H⟩
  · refine C1 hb4 (by kernel_rfl) ?_
    refine Rg V_ok 0 [] az (by kernel_rfl) ?_
    refine GT {gr := 1, ad := [.ownT 4 0 5 (.int .u8)], live := [4, 5], src := [some 0]} (by kernel_rfl) ?_
    obtain rfl := Option.some.inj H
    exact LfO2 (by kernel_rfl)
  · refine C0 hb4 (by kernel_rfl) ?_
    obtain ⟨n5, H⟩ := of_if H
    refine Rg V_ok 1 [(1, hb 0)] (ac n5 az) (by kernel_rfl) ?_
    refine Rg V_ok 0 [] az (by kernel_rfl) ?_
    exact LP k (Jm {fz := [], gr := 0, ad := [], live := [0, 1, 6, 25, 26], src := [some 0]} (by kernel_rfl) (by kernel_rfl) (l2_ok k k p1 p2 ((List.replicate p2.toNat (0 : Int)).length : Int) 0 (List.replicate p2.toNat (0 : Int)) H))
noncomputable def f (k : Nat) (a1 : Int) (a2 : Int) : Option R :=
  (f_octets_may.f k a2).bind fun y1 =>
    if (!y1.1) = true then
      j1 k a1 a2 true
    else
      if (decide (a1 < (0 : Int))) = true then
        j1 k a1 a2 true
      else
        if 0 ≤ (IntKind.i64.wrap (8 * a2)) then
          j1 k a1 a2 ((Int.fdiv a1 (2 ^ (min (IntKind.i64.wrap (8 * a2)).toNat (IntKind.i64.bits)))) != (0 : Int))
        else none
noncomputable def S : Spec := ⟨ps, rs, .any, some 5, fun x r => ∃ k, f k x.1 x.2.1 = some r⟩
theorem rl {k a1 a2 r} (e : f k a1 a2 = some r) : S.rel (a1, a2, ()) r := ⟨k, e⟩
theorem f_ok {r k a1 a2} (H : f k a1 a2 = some r) : Gw P 0 (Q r) (Px c0 1 []) (⟨42, [(0, .cv (.one (.int .i64 a1))), (1, .cv (.one (.int .i64 a2)))], []⟩) := by
  unfold f at H
  refine Rg V_ok 0 [] az (by kernel_rfl) ?_
  obtain ⟨y1, e2, H⟩ := of_bind H
  rcases of_ite H with ⟨hb3, H⟩ | ⟨hb3, H⟩
  · refine Rg V_ok 0 [(1, hr f_octets_may.S y1), (2, {bv := some true})] (ac (f_octets_may.rl e2) (ac hb3 az)) (by kernel_rfl) ?_
    exact Jm {fz := [], gr := 0, ad := [], live := [0, 1, 21], src := []} (by kernel_rfl) (by kernel_rfl) (j1_ok H)
  · rcases of_ite H with ⟨hb10, H⟩ | ⟨hb10, H⟩
    · refine Rg V_ok 0 [(1, hr f_octets_may.S y1), (2, {bv := some false}), (6, {bv := some true})] (ac (f_octets_may.rl e2) (ac hb3 (ac hb10 az))) (by kernel_rfl) ?_
      exact Jm {fz := [], gr := 0, ad := [], live := [0, 1, 21], src := []} (by kernel_rfl) (by kernel_rfl) (j1_ok H)
    · obtain ⟨n11, H⟩ := of_if H
      refine Rg V_ok 0 [(1, hr f_octets_may.S y1), (2, {bv := some false}), (6, {bv := some false})] (ac (f_octets_may.rl e2) (ac hb3 (ac hb10 (ac n11 az)))) (by kernel_rfl) ?_
      exact Jm {fz := [], gr := 0, ad := [], live := [0, 1, 21], src := []} (by kernel_rfl) (by kernel_rfl) (j1_ok H)
theorem fits : Fits P 78 S := fits_ofO2 V_ok Go.Proofs.Tryd.func78 (by kernel_rfl) (by decide) (by decide) (fun x r ⟨k, H⟩ => of_G (f_ok H))
end f_octets_PutO
/-! ### function 59, wayfinder/rule.Put -/
namespace f_rule_Put
noncomputable def c0 : Code := (Go.Proofs.Tryd.f59.body).getD .skip
abbrev ps : Sg := [(true, T1383)]
abbrev rs : Sg := [(false, (.slice (.int .u8))), (false, (.int .i64))]
noncomputable def V : Env := { tt := tt, Γ := slk [(22, f_rule_May.S), (78, f_octets_PutO.S)] }
theorem V_ok : EnvOk P V := { ck := tt_ck, fits := slk_cons f_rule_May.fits (slk_cons f_octets_PutO.fits (slk_nil)), mixed := mixed }
abbrev R := Tup rs
noncomputable abbrev Q (r : R) : Exit → St → Prop := Qr tt Go.Proofs.Tryd.f59.results ⟨ps, rs, .any, none, fun _ _ => True⟩ r
noncomputable def f (k : Nat) (a1 : T1383.T) : Option R :=
  (f_rule_May.f k a1).bind fun y1 =>
    if (!y1.1) = true then
      some ([], ((1 : Int), ()))
    else
      (f_octets_PutO.f k a1.1.1 (4 : Int)).bind fun y4 =>
        if (y4.1.length + 5) * 1 ≤ 140737488355328 then
          some ((y4.1 ++ [(IntKind.u8.wrap a1.1.2), (IntKind.u8.wrap (IntKind.i64.wrap (a1.2.1 + 1))), (IntKind.u8.wrap a1.2.2.1), (IntKind.u8.wrap a1.2.2.2.1), (IntKind.u8.wrap a1.2.2.2.2)]), (y4.2.1, ()))
        else none
noncomputable def S : Spec := ⟨ps, rs, .any, none, fun x r => ∃ k, f k x.1 = some r⟩
theorem rl {k a1 r} (e : f k a1 = some r) : S.rel (a1, ()) r := ⟨k, e⟩
theorem f_ok {r k a1} (H : f k a1 = some r) : Gw P 0 (Q r) (Px c0 1 []) (⟨39, [(0, .cv (.agg (encC .any T1383 a1)))], []⟩) := by
  unfold f at H
  refine Rg V_ok 1 [(0, hb 0)] az (by kernel_rfl) ?_
  obtain ⟨y1, e2, H⟩ := of_bind H
  refine Rg V_ok 0 [(1, hr f_rule_May.S y1)] (ac (f_rule_May.rl e2) az) (by kernel_rfl) ?_
  rcases of_ite H with ⟨hb3, H⟩ | ⟨hb3, H⟩
  · refine C1 hb3 (by kernel_rfl) ?_
    refine Rg V_ok 0 [] az (by kernel_rfl) ?_
    exact Lf (Eq.trans (by kernel_rfl) H)
  · refine C0 hb3 (by kernel_rfl) ?_
    obtain ⟨y4, e5, H⟩ := of_bind H
    refine Rg V_ok 1 [(3, {sb := 1, res := some ⟨f_octets_PutO.S.rs, y4⟩})] (ac (f_octets_PutO.rl e5) az) (by kernel_rfl) ?_
    obtain ⟨n6, H⟩ := of_if H
    refine Rg V_ok 1 [(21, hb 2)] (ac n6 az) (by kernel_rfl) ?_
    exact Lf (Eq.trans (by kernel_rfl) H)
theorem fits : Fits P 59 S := fits_of V_ok Go.Proofs.Tryd.func59 (by kernel_rfl) (by decide) (by decide) rfl (fun x r ⟨k, H⟩ => of_G (f_ok H))
end f_rule_Put
/-! ### function 58, wayfinder/octets.PutAll, whose answer is then the caller's own -/
namespace f_octets_PutAllO
noncomputable def c0 : Code := (Go.Proofs.Tryd.f58.body).getD .skip
abbrev ps : Sg := [(false, (.slice (.int .i64))), (false, (.slice (.int .i64)))]
abbrev rs : Sg := [(false, .slice (.int .u8)), (false, .int .i64)]
noncomputable def V : Env := { tt := tt, Γ := slk [(78, f_octets_PutO.S)] }
theorem V_ok : EnvOk P V := { ck := tt_ck, fits := slk_cons f_octets_PutO.fits (slk_nil), mixed := mixed }
abbrev R := Tup rs
noncomputable abbrev Q (r : R) : Exit → St → Prop := QrO2 Go.Proofs.Tryd.f58.results 5 (.int .u8) .i64 r
noncomputable def s1 (p1 : List Int) (p2 : List Int) (p3 : Int) (p4 : Int) (p5 : List Int) : St := ⟨40, [(1, .cv (.one (.sl (.int .i64) p1 .any))), (6, .cv (.one (.own 0))), (16, .cv (.one (.sl (.int .i64) p2 .any))), (17, .cv (.one (.int .i64 p3))), (18, .cv (.one (.int .i64 p4)))], [(.buf 5 (.int .u8) p5, [])]⟩
noncomputable def b1 (L1 : List Int → List Int → Int → Int → List Int → Option R) (k : Nat) (p1 : List Int) (p2 : List Int) (p3 : Int) (p4 : Int) (p5 : List Int) : Option R :=
  if (decide (p4 < p3)) = true then
  if 0 ≤ p4 then
    if p4 < (p2.length : Int) then
      if p4 < (p1.length : Int) then
        (f_octets_PutO.f k (att (.int .i64) p2 p4) (att (.int .i64) p1 p4)).bind fun y5 =>
          if (y5.2.1 != (0 : Int)) = true then
            some ([], (y5.2.1, ()))
          else
            if (p5.length + y5.1.length) * 1 ≤ 140737488355328 then
              L1 p1 p2 p3 (IntKind.i64.wrap (p4 + 1)) (p5 ++ y5.1)
            else none
      else none
    else none
  else none
else
  some (p5, ((0 : Int), ()))
theorem b1_ok {r} {L1 : List Int → List Int → Int → Int → List Int → Option R} {m1 : Nat} (hL1 : ∀ p1 p2 p3 p4 p5, L1 p1 p2 p3 p4 p5 = some r → Gw P 0 (Q r) (Pb c0 87 [] m1) (s1 p1 p2 p3 p4 p5)) {k p1 p2 p3 p4 p5} (H : b1 L1 k p1 p2 p3 p4 p5 = some r) : Gw P 0 (Q r) (Px c0 151 [m1]) (s1 p1 p2 p3 p4 p5) := by
  unfold b1 at H
  refine Rg V_ok 0 [] az (by kernel_rfl) ?_
  rcases of_ite H with ⟨hb2, H⟩ | ⟨hb2, H⟩
  · refine C1 hb2 (by kernel_rfl) ?_
    obtain ⟨n3, H⟩ := of_if H
    obtain ⟨n4, H⟩ := of_if H
    refine Rg V_ok 0 [] (ac n3 (ac n4 az)) (by kernel_rfl) ?_
    obtain ⟨n6, H⟩ := of_if H
    obtain ⟨y5, e7, H⟩ := of_bind H
    refine Rg V_ok 1 [(5, {sb := 1, res := some ⟨f_octets_PutO.S.rs, y5⟩})] (ac n3 (ac n6 (ac (f_octets_PutO.rl e7) az))) (by kernel_rfl) ?_
    refine Rg V_ok 0 [] az (by kernel_rfl) ?_
    rcases of_ite H with ⟨hb8, H⟩ | ⟨hb8, H⟩
    · refine C1 hb8 (by kernel_rfl) ?_
      refine Rg V_ok 0 [] az (by kernel_rfl) ?_
      refine GT {gr := 1, ad := [.ownT 4 2 5 (.int .u8)], live := [4, 5], src := [some 2]} (by kernel_rfl) ?_
      obtain rfl := Option.some.inj H
      exact LfO2 (by kernel_rfl)
    · refine C0 hb8 (by kernel_rfl) ?_
      obtain ⟨n9, H⟩ := of_if H
      refine Rg V_ok 1 [(2, hb 2)] (ac n9 az) (by kernel_rfl) ?_
      refine Rg V_ok 0 [] az (by kernel_rfl) ?_
      exact Jm {fz := [], gr := 0, ad := [], live := [1, 6, 16, 17, 18], src := [some 2]} (by kernel_rfl) (by kernel_rfl) (hL1 p1 p2 p3 (IntKind.i64.wrap (p4 + 1)) (p5 ++ y5.1) H)
  · refine C0 hb2 (by kernel_rfl) ?_
    refine Rg V_ok 0 [] az (by kernel_rfl) ?_
    obtain rfl := Option.some.inj H
    exact LfO2 (by kernel_rfl)
noncomputable def l1 (k : Nat) : Nat → List Int → List Int → Int → Int → List Int → Option R
  | 0, _, _, _, _, _ => none
  | m + 1, p1, p2, p3, p4, p5 => b1 (l1 k m) k p1 p2 p3 p4 p5
theorem l1_ok {r} (k : Nat) : ∀ (m1 : Nat) (p1 : List Int) (p2 : List Int) (p3 : Int) (p4 : Int) (p5 : List Int), l1 k m1 p1 p2 p3 p4 p5 = some r → Gw P 0 (Q r) (Pb c0 87 [] m1) (s1 p1 p2 p3 p4 p5)
  | 0, _, _, _, _, _, H => by cases H
  | m1 + 1, p1, p2, p3, p4, p5, H => SU (by kernel_rfl) (b1_ok (l1_ok k m1) H)
noncomputable def f (k : Nat) (a1 : List Int) (a2 : List Int) : Option R :=
  if ((a1.length : Int) != (a2.length : Int)) = true then
    some ([], ((1 : Int), ()))
  else
    l1 k k a2 a1 (a1.length : Int) 0 []
noncomputable def S : Spec := ⟨ps, rs, .any, some 5, fun x r => ∃ k, f k x.1 x.2.1 = some r⟩
theorem rl {k a1 a2 r} (e : f k a1 a2 = some r) : S.rel (a1, a2, ()) r := ⟨k, e⟩
theorem f_ok {r k a1 a2} (H : f k a1 a2 = some r) : Gw P 0 (Q r) (Px c0 1 []) (⟨40, [(0, .cv (.one (.sl (.int .i64) a1 .any))), (1, .cv (.one (.sl (.int .i64) a2 .any)))], []⟩) := by
  unfold f at H
  refine Rg V_ok 0 [] az (by kernel_rfl) ?_
  refine Rg V_ok 0 [] az (by kernel_rfl) ?_
  rcases of_ite H with ⟨hb1, H⟩ | ⟨hb1, H⟩
  · refine C1 hb1 (by kernel_rfl) ?_
    refine Rg V_ok 0 [] az (by kernel_rfl) ?_
    refine GT {gr := 1, ad := [.ownT 4 0 5 (.int .u8)], live := [4, 5], src := [some 0]} (by kernel_rfl) ?_
    obtain rfl := Option.some.inj H
    exact LfO2 (by kernel_rfl)
  · refine C0 hb1 (by kernel_rfl) ?_
    refine Rg V_ok 0 [] az (by kernel_rfl) ?_
    refine Rg V_ok 0 [] az (by kernel_rfl) ?_
    exact LP k (Jm {fz := [], gr := 1, ad := [.ownT 6 0 5 (.int .u8)], live := [1, 6, 16, 17, 18], src := [some 0]} (by kernel_rfl) (by kernel_rfl) (l1_ok k k a2 a1 (a1.length : Int) 0 [] H))
theorem fits : Fits P 58 S := fits_ofO2 V_ok Go.Proofs.Tryd.func58 (by kernel_rfl) (by decide) (by decide) (fun x r ⟨k, H⟩ => of_G (f_ok H))
end f_octets_PutAllO
/-! ### function 59, wayfinder/rule.Put, whose answer is then the caller's own -/
namespace f_rule_PutO
noncomputable def c0 : Code := (Go.Proofs.Tryd.f59.body).getD .skip
abbrev ps : Sg := [(true, T1383)]
abbrev rs : Sg := [(false, .slice (.int .u8)), (false, .int .i64)]
noncomputable def V : Env := { tt := tt, Γ := slk [(22, f_rule_May.S), (78, f_octets_PutO.S)] }
theorem V_ok : EnvOk P V := { ck := tt_ck, fits := slk_cons f_rule_May.fits (slk_cons f_octets_PutO.fits (slk_nil)), mixed := mixed }
abbrev R := Tup rs
noncomputable abbrev Q (r : R) : Exit → St → Prop := QrO2 Go.Proofs.Tryd.f59.results 5 (.int .u8) .i64 r
noncomputable def f (k : Nat) (a1 : T1383.T) : Option R :=
  (f_rule_May.f k a1).bind fun y1 =>
    if (!y1.1) = true then
      some ([], ((1 : Int), ()))
    else
      (f_octets_PutO.f k a1.1.1 (4 : Int)).bind fun y4 =>
        if (y4.1.length + 5) * 1 ≤ 140737488355328 then
          some ((y4.1 ++ [(IntKind.u8.wrap a1.1.2), (IntKind.u8.wrap (IntKind.i64.wrap (a1.2.1 + 1))), (IntKind.u8.wrap a1.2.2.1), (IntKind.u8.wrap a1.2.2.2.1), (IntKind.u8.wrap a1.2.2.2.2)]), (y4.2.1, ()))
        else none
noncomputable def S : Spec := ⟨ps, rs, .any, some 5, fun x r => ∃ k, f k x.1 = some r⟩
theorem rl {k a1 r} (e : f k a1 = some r) : S.rel (a1, ()) r := ⟨k, e⟩
theorem f_ok {r k a1} (H : f k a1 = some r) : Gw P 0 (Q r) (Px c0 1 []) (⟨39, [(0, .cv (.agg (encC .any T1383 a1)))], []⟩) := by
  unfold f at H
  refine Rg V_ok 1 [(0, hb 0)] az (by kernel_rfl) ?_
  obtain ⟨y1, e2, H⟩ := of_bind H
  refine Rg V_ok 0 [(1, hr f_rule_May.S y1)] (ac (f_rule_May.rl e2) az) (by kernel_rfl) ?_
  rcases of_ite H with ⟨hb3, H⟩ | ⟨hb3, H⟩
  · refine C1 hb3 (by kernel_rfl) ?_
    refine Rg V_ok 0 [] az (by kernel_rfl) ?_
    refine GT {gr := 1, ad := [.ownT 2 1 5 (.int .u8)], live := [2, 3], src := [some 1]} (by kernel_rfl) ?_
    obtain rfl := Option.some.inj H
    exact LfO2 (by kernel_rfl)
  · refine C0 hb3 (by kernel_rfl) ?_
    obtain ⟨y4, e5, H⟩ := of_bind H
    refine Rg V_ok 1 [(3, {sb := 1, res := some ⟨f_octets_PutO.S.rs, y4⟩})] (ac (f_octets_PutO.rl e5) az) (by kernel_rfl) ?_
    obtain ⟨n6, H⟩ := of_if H
    refine Rg V_ok 1 [(21, hb 2)] (ac n6 az) (by kernel_rfl) ?_
    obtain rfl := Option.some.inj H
    exact LfO2 (by kernel_rfl)
theorem fits : Fits P 59 S := fits_ofO2 V_ok Go.Proofs.Tryd.func59 (by kernel_rfl) (by decide) (by decide) (fun x r ⟨k, H⟩ => of_G (f_ok H))
end f_rule_PutO
/-! ### function 26, wayfinder/msg.Put -/
namespace f_msg_Put
noncomputable def c0 : Code := (Go.Proofs.Tryd.f26.body).getD .skip
abbrev ps : Sg := [(true, T4414)]
abbrev rs : Sg := [(false, (.slice (.int .u8))), (false, (.int .i64))]
noncomputable def V : Env := { tt := tt, Γ := slk [(57, f_msg_May.S), (58, f_octets_PutAllO.S), (59, f_rule_PutO.S)] }
theorem V_ok : EnvOk P V := { ck := tt_ck, fits := slk_cons f_msg_May.fits (slk_cons f_octets_PutAllO.fits (slk_cons f_rule_PutO.fits (slk_nil))), mixed := mixed }
abbrev R := Tup rs
noncomputable abbrev Q (r : R) : Exit → St → Prop := Qr tt Go.Proofs.Tryd.f26.results ⟨ps, rs, .any, none, fun _ _ => True⟩ r
noncomputable def s1 (p1 : Int) (p2 : Bool) (p3 : T4414.T) (p4 : List Int) : St := ⟨46, [(1, .cv (.one (.ptr 0 0))), (4, .cv (.one (.own 1))), (5, .cv (.one (.int .i64 p1))), (33, .cv (.one (.bool p2)))], [(.box 10, (encC .any T4414 p3)), (.buf 5 (.int .u8) p4, [])]⟩
noncomputable def j1 (k : Nat) (p1 : Int) (p2 : Bool) (p3 : T4414.T) (p4 : List Int) : Option R :=
  if p2 = true then
  some (p4, (p1, ()))
else
  (f_rule_PutO.f k p3.2.2.2.2).bind fun y8 =>
    if (p4.length + y8.1.length) * 1 ≤ 140737488355328 then
      some ((p4 ++ y8.1), (y8.2.1, ()))
    else none
theorem j1_ok {r} {k p1 p2 p3 p4} (H : j1 k p1 p2 p3 p4 = some r) : Gw P 0 (Q r) (Px c0 55 []) (s1 p1 p2 p3 p4) := by
  unfold j1 at H
  rcases of_ite H with ⟨hb7, H⟩ | ⟨hb7, H⟩
  · refine C1 hb7 (by kernel_rfl) ?_
    refine Rg V_ok 0 [] az (by kernel_rfl) ?_
    exact Lf (Eq.trans (by kernel_rfl) H)
  · refine C0 hb7 (by kernel_rfl) ?_
    obtain ⟨y8, e9, H⟩ := of_bind H
    refine Rg V_ok 1 [(2, {sb := 2, res := some ⟨f_rule_PutO.S.rs, y8⟩})] (ac (f_rule_PutO.rl e9) az) (by kernel_rfl) ?_
    obtain ⟨n10, H⟩ := of_if H
    refine Rg V_ok 1 [(2, hb 3)] (ac n10 az) (by kernel_rfl) ?_
    exact Lf (Eq.trans (by kernel_rfl) H)
noncomputable def f (k : Nat) (a1 : T4414.T) : Option R :=
  (f_msg_May.f k a1).bind fun y1 =>
    if (!y1.1) = true then
      some ([], ((1 : Int), ()))
    else
      (f_octets_PutAllO.f k [a1.1, a1.2.1, a1.2.2.1, a1.2.2.2.1] [1, 3, 3, 2]).bind fun y4 =>
        if (y4.2.1 != (0 : Int)) = true then
          j1 k y4.2.1 true a1 y4.1
        else
          if 0 ≤ a1.1 then
            if a1.1 < (6 : Int) then
              j1 k y4.2.1 (!((att Ta655 glob0 a1.1).2).2) a1 y4.1
            else none
          else none
noncomputable def S : Spec := ⟨ps, rs, .any, none, fun x r => ∃ k, f k x.1 = some r⟩
theorem rl {k a1 r} (e : f k a1 = some r) : S.rel (a1, ()) r := ⟨k, e⟩
theorem f_ok {r k a1} (H : f k a1 = some r) : Gw P 0 (Q r) (Px c0 1 []) (⟨46, [(0, .cv (.agg (encC .any T4414 a1)))], []⟩) := by
  unfold f at H
  refine Rg V_ok 1 [(0, hb 0)] az (by kernel_rfl) ?_
  obtain ⟨y1, e2, H⟩ := of_bind H
  refine Rg V_ok 0 [(1, hr f_msg_May.S y1)] (ac (f_msg_May.rl e2) az) (by kernel_rfl) ?_
  rcases of_ite H with ⟨hb3, H⟩ | ⟨hb3, H⟩
  · refine C1 hb3 (by kernel_rfl) ?_
    refine Rg V_ok 0 [] az (by kernel_rfl) ?_
    exact Lf (Eq.trans (by kernel_rfl) H)
  · refine C0 hb3 (by kernel_rfl) ?_
    obtain ⟨y4, e5, H⟩ := of_bind H
    refine Rg V_ok 1 [(10, {sb := 1, res := some ⟨f_octets_PutAllO.S.rs, y4⟩})] (ac (f_octets_PutAllO.rl e5) az) (by kernel_rfl) ?_
    rcases of_ite H with ⟨hb6, H⟩ | ⟨hb6, H⟩
    · refine Rg V_ok 0 [(1, {bv := some true})] (ac hb6 az) (by kernel_rfl) ?_
      exact Jm {fz := [], gr := 0, ad := [], live := [1, 4, 5, 33], src := [some 0, some 1]} (by kernel_rfl) (by kernel_rfl) (j1_ok H)
    · obtain ⟨n11, H⟩ := of_if H
      obtain ⟨n12, H⟩ := of_if H
      refine Rg V_ok 0 [(1, {bv := some false})] (ac hb6 (ac n11 (ac n12 az))) (by kernel_rfl) ?_
      exact Jm {fz := [], gr := 0, ad := [], live := [1, 4, 5, 33], src := [some 0, some 1]} (by kernel_rfl) (by kernel_rfl) (j1_ok H)
theorem fits : Fits P 26 S := fits_of V_ok Go.Proofs.Tryd.func26 (by kernel_rfl) (by decide) (by decide) rfl (fun x r ⟨k, H⟩ => of_G (f_ok H))
end f_msg_Put
/-! ### function 27, wayfinder/octets.Sum -/
namespace f_octets_Sum
noncomputable def c0 : Code := (Go.Proofs.Tryd.f27.body).getD .skip
abbrev ps : Sg := [(false, (.slice (.int .u8)))]
abbrev rs : Sg := [(false, (.int .i64))]
noncomputable def V : Env := { tt := tt, Γ := slk [] }
theorem V_ok : EnvOk P V := { ck := tt_ck, fits := slk_nil, mixed := mixed }
abbrev R := Tup rs
noncomputable abbrev Q (r : R) : Exit → St → Prop := Qr tt Go.Proofs.Tryd.f27.results ⟨ps, rs, .any, none, fun _ _ => True⟩ r
noncomputable def s1 (p1 : Int) (p2 : List Int) (p3 : Int) (p4 : Int) : St := ⟨32, [(3, .cv (.one (.int .i64 p1))), (6, .cv (.one (.sl (.int .u8) p2 .any))), (7, .cv (.one (.int .i64 p3))), (8, .cv (.one (.int .i64 p4)))], []⟩
noncomputable def s2 (p1 : Int) : St := ⟨32, [(3, .cv (.one (.int .i64 p1)))], []⟩
noncomputable def b2 (L2 : Int → Option R) (k : Nat) (p1 : Int) : Option R :=
  if (decide (p1 > (65535 : Int))) = true then
  L2 (IntKind.i64.wrap ((Int.fdiv p1 (2 ^ (min (16 : Int).toNat (IntKind.i64.bits)))) + (IntKind.i64.wrap (((BitVec.ofInt IntKind.i64.bits p1 &&& BitVec.ofInt IntKind.i64.bits 65535).toNat : Int)))))
else
  some ((IntKind.i64.wrap (65535 - p1)), ())
theorem b2_ok {r} {L2 : Int → Option R} {m2 : Nat} (hL2 : ∀ p1, L2 p1 = some r → Gw P 0 (Q r) (Pb c0 3 [] m2) (s2 p1)) {k p1} (H : b2 L2 k p1 = some r) : Gw P 0 (Q r) (Px c0 61 [m2]) (s2 p1) := by
  unfold b2 at H
  refine Rg V_ok 0 [] az (by kernel_rfl) ?_
  rcases of_ite H with ⟨hb5, H⟩ | ⟨hb5, H⟩
  · refine C1 hb5 (by kernel_rfl) ?_
    refine Rg V_ok 0 [] (ac (show 0 ≤ (16 : Int) by decide) az) (by kernel_rfl) ?_
    exact Jm {fz := [], gr := 0, ad := [], live := [3], src := []} (by kernel_rfl) (by kernel_rfl) (hL2 (IntKind.i64.wrap ((Int.fdiv p1 (2 ^ (min (16 : Int).toNat (IntKind.i64.bits)))) + (IntKind.i64.wrap (((BitVec.ofInt IntKind.i64.bits p1 &&& BitVec.ofInt IntKind.i64.bits 65535).toNat : Int))))) H)
  · refine C0 hb5 (by kernel_rfl) ?_
    refine Rg V_ok 0 [] az (by kernel_rfl) ?_
    exact Lf (Eq.trans (by kernel_rfl) H)
noncomputable def l2 (k : Nat) : Nat → Int → Option R
  | 0, _ => none
  | m + 1, p1 => b2 (l2 k m) k p1
theorem l2_ok {r} (k : Nat) : ∀ (m2 : Nat) (p1 : Int), l2 k m2 p1 = some r → Gw P 0 (Q r) (Pb c0 3 [] m2) (s2 p1)
  | 0, _, H => by cases H
  | m2 + 1, p1, H => SU (by kernel_rfl) (b2_ok (l2_ok k m2) H)
noncomputable def b1 (L1 : Int → List Int → Int → Int → Option R) (k : Nat) (p1 : Int) (p2 : List Int) (p3 : Int) (p4 : Int) : Option R :=
  if (decide (p4 < p3)) = true then
  if 0 ≤ p4 then
    if p4 < (p2.length : Int) then
      if 0 ≤ (IntKind.i64.wrap (8 * (Int.tmod (IntKind.i64.wrap (p4 + 1)) 2))) then
        L1 (IntKind.i64.wrap (p1 + (IntKind.i64.wrap ((IntKind.i64.wrap (att (.int .u8) p2 p4)) * (2 ^ (min (IntKind.i64.wrap (8 * (Int.tmod (IntKind.i64.wrap (p4 + 1)) 2))).toNat (IntKind.i64.bits))))))) p2 p3 (IntKind.i64.wrap (p4 + 1))
      else none
    else none
  else none
else
  b2 (l2 k 1000000) k p1
theorem b1_ok {r} {L1 : Int → List Int → Int → Int → Option R} {m1 : Nat} (hL1 : ∀ p1 p2 p3 p4, L1 p1 p2 p3 p4 = some r → Gw P 0 (Q r) (Pb c0 85 [1000000] m1) (s1 p1 p2 p3 p4)) {k p1 p2 p3 p4} (H : b1 L1 k p1 p2 p3 p4 = some r) : Gw P 0 (Q r) (Px c0 149 [1000000, m1]) (s1 p1 p2 p3 p4) := by
  unfold b1 at H
  refine Rg V_ok 0 [] az (by kernel_rfl) ?_
  rcases of_ite H with ⟨hb1, H⟩ | ⟨hb1, H⟩
  · refine C1 hb1 (by kernel_rfl) ?_
    obtain ⟨n2, H⟩ := of_if H
    obtain ⟨n3, H⟩ := of_if H
    refine Rg V_ok 0 [] (ac n2 (ac n3 az)) (by kernel_rfl) ?_
    obtain ⟨n4, H⟩ := of_if H
    refine Rg V_ok 0 [] (ac (show (2 : Int) ≠ 0 by decide) (ac n4 az)) (by kernel_rfl) ?_
    refine Rg V_ok 0 [] az (by kernel_rfl) ?_
    exact Jm {fz := [], gr := 0, ad := [], live := [3, 6, 7, 8], src := []} (by kernel_rfl) (by kernel_rfl) (hL1 (IntKind.i64.wrap (p1 + (IntKind.i64.wrap ((IntKind.i64.wrap (att (.int .u8) p2 p4)) * (2 ^ (min (IntKind.i64.wrap (8 * (Int.tmod (IntKind.i64.wrap (p4 + 1)) 2))).toNat (IntKind.i64.bits))))))) p2 p3 (IntKind.i64.wrap (p4 + 1)) H)
  · refine C0 hb1 (by kernel_rfl) ?_
    exact Jm {fz := [], gr := 0, ad := [], live := [3], src := []} (by kernel_rfl) (by kernel_rfl) (b2_ok (l2_ok k 1000000) H)
noncomputable def l1 (k : Nat) : Nat → Int → List Int → Int → Int → Option R
  | 0, _, _, _, _ => none
  | m + 1, p1, p2, p3, p4 => b1 (l1 k m) k p1 p2 p3 p4
theorem l1_ok {r} (k : Nat) : ∀ (m1 : Nat) (p1 : Int) (p2 : List Int) (p3 : Int) (p4 : Int), l1 k m1 p1 p2 p3 p4 = some r → Gw P 0 (Q r) (Pb c0 85 [1000000] m1) (s1 p1 p2 p3 p4)
  | 0, _, _, _, _, H => by cases H
  | m1 + 1, p1, p2, p3, p4, H => SU (by kernel_rfl) (b1_ok (l1_ok k m1) H)
noncomputable def f (k : Nat) (a1 : List Int) : Option R :=
  l1 k k 0 a1 (a1.length : Int) 0
noncomputable def S : Spec := ⟨ps, rs, .any, none, fun x r => ∃ k, f k x.1 = some r⟩
theorem rl {k a1 r} (e : f k a1 = some r) : S.rel (a1, ()) r := ⟨k, e⟩
theorem f_ok {r k a1} (H : f k a1 = some r) : Gw P 0 (Q r) (Px c0 1 []) (⟨32, [(0, .cv (.one (.sl (.int .u8) a1 .any)))], []⟩) := by
  unfold f at H
  refine Rg V_ok 0 [] az (by kernel_rfl) ?_
  refine SC 1000000 ?_
  refine Rg V_ok 0 [] az (by kernel_rfl) ?_
  refine Rg V_ok 0 [] az (by kernel_rfl) ?_
  exact LP k (Jm {fz := [], gr := 0, ad := [], live := [3, 6, 7, 8], src := []} (by kernel_rfl) (by kernel_rfl) (l1_ok k k 0 a1 (a1.length : Int) 0 H))
theorem fits : Fits P 27 S := fits_of V_ok Go.Proofs.Tryd.func27 (by kernel_rfl) (by decide) (by decide) rfl (fun x r ⟨k, H⟩ => of_G (f_ok H))
end f_octets_Sum
/-! ### function 26, wayfinder/msg.Put, whose answer is then the caller's own -/
namespace f_msg_PutO
noncomputable def c0 : Code := (Go.Proofs.Tryd.f26.body).getD .skip
abbrev ps : Sg := [(true, T4414)]
abbrev rs : Sg := [(false, .slice (.int .u8)), (false, .int .i64)]
noncomputable def V : Env := { tt := tt, Γ := slk [(57, f_msg_May.S), (58, f_octets_PutAllO.S), (59, f_rule_PutO.S)] }
theorem V_ok : EnvOk P V := { ck := tt_ck, fits := slk_cons f_msg_May.fits (slk_cons f_octets_PutAllO.fits (slk_cons f_rule_PutO.fits (slk_nil))), mixed := mixed }
abbrev R := Tup rs
noncomputable abbrev Q (r : R) : Exit → St → Prop := QrO2 Go.Proofs.Tryd.f26.results 5 (.int .u8) .i64 r
noncomputable def s1 (p1 : Int) (p2 : Bool) (p3 : T4414.T) (p4 : List Int) : St := ⟨46, [(1, .cv (.one (.ptr 0 0))), (4, .cv (.one (.own 1))), (5, .cv (.one (.int .i64 p1))), (33, .cv (.one (.bool p2)))], [(.box 10, (encC .any T4414 p3)), (.buf 5 (.int .u8) p4, [])]⟩
noncomputable def j1 (k : Nat) (p1 : Int) (p2 : Bool) (p3 : T4414.T) (p4 : List Int) : Option R :=
  if p2 = true then
  some (p4, (p1, ()))
else
  (f_rule_PutO.f k p3.2.2.2.2).bind fun y8 =>
    if (p4.length + y8.1.length) * 1 ≤ 140737488355328 then
      some ((p4 ++ y8.1), (y8.2.1, ()))
    else none
theorem j1_ok {r} {k p1 p2 p3 p4} (H : j1 k p1 p2 p3 p4 = some r) : Gw P 0 (Q r) (Px c0 55 []) (s1 p1 p2 p3 p4) := by
  unfold j1 at H
  rcases of_ite H with ⟨hb7, H⟩ | ⟨hb7, H⟩
  · refine C1 hb7 (by kernel_rfl) ?_
    refine Rg V_ok 0 [] az (by kernel_rfl) ?_
    obtain rfl := Option.some.inj H
    exact LfO2 (by kernel_rfl)
  · refine C0 hb7 (by kernel_rfl) ?_
    obtain ⟨y8, e9, H⟩ := of_bind H
    refine Rg V_ok 1 [(2, {sb := 2, res := some ⟨f_rule_PutO.S.rs, y8⟩})] (ac (f_rule_PutO.rl e9) az) (by kernel_rfl) ?_
    obtain ⟨n10, H⟩ := of_if H
    refine Rg V_ok 1 [(2, hb 3)] (ac n10 az) (by kernel_rfl) ?_
    obtain rfl := Option.some.inj H
    exact LfO2 (by kernel_rfl)
noncomputable def f (k : Nat) (a1 : T4414.T) : Option R :=
  (f_msg_May.f k a1).bind fun y1 =>
    if (!y1.1) = true then
      some ([], ((1 : Int), ()))
    else
      (f_octets_PutAllO.f k [a1.1, a1.2.1, a1.2.2.1, a1.2.2.2.1] [1, 3, 3, 2]).bind fun y4 =>
        if (y4.2.1 != (0 : Int)) = true then
          j1 k y4.2.1 true a1 y4.1
        else
          if 0 ≤ a1.1 then
            if a1.1 < (6 : Int) then
              j1 k y4.2.1 (!((att Ta655 glob0 a1.1).2).2) a1 y4.1
            else none
          else none
noncomputable def S : Spec := ⟨ps, rs, .any, some 5, fun x r => ∃ k, f k x.1 = some r⟩
theorem rl {k a1 r} (e : f k a1 = some r) : S.rel (a1, ()) r := ⟨k, e⟩
theorem f_ok {r k a1} (H : f k a1 = some r) : Gw P 0 (Q r) (Px c0 1 []) (⟨46, [(0, .cv (.agg (encC .any T4414 a1)))], []⟩) := by
  unfold f at H
  refine Rg V_ok 1 [(0, hb 0)] az (by kernel_rfl) ?_
  obtain ⟨y1, e2, H⟩ := of_bind H
  refine Rg V_ok 0 [(1, hr f_msg_May.S y1)] (ac (f_msg_May.rl e2) az) (by kernel_rfl) ?_
  rcases of_ite H with ⟨hb3, H⟩ | ⟨hb3, H⟩
  · refine C1 hb3 (by kernel_rfl) ?_
    refine Rg V_ok 0 [] az (by kernel_rfl) ?_
    refine GT {gr := 1, ad := [.ownT 2 1 5 (.int .u8)], live := [2, 3], src := [some 1]} (by kernel_rfl) ?_
    obtain rfl := Option.some.inj H
    exact LfO2 (by kernel_rfl)
  · refine C0 hb3 (by kernel_rfl) ?_
    obtain ⟨y4, e5, H⟩ := of_bind H
    refine Rg V_ok 1 [(10, {sb := 1, res := some ⟨f_octets_PutAllO.S.rs, y4⟩})] (ac (f_octets_PutAllO.rl e5) az) (by kernel_rfl) ?_
    rcases of_ite H with ⟨hb6, H⟩ | ⟨hb6, H⟩
    · refine Rg V_ok 0 [(1, {bv := some true})] (ac hb6 az) (by kernel_rfl) ?_
      exact Jm {fz := [], gr := 0, ad := [], live := [1, 4, 5, 33], src := [some 0, some 1]} (by kernel_rfl) (by kernel_rfl) (j1_ok H)
    · obtain ⟨n11, H⟩ := of_if H
      obtain ⟨n12, H⟩ := of_if H
      refine Rg V_ok 0 [(1, {bv := some false})] (ac hb6 (ac n11 (ac n12 az))) (by kernel_rfl) ?_
      exact Jm {fz := [], gr := 0, ad := [], live := [1, 4, 5, 33], src := [some 0, some 1]} (by kernel_rfl) (by kernel_rfl) (j1_ok H)
theorem fits : Fits P 26 S := fits_ofO2 V_ok Go.Proofs.Tryd.func26 (by kernel_rfl) (by decide) (by decide) (fun x r ⟨k, H⟩ => of_G (f_ok H))
end f_msg_PutO
/-! ### function 9, wayfinder/frame.Seal -/
namespace f_frame_Seal
noncomputable def c0 : Code := (Go.Proofs.Tryd.f9.body).getD .skip
abbrev ps : Sg := [(true, T4414)]
abbrev rs : Sg := [(false, (.slice (.int .u8))), (false, (.int .i64))]
noncomputable def V : Env := { tt := tt, Γ := slk [(26, f_msg_PutO.S), (27, f_octets_Sum.S)] }
theorem V_ok : EnvOk P V := { ck := tt_ck, fits := slk_cons f_msg_PutO.fits (slk_cons f_octets_Sum.fits (slk_nil)), mixed := mixed }
abbrev R := Tup rs
noncomputable abbrev Q (r : R) : Exit → St → Prop := Qr tt Go.Proofs.Tryd.f9.results ⟨ps, rs, .any, none, fun _ _ => True⟩ r
noncomputable def s1 (p1 : List Int) : St := ⟨39, [(6, .cv (.one (.own 0)))], [(.buf 5 (.int .u8) p1, [])]⟩
noncomputable def j1 (k : Nat) (p1 : List Int) : Option R :=
  (f_octets_Sum.f k p1).bind fun y7 =>
  if (p1.length + 2) * 1 ≤ 140737488355328 then
    some ((p1 ++ [(IntKind.u8.wrap (Int.fdiv y7.1 (2 ^ (min (8 : Int).toNat (IntKind.i64.bits))))), (IntKind.u8.wrap y7.1)]), ((0 : Int), ()))
  else none
theorem j1_ok {r} {k p1} (H : j1 k p1 = some r) : Gw P 0 (Q r) (Px c0 63 []) (s1 p1) := by
  unfold j1 at H
  obtain ⟨y7, e8, H⟩ := of_bind H
  refine Rg V_ok 0 [(1, hr f_octets_Sum.S y7)] (ac (f_octets_Sum.rl e8) az) (by kernel_rfl) ?_
  obtain ⟨n9, H⟩ := of_if H
  refine Rg V_ok 1 [(7, hb 1)] (ac (show 0 ≤ (8 : Int) by decide) (ac n9 az)) (by kernel_rfl) ?_
  exact Lf (Eq.trans (by kernel_rfl) H)
noncomputable def f (k : Nat) (a1 : T4414.T) : Option R :=
  (f_msg_PutO.f k a1).bind fun y1 =>
    if (y1.2.1 != (0 : Int)) = true then
      some ([], (y1.2.1, ()))
    else
      if (2 + y1.1.length) * 1 ≤ 140737488355328 then
        if ((Int.tmod (y1.1.length : Int) 2) == (1 : Int)) = true then
          if (([197, (IntKind.u8.wrap (y1.1.length : Int))] ++ y1.1).length + 1) * 1 ≤ 140737488355328 then
            j1 k (([197, (IntKind.u8.wrap (y1.1.length : Int))] ++ y1.1) ++ [0])
          else none
        else
          j1 k ([197, (IntKind.u8.wrap (y1.1.length : Int))] ++ y1.1)
      else none
noncomputable def S : Spec := ⟨ps, rs, .any, none, fun x r => ∃ k, f k x.1 = some r⟩
theorem rl {k a1 r} (e : f k a1 = some r) : S.rel (a1, ()) r := ⟨k, e⟩
theorem f_ok {r k a1} (H : f k a1 = some r) : Gw P 0 (Q r) (Px c0 1 []) (⟨39, [(0, .cv (.agg (encC .any T4414 a1)))], []⟩) := by
  unfold f at H
  refine Rg V_ok 1 [(0, hb 0)] az (by kernel_rfl) ?_
  obtain ⟨y1, e2, H⟩ := of_bind H
  refine Rg V_ok 1 [(1, {sb := 1, res := some ⟨f_msg_PutO.S.rs, y1⟩})] (ac (f_msg_PutO.rl e2) az) (by kernel_rfl) ?_
  refine Rg V_ok 0 [] az (by kernel_rfl) ?_
  rcases of_ite H with ⟨hb3, H⟩ | ⟨hb3, H⟩
  · refine C1 hb3 (by kernel_rfl) ?_
    refine Rg V_ok 0 [] az (by kernel_rfl) ?_
    exact Lf (Eq.trans (by kernel_rfl) H)
  · refine C0 hb3 (by kernel_rfl) ?_
    obtain ⟨n4, H⟩ := of_if H
    refine Rg V_ok 2 [(3, {sb := 2, bo := true}), (5, hb 3)] (ac n4 az) (by kernel_rfl) ?_
    refine Rg V_ok 0 [] (ac (show (2 : Int) ≠ 0 by decide) az) (by kernel_rfl) ?_
    rcases of_ite H with ⟨hb5, H⟩ | ⟨hb5, H⟩
    · refine C1 hb5 (by kernel_rfl) ?_
      obtain ⟨n6, H⟩ := of_if H
      refine Rg V_ok 1 [(2, hb 4)] (ac n6 az) (by kernel_rfl) ?_
      exact Jm {fz := [], gr := 0, ad := [], live := [6], src := [some 4]} (by kernel_rfl) (by kernel_rfl) (j1_ok H)
    · refine C0 hb5 (by kernel_rfl) ?_
      exact Jm {fz := [], gr := 0, ad := [], live := [6], src := [some 3]} (by kernel_rfl) (by kernel_rfl) (j1_ok H)
theorem fits : Fits P 9 S := fits_of V_ok Go.Proofs.Tryd.func9 (by kernel_rfl) (by decide) (by decide) rfl (fun x r ⟨k, H⟩ => of_G (f_ok H))
end f_frame_Seal
/-! ### function 15, wayfinder/agent.New -/
namespace f_agent_New
noncomputable def c0 : Code := (Go.Proofs.Tryd.f15.body).getD .skip
abbrev ps : Sg := []
abbrev rs : Sg := [(true, Tf20b)]
noncomputable def V : Env := { tt := tt, Γ := slk [] }
theorem V_ok : EnvOk P V := { ck := tt_ck, fits := slk_nil, mixed := mixed }
abbrev R := Tup rs
noncomputable abbrev Q (r : R) : Exit → St → Prop := Qr tt Go.Proofs.Tryd.f15.results ⟨ps, rs, .any, none, fun _ _ => True⟩ r
noncomputable def f (k : Nat) : Option R :=
  some ((1, (0, (false, (0, (0, ([], 0)))))), ())
noncomputable def S : Spec := ⟨ps, rs, .any, none, fun x r => ∃ k, f k = some r⟩
theorem rl {k r} (e : f k = some r) : S.rel (()) r := ⟨k, e⟩
theorem f_ok {r k} (H : f k = some r) : Gw P 0 (Q r) (Px c0 1 []) (⟨2, [], []⟩) := by
  unfold f at H
  refine Rg V_ok 1 [(0, hb 0)] az (by kernel_rfl) ?_
  refine Rg V_ok 0 [] az (by kernel_rfl) ?_
  exact Lf (Eq.trans (by kernel_rfl) H)
theorem fits : Fits P 15 S := fits_of V_ok Go.Proofs.Tryd.func15 (by kernel_rfl) (by decide) (by decide) rfl (fun x r ⟨k, H⟩ => of_G (f_ok H))
end f_agent_New
/-! ### function 66, slices.Clone[[]wayfinder/api.Rule,wayfinder/api.Rule] -/
namespace f_slices_Clone_Rule
noncomputable def c0 : Code := (Go.Proofs.Tryd.f66.body).getD .skip
abbrev ps : Sg := [(false, (.slice T1383))]
abbrev rs : Sg := [(false, (.slice T1383))]
noncomputable def V : Env := { tt := tt, Γ := slk [] }
theorem V_ok : EnvOk P V := { ck := tt_ck, fits := slk_nil, mixed := mixed }
abbrev R := Tup rs
noncomputable abbrev Q (r : R) : Exit → St → Prop := Qr tt Go.Proofs.Tryd.f66.results ⟨ps, rs, .any, none, fun _ _ => True⟩ r
noncomputable def f (k : Nat) (a1 : List T1383.T) : Option R :=
  if (0 + a1.length) * 48 ≤ 140737488355328 then
    if 0 = 0 ∨ 0 < a1.length then
      some (([] ++ a1), ())
    else none
  else none
noncomputable def S : Spec := ⟨ps, rs, .any, none, fun x r => ∃ k, f k x.1 = some r⟩
theorem rl {k a1 r} (e : f k a1 = some r) : S.rel (a1, ()) r := ⟨k, e⟩
theorem f_ok {r k a1} (H : f k a1 = some r) : Gw P 0 (Q r) (Px c0 1 []) (⟨8, [(0, .cv (.one (.sl T1383 a1 .any)))], []⟩) := by
  unfold f at H
  refine Rg V_ok 0 [] az (by kernel_rfl) ?_
  refine NL (t := 0) (e := T1383) (xs := a1) (by kernel_rfl) (by kernel_rfl) (fun hx1 => ?_) ?_
  · subst hx1
    replace H := Eq.trans (by kernel_rfl : (some ([], ()) : Option R) = _) H
    refine Rg V_ok 0 [] az (by kernel_rfl) ?_
    refine C1 rfl (by kernel_rfl) ?_
    refine Rg V_ok 0 [] az (by kernel_rfl) ?_
    exact Lf (Eq.trans (by kernel_rfl) H)
  · refine Rg V_ok 0 [] az (by kernel_rfl) ?_
    refine C0 rfl (by kernel_rfl) ?_
    obtain ⟨n2, H⟩ := of_if H
    obtain ⟨n3, H⟩ := of_if H
    refine Rg V_ok 1 [(2, hb 0)] (ac n2 (ac n3 az)) (by kernel_rfl) ?_
    exact Lf (Eq.trans (by kernel_rfl) H)
theorem fits : Fits P 66 S := fits_of V_ok Go.Proofs.Tryd.func66 (by kernel_rfl) (by decide) (by decide) rfl (fun x r ⟨k, H⟩ => of_G (f_ok H))
end f_slices_Clone_Rule
/-! ### function 43, wayfinder/table.own -/
namespace f_table_own
noncomputable def c0 : Code := (Go.Proofs.Tryd.f43.body).getD .skip
abbrev ps : Sg := [(false, (.slice T814c))]
abbrev rs : Sg := [(false, (.slice T814c))]
noncomputable def V : Env := { tt := tt, Γ := slk [(66, f_slices_Clone_Rule.S)] }
theorem V_ok : EnvOk P V := { ck := tt_ck, fits := slk_cons f_slices_Clone_Rule.fits (slk_nil), mixed := mixed }
abbrev R := Tup rs
noncomputable abbrev Q (r : R) : Exit → St → Prop := Qr tt Go.Proofs.Tryd.f43.results ⟨ps, rs, .any, none, fun _ _ => True⟩ r
noncomputable def s1 (p1 : List T814c.T) (p2 : Int) (p3 : Int) (p4 : List T814c.T) : St := ⟨23, [(3, .cv (.one (.own 0))), (6, .cv (.one (.sl T814c p1 .any))), (7, .cv (.one (.int .i64 p2))), (8, .cv (.one (.int .i64 p3)))], [(.buf 61 T814c p4, [])]⟩
noncomputable def b1 (L1 : List T814c.T → Int → Int → List T814c.T → Option R) (k : Nat) (p1 : List T814c.T) (p2 : Int) (p3 : Int) (p4 : List T814c.T) : Option R :=
  if (decide (p3 < p2)) = true then
  if 0 ≤ p3 then
    if p3 < (p1.length : Int) then
      (f_slices_Clone_Rule.f k ((att T814c p1 p3).2)).bind fun y4 =>
        if (p4.length + 1) * 32 ≤ 140737488355328 then
          L1 p1 p2 (IntKind.i64.wrap (p3 + 1)) (p4 ++ [((att T814c p1 p3).1, y4.1)])
        else none
    else none
  else none
else
  some (p4, ())
theorem b1_ok {r} {L1 : List T814c.T → Int → Int → List T814c.T → Option R} {m1 : Nat} (hL1 : ∀ p1 p2 p3 p4, L1 p1 p2 p3 p4 = some r → Gw P 0 (Q r) (Pb c0 43 [] m1) (s1 p1 p2 p3 p4)) {k p1 p2 p3 p4} (H : b1 L1 k p1 p2 p3 p4 = some r) : Gw P 0 (Q r) (Px c0 75 [m1]) (s1 p1 p2 p3 p4) := by
  unfold b1 at H
  refine Rg V_ok 0 [] az (by kernel_rfl) ?_
  rcases of_ite H with ⟨hb1, H⟩ | ⟨hb1, H⟩
  · refine C1 hb1 (by kernel_rfl) ?_
    obtain ⟨n2, H⟩ := of_if H
    obtain ⟨n3, H⟩ := of_if H
    refine Rg V_ok 1 [(2, hb 1)] (ac n2 (ac n3 az)) (by kernel_rfl) ?_
    obtain ⟨y4, e5, H⟩ := of_bind H
    obtain ⟨n6, H⟩ := of_if H
    refine Rg V_ok 1 [(5, hr f_slices_Clone_Rule.S y4), (8, hb 2)] (ac (f_slices_Clone_Rule.rl e5) (ac n6 az)) (by kernel_rfl) ?_
    refine Rg V_ok 0 [] az (by kernel_rfl) ?_
    exact Jm {fz := [], gr := 0, ad := [], live := [3, 6, 7, 8], src := [some 2]} (by kernel_rfl) (by kernel_rfl) (hL1 p1 p2 (IntKind.i64.wrap (p3 + 1)) (p4 ++ [((att T814c p1 p3).1, y4.1)]) H)
  · refine C0 hb1 (by kernel_rfl) ?_
    refine Rg V_ok 0 [] az (by kernel_rfl) ?_
    exact Lf (Eq.trans (by kernel_rfl) H)
noncomputable def l1 (k : Nat) : Nat → List T814c.T → Int → Int → List T814c.T → Option R
  | 0, _, _, _, _ => none
  | m + 1, p1, p2, p3, p4 => b1 (l1 k m) k p1 p2 p3 p4
theorem l1_ok {r} (k : Nat) : ∀ (m1 : Nat) (p1 : List T814c.T) (p2 : Int) (p3 : Int) (p4 : List T814c.T), l1 k m1 p1 p2 p3 p4 = some r → Gw P 0 (Q r) (Pb c0 43 [] m1) (s1 p1 p2 p3 p4)
  | 0, _, _, _, _, H => by cases H
  | m1 + 1, p1, p2, p3, p4, H => SU (by kernel_rfl) (b1_ok (l1_ok k m1) H)
noncomputable def f (k : Nat) (a1 : List T814c.T) : Option R :=
  l1 k k a1 (a1.length : Int) 0 []
noncomputable def S : Spec := ⟨ps, rs, .any, none, fun x r => ∃ k, f k x.1 = some r⟩
theorem rl {k a1 r} (e : f k a1 = some r) : S.rel (a1, ()) r := ⟨k, e⟩
theorem f_ok {r k a1} (H : f k a1 = some r) : Gw P 0 (Q r) (Px c0 1 []) (⟨23, [(0, .cv (.one (.sl T814c a1 .any)))], []⟩) := by
  unfold f at H
  refine Rg V_ok 0 [] az (by kernel_rfl) ?_
  refine Rg V_ok 0 [] az (by kernel_rfl) ?_
  refine Rg V_ok 0 [] az (by kernel_rfl) ?_
  exact LP k (Jm {fz := [], gr := 1, ad := [.ownT 3 0 61 T814c], live := [3, 6, 7, 8], src := [some 0]} (by kernel_rfl) (by kernel_rfl) (l1_ok k k a1 (a1.length : Int) 0 [] H))
theorem fits : Fits P 43 S := fits_of V_ok Go.Proofs.Tryd.func43 (by kernel_rfl) (by decide) (by decide) rfl (fun x r ⟨k, H⟩ => of_G (f_ok H))
end f_table_own
/-! ### function 66, slices.Clone[[]wayfinder/api.Rule,wayfinder/api.Rule], whose answer is then the caller's own -/
namespace f_slices_Clone_Ruleo
noncomputable def c0 : Code := (Go.Proofs.Tryd.f66.body).getD .skip
abbrev ps : Sg := [(false, (.slice T1383))]
abbrev rs : Sg := [(false, .slice T1383)]
noncomputable def V : Env := { tt := tt, Γ := slk [] }
theorem V_ok : EnvOk P V := { ck := tt_ck, fits := slk_nil, mixed := mixed }
abbrev R := Tup rs
noncomputable abbrev Q (r : R) : Exit → St → Prop := QrO Go.Proofs.Tryd.f66.results 30 T1383 r
noncomputable def f (k : Nat) (a1 : List T1383.T) : Option R :=
  if (0 + a1.length) * 48 ≤ 140737488355328 then
    if 0 = 0 ∨ 0 < a1.length then
      some (([] ++ a1), ())
    else none
  else none
noncomputable def S : Spec := ⟨ps, rs, .any, some 30, fun x r => ∃ k, f k x.1 = some r⟩
theorem rl {k a1 r} (e : f k a1 = some r) : S.rel (a1, ()) r := ⟨k, e⟩
theorem f_ok {r k a1} (H : f k a1 = some r) : Gw P 0 (Q r) (Px c0 1 []) (⟨8, [(0, .cv (.one (.sl T1383 a1 .any)))], []⟩) := by
  unfold f at H
  refine Rg V_ok 0 [] az (by kernel_rfl) ?_
  refine NL (t := 0) (e := T1383) (xs := a1) (by kernel_rfl) (by kernel_rfl) (fun hx1 => ?_) ?_
  · subst hx1
    replace H := Eq.trans (by kernel_rfl : (some ([], ()) : Option R) = _) H
    refine Rg V_ok 0 [] az (by kernel_rfl) ?_
    refine C1 rfl (by kernel_rfl) ?_
    refine Rg V_ok 0 [] az (by kernel_rfl) ?_
    refine GT {gr := 1, ad := [.ownT 2 0 30 T1383], live := [2], src := [some 0]} (by kernel_rfl) ?_
    obtain rfl := Option.some.inj H
    exact LfO (by kernel_rfl)
  · refine Rg V_ok 0 [] az (by kernel_rfl) ?_
    refine C0 rfl (by kernel_rfl) ?_
    obtain ⟨n2, H⟩ := of_if H
    obtain ⟨n3, H⟩ := of_if H
    refine Rg V_ok 1 [(2, hb 0)] (ac n2 (ac n3 az)) (by kernel_rfl) ?_
    obtain rfl := Option.some.inj H
    exact LfO (by kernel_rfl)
theorem fits : Fits P 66 S := fits_ofO V_ok Go.Proofs.Tryd.func66 (by kernel_rfl) (by decide) (by decide) (fun x r ⟨k, H⟩ => of_G (f_ok H))
end f_slices_Clone_Ruleo
/-! ### function 43, wayfinder/table.own, where it is called -/
namespace L43
noncomputable def c0 : Code := (Go.Proofs.Tryd.f43.body).getD .skip
noncomputable def V : Env := { tt := tt, Γ := slk [(66, f_slices_Clone_Rule.S)] }
theorem V_ok : EnvOk P V := { ck := tt_ck, fits := slk_cons f_slices_Clone_Rule.fits (slk_nil), mixed := mixed }
noncomputable def VL : Env := { tt := tt, Γ := slk [(66, f_slices_Clone_Ruleo.S)] }
theorem VL_ok : EnvOk P VL := { ck := tt_ck, fits := slk_cons f_slices_Clone_Ruleo.fits (slk_nil), mixed := mixed }
abbrev R := (List (Int × List T1383.T)) × (Nat) × (List T1383.T) × Unit
noncomputable def s0 (p1 : List T814c.T) : St := ⟨23, [(0, .cv (.one (.sl T814c p1 .any)))], []⟩
noncomputable def out (r : R) : St := ⟨23, [(2, .cv (.one (.own 0)))], [(.lnk 61 (.int .i64) T1383 r.1 1 r.2.1, []), (.buf 30 T1383 r.2.2.1, [])]⟩
abbrev Q (r : R) := CallQ 0 (out r)
noncomputable def s1 (b : Bool) (p1 : List T814c.T) (p2 : Int) (p3 : Int) (p4 : List T814c.T) (c1 : List T814c.T) (c2 : Int) (c3 : Int) (c4 : List (Int × List T1383.T)) (c5 : Nat) (c6 : List T1383.T) : St := match b with
  | false => ⟨23, [(3, .cv (.one (.own 0))), (6, .cv (.one (.sl T814c p1 .any))), (7, .cv (.one (.int .i64 p2))), (8, .cv (.one (.int .i64 p3)))], [(.buf 61 T814c p4, [])]⟩
  | true => ⟨23, [(3, .cv (.one (.own 0))), (6, .cv (.one (.sl T814c c1 .any))), (7, .cv (.one (.int .i64 c2))), (8, .cv (.one (.int .i64 c3)))], [(.lnk 61 (.int .i64) T1383 c4 1 c5, []), (.buf 30 T1383 c6, [])]⟩
noncomputable def s2 (p1 : List T814c.T) (p2 : Int) (p3 : Int) (p4 : List (Int × List T1383.T)) (p5 : Nat) (p6 : List T1383.T) : St := ⟨23, [(3, .cv (.one (.own 0))), (6, .cv (.one (.sl T814c p1 .any))), (7, .cv (.one (.int .i64 p2))), (8, .cv (.one (.int .i64 p3)))], [(.lnk 61 (.int .i64) T1383 p4 1 p5, []), (.buf 30 T1383 p6, [])]⟩
noncomputable def j2 (L1 : Bool → List T814c.T → Int → Int → List T814c.T → List T814c.T → Int → Int → List (Int × List T1383.T) → Nat → List T1383.T → Option R) (q k : Nat) (p1 : List T814c.T) (p2 : Int) (p3 : Int) (p4 : List (Int × List T1383.T)) (p5 : Nat) (p6 : List T1383.T) : Option R :=
  L1 true [] 0 0 [] p1 p2 (IntKind.i64.wrap (p3 + 1)) p4 p5 p6
theorem j2_ok {r} {L1 : Bool → List T814c.T → Int → Int → List T814c.T → List T814c.T → Int → Int → List (Int × List T1383.T) → Nat → List T1383.T → Option R} {m1 : Nat} (hL1 : ∀ b p1 p2 p3 p4 c1 c2 c3 c4 c5 c6, L1 b p1 p2 p3 p4 c1 c2 c3 c4 c5 c6 = some r → Gw P 0 (Q r) (Pb c0 43 [] m1) (s1 b p1 p2 p3 p4 c1 c2 c3 c4 c5 c6)) {q k p1 p2 p3 p4 p5 p6} (H : j2 L1 q k p1 p2 p3 p4 p5 p6 = some r) : Gw P 0 (Q r) (Px c0 971 [m1]) (s2 p1 p2 p3 p4 p5 p6) := by
  unfold j2 at H
  refine Rg V_ok 0 [] az (by kernel_rfl) ?_
  exact Jm {fz := [], gr := 0, ad := [], live := [3, 6, 7, 8], src := [some 0, some 1]} (by kernel_rfl) (by kernel_rfl) (hL1 true [] 0 0 [] p1 p2 (IntKind.i64.wrap (p3 + 1)) p4 p5 p6 H)
noncomputable def b1 (L1 : Bool → List T814c.T → Int → Int → List T814c.T → List T814c.T → Int → Int → List (Int × List T1383.T) → Nat → List T1383.T → Option R) (q k : Nat) (b : Bool) (p1 : List T814c.T) (p2 : Int) (p3 : Int) (p4 : List T814c.T) (c1 : List T814c.T) (c2 : Int) (c3 : Int) (c4 : List (Int × List T1383.T)) (c5 : Nat) (c6 : List T1383.T) : Option R := match b with
  | false =>
    if (decide (p3 < p2)) = true then
      if 0 ≤ p3 then
        if p3 < (p1.length : Int) then
          if p4.length = q then
            (f_slices_Clone_Ruleo.f k ((att T814c p1 p3).2)).bind fun y5 =>
              if (p4.length + 1) * 32 ≤ 140737488355328 then
                j2 L1 q k p1 p2 p3 (p4 ++ [((att T814c p1 p3).1, ([] : List T1383.T))]) (p4.length) y5.1
              else none
          else
            (f_slices_Clone_Rule.f k ((att T814c p1 p3).2)).bind fun y8 =>
              if (p4.length + 1) * 32 ≤ 140737488355328 then
                L1 false p1 p2 (IntKind.i64.wrap (p3 + 1)) (p4 ++ [((att T814c p1 p3).1, y8.1)]) [] 0 0 [] 0 []
              else none
        else none
      else none
    else
      none
  | true =>
    if (decide (c3 < c2)) = true then
      if 0 ≤ c3 then
        if c3 < (c1.length : Int) then
          (f_slices_Clone_Rule.f k ((att T814c c1 c3).2)).bind fun y14 =>
            if (c4.length + 1) * 32 ≤ 140737488355328 then
              j2 L1 q k c1 c2 c3 (c4 ++ [((att T814c c1 c3).1, y14.1)]) c5 c6
            else none
        else none
      else none
    else
      some (c4, (c5, (c6, ())))
theorem b1_ok {r} {L1 : Bool → List T814c.T → Int → Int → List T814c.T → List T814c.T → Int → Int → List (Int × List T1383.T) → Nat → List T1383.T → Option R} {m1 : Nat} (hL1 : ∀ b p1 p2 p3 p4 c1 c2 c3 c4 c5 c6, L1 b p1 p2 p3 p4 c1 c2 c3 c4 c5 c6 = some r → Gw P 0 (Q r) (Pb c0 43 [] m1) (s1 b p1 p2 p3 p4 c1 c2 c3 c4 c5 c6)) {q k b p1 p2 p3 p4 c1 c2 c3 c4 c5 c6} (H : b1 L1 q k b p1 p2 p3 p4 c1 c2 c3 c4 c5 c6 = some r) : Gw P 0 (Q r) (Px c0 75 [m1]) (s1 b p1 p2 p3 p4 c1 c2 c3 c4 c5 c6) := by
  unfold b1 at H
  cases b with
  | false =>
    dsimp only at H
    refine Rg V_ok 0 [] az (by kernel_rfl) ?_
    rcases of_ite H with ⟨hb1, H⟩ | ⟨hb1, H⟩
    · refine C1 hb1 (by kernel_rfl) ?_
      obtain ⟨n2, H⟩ := of_if H
      obtain ⟨n3, H⟩ := of_if H
      refine Rg V_ok 1 [(2, hb 1)] (ac n2 (ac n3 az)) (by kernel_rfl) ?_
      rcases of_ifx H with ⟨hb4, H⟩ | ⟨hb4, H⟩
      · obtain ⟨y5, e6, H⟩ := of_bind H
        obtain ⟨n7, H⟩ := of_if H
        refine Rg VL_ok 2 [(5, {sb := 2, res := some ⟨f_slices_Clone_Ruleo.S.rs, y5⟩}), (7, {lk := true}), (8, {sb := 3, lk := true})] (ac (f_slices_Clone_Ruleo.rl e6) (ac n7 az)) (by kernel_rfl) ?_
        exact Jm {fz := [], gr := 0, ad := [], live := [3, 6, 7, 8], src := [some 3, some 2]} (by kernel_rfl) (by kernel_rfl) (j2_ok hL1 H)
      · obtain ⟨y8, e9, H⟩ := of_bind H
        obtain ⟨n10, H⟩ := of_if H
        refine Rg V_ok 1 [(5, hr f_slices_Clone_Rule.S y8), (8, hb 2)] (ac (f_slices_Clone_Rule.rl e9) (ac n10 az)) (by kernel_rfl) ?_
        refine Rg V_ok 0 [] az (by kernel_rfl) ?_
        exact Jm {fz := [], gr := 0, ad := [], live := [3, 6, 7, 8], src := [some 2]} (by kernel_rfl) (by kernel_rfl) (hL1 false p1 p2 (IntKind.i64.wrap (p3 + 1)) (p4 ++ [((att T814c p1 p3).1, y8.1)]) [] 0 0 [] 0 [] H)
    · refine C0 hb1 (by kernel_rfl) ?_
      refine Rg V_ok 0 [] az (by kernel_rfl) ?_
      cases H
  | true =>
    dsimp only at H
    refine Rg V_ok 0 [] az (by kernel_rfl) ?_
    rcases of_ite H with ⟨hb11, H⟩ | ⟨hb11, H⟩
    · refine C1 hb11 (by kernel_rfl) ?_
      obtain ⟨n12, H⟩ := of_if H
      obtain ⟨n13, H⟩ := of_if H
      refine Rg V_ok 1 [(2, hb 2)] (ac n12 (ac n13 az)) (by kernel_rfl) ?_
      obtain ⟨y14, e15, H⟩ := of_bind H
      obtain ⟨n16, H⟩ := of_if H
      refine Rg V_ok 1 [(5, hr f_slices_Clone_Rule.S y14), (8, {sb := 3, lk := true})] (ac (f_slices_Clone_Rule.rl e15) (ac (show 1 = 1 by decide) (ac n16 az))) (by kernel_rfl) ?_
      exact Jm {fz := [], gr := 0, ad := [], live := [3, 6, 7, 8], src := [some 3, some 1]} (by kernel_rfl) (by kernel_rfl) (j2_ok hL1 H)
    · refine C0 hb11 (by kernel_rfl) ?_
      refine Rg V_ok 0 [] az (by kernel_rfl) ?_
      obtain rfl := Option.some.inj H
      exact Lq {fz := [], gr := 0, ad := [], live := [2], src := [some 0, some 1]} (by kernel_rfl)
noncomputable def l1 (q k : Nat) : Nat → Bool → List T814c.T → Int → Int → List T814c.T → List T814c.T → Int → Int → List (Int × List T1383.T) → Nat → List T1383.T → Option R
  | 0, _, _, _, _, _, _, _, _, _, _, _ => none
  | m + 1, b, p1, p2, p3, p4, c1, c2, c3, c4, c5, c6 => b1 (l1 q k m) q k b p1 p2 p3 p4 c1 c2 c3 c4 c5 c6
theorem l1_ok {r} (q k : Nat) : ∀ (m1 : Nat) (b : Bool) (p1 : List T814c.T) (p2 : Int) (p3 : Int) (p4 : List T814c.T) (c1 : List T814c.T) (c2 : Int) (c3 : Int) (c4 : List (Int × List T1383.T)) (c5 : Nat) (c6 : List T1383.T), l1 q k m1 b p1 p2 p3 p4 c1 c2 c3 c4 c5 c6 = some r → Gw P 0 (Q r) (Pb c0 43 [] m1) (s1 b p1 p2 p3 p4 c1 c2 c3 c4 c5 c6)
  | 0, _, _, _, _, _, _, _, _, _, _, _, H => by cases H
  | m1 + 1, b, p1, p2, p3, p4, c1, c2, c3, c4, c5, c6, H => SU (by kernel_rfl) (b1_ok (l1_ok q k m1) H)
noncomputable def f (q k : Nat) (p1 : List T814c.T) : Option R :=
  l1 q k k false p1 (p1.length : Int) 0 [] [] 0 0 [] 0 []
theorem f_ok {r q k p1} (H : f q k p1 = some r) : Gw P 0 (Q r) (Px c0 1 []) (s0 p1) := by
  unfold f at H
  refine Rg V_ok 0 [] az (by kernel_rfl) ?_
  refine Rg V_ok 0 [] az (by kernel_rfl) ?_
  refine Rg V_ok 0 [] az (by kernel_rfl) ?_
  exact LP k (Jm {fz := [], gr := 1, ad := [.ownT 3 0 61 T814c], live := [3, 6, 7, 8], src := [some 0]} (by kernel_rfl) (by kernel_rfl) (l1_ok q k k false p1 (p1.length : Int) 0 [] [] 0 0 [] 0 [] H))
theorem ok {r q k p1} (H : f q k p1 = some r) : W P 0 c0 (s0 p1) (CallQ 0 (out r)) := of_G (f_ok H)
theorem at_ : FnAt P 43 23 c0 Go.Proofs.Tryd.f43.results := fnAt Go.Proofs.Tryd.func43 (by kernel_rfl) (by decide) (by kernel_rfl) (by kernel_rfl)
end L43
/-! ### function 43 with one of the slices kept apart -/
section
abbrev L43.E := T814c.T
theorem L43.clone (k : Nat) (y : List T1383.T) (h : y.length * 48 ≤ 140737488355328) : f_slices_Clone_Rule.f k y = some (y, ()) := by
  unfold f_slices_Clone_Rule.f
  rw [if_pos (by omega), if_pos (.inl rfl)]
  rfl
theorem L43.cloneo (k : Nat) (y : List T1383.T) (h : y.length * 48 ≤ 140737488355328) : f_slices_Clone_Ruleo.f k y = some (y, ()) := by
  unfold f_slices_Clone_Ruleo.f
  rw [if_pos (by omega), if_pos (.inl rfl)]
  rfl
theorem L43.wrap {n : Nat} (h : n * 32 ≤ 140737488355328) {j : Nat} (hj : j < n) : IntKind.i64.wrap ((j : Int) + 1) = ((j + 1 : Nat) : Int) := by
  rw [IntKind.wrap_i64]; omega
theorem L43.att_eq (xs : List L43.E) (j : Nat) (h : j < xs.length) : att T814c xs (j : Int) = xs[j] := by
  unfold att
  simp [h]
theorem L43.fit {xs : List L43.E} (h : lnkFit 32 48 xs = true) : (xs.length + 1) * 32 ≤ 140737488355328 ∧ ∀ j (hj : j < xs.length), (xs[j]).2.length * 48 ≤ 140737488355328 := by
  unfold lnkFit at h
  simp only [Bool.and_eq_true, List.all_eq_true] at h
  exact ⟨Nat.le_of_ble_eq_true h.1, fun j hj => Nat.le_of_ble_eq_true (h.2 _ (List.getElem_mem hj))⟩
theorem L43.runC (q k : Nat) (xs : List L43.E) (hf : lnkFit 32 48 xs = true) (i : Nat) (ys : List T1383.T) : ∀ (d j : Nat) (zs : List L43.E), d = xs.length - j → j ≤ xs.length → zs.length = j → ∀ m, d < m →
    L43.l1 q k m true [] 0 0 [] xs (xs.length : Int) (j : Int) zs i ys = some (zs ++ xs.drop j, (i, (ys, ()))) := by
  obtain ⟨f1, f2⟩ := L43.fit hf
  intro d
  induction d with
  | zero =>
    intro j zs hd hj hz m hm
    obtain ⟨m, rfl⟩ : ∃ m', m = m' + 1 := ⟨m - 1, by omega⟩
    obtain rfl : j = xs.length := by omega
    simp only [L43.l1, L43.b1]
    rw [if_neg (by simp), List.drop_length, List.append_nil]
  | succ d ih =>
    intro j zs hd hj hz m hm
    obtain ⟨m, rfl⟩ : ∃ m', m = m' + 1 := ⟨m - 1, by omega⟩
    have hlt : j < xs.length := by omega
    simp only [L43.l1, L43.b1]
    rw [if_pos (by simp; omega), if_pos (by omega), if_pos (by omega), L43.att_eq xs j hlt, L43.clone k _ (f2 j hlt)]
    simp only [Option.bind_some]
    rw [if_pos (by rw [hz]; omega)]
    unfold L43.j2
    rw [L43.wrap (n := xs.length) (by omega) hlt, ih (j + 1) _ (by omega) (by omega) (by simp [hz]) m (by omega), List.append_assoc]
    congr 2
    show zs ++ (xs[j] :: xs.drop (j + 1)) = _
    rw [List.drop_eq_getElem_cons hlt]
theorem L43.runA (k : Nat) (xs : List L43.E) (hf : lnkFit 32 48 xs = true) (q : Nat) (hq : q < xs.length) : ∀ (d j : Nat), d = q - j → j ≤ q → ∀ m, xs.length - j < m →
    L43.l1 q k m false xs (xs.length : Int) (j : Int) (xs.take j) [] 0 0 [] 0 [] = some (xs.take q ++ [((xs[q]).1, [])] ++ xs.drop (q + 1), (q, ((xs[q]).2, ()))) := by
  obtain ⟨f1, f2⟩ := L43.fit hf
  intro d
  induction d with
  | zero =>
    intro j hd hj m hm
    obtain ⟨m, rfl⟩ : ∃ m', m = m' + 1 := ⟨m - 1, by omega⟩
    obtain rfl : j = q := by omega
    have htl : (xs.take j).length = j := by rw [List.length_take]; omega
    simp only [L43.l1, L43.b1]
    rw [if_pos (by simp; omega), if_pos (by omega), if_pos (by omega), if_pos htl, L43.att_eq xs j hq, L43.cloneo k _ (f2 j hq)]
    simp only [Option.bind_some]
    rw [if_pos (by rw [htl]; omega)]
    unfold L43.j2
    rw [htl, L43.wrap (n := xs.length) (by omega) hq]
    exact L43.runC j k xs hf j _ (xs.length - (j + 1)) (j + 1) _ rfl (by omega) (by simp; omega) m (by omega)
  | succ d ih =>
    intro j hd hj m hm
    obtain ⟨m, rfl⟩ : ∃ m', m = m' + 1 := ⟨m - 1, by omega⟩
    have hlt : j < xs.length := by omega
    have htl : (xs.take j).length = j := by rw [List.length_take]; omega
    simp only [L43.l1, L43.b1]
    rw [if_pos (by simp; omega), if_pos (by omega), if_pos (by omega), if_neg (by rw [htl]; omega), L43.att_eq xs j hlt, L43.clone k _ (f2 j hlt)]
    simp only [Option.bind_some]
    rw [if_pos (by rw [htl]; omega), L43.wrap (n := xs.length) (by omega) hlt]
    have hs : xs.take j ++ [((xs[j]).1, (xs[j]).2)] = xs.take (j + 1) := by
      show xs.take j ++ [xs[j]] = _
      rw [List.take_append_getElem hlt]
    rw [hs]
    exact ih (j + 1) (by omega) (by omega) m (by omega)
theorem L43.prim : LnkOk P 43 61 30 (.int .i64) T1383 32 48 where
  enter := enters_of Go.Proofs.Tryd.func43 (by kernel_rfl : Go.Proofs.Tryd.f43.body = some ((Go.Proofs.Tryd.f43.body).getD .skip)) (by decide)
  calls := fun F xs i x v w hF hv hx hfit => by
    obtain ⟨hi, hxi⟩ := List.getElem?_eq_some_iff.1 hx
    have hrun := L43.runA (xs.length + 1) xs hfit i hi i 0 rfl (Nat.zero_le _) (xs.length + 1) (by omega)
    have hl : (xs.take i).length = i := by rw [List.length_take]; omega
    rw [hxi] at hrun
    exact lnk_of (i := i) (ys := x.2) (x := ((x.1, []) : L43.E)) (zs := xs.take i ++ [(x.1, [])] ++ xs.drop (i + 1)) tt_ck Go.Proofs.Tryd.func43 (by kernel_rfl : Go.Proofs.Tryd.f43.body = some ((Go.Proofs.Tryd.f43.body).getD .skip)) (by kernel_rfl) (by decide) (L43.ok hrun) (by rw [List.append_assoc, List.take_append_of_le_length (by omega), List.take_of_length_le (by omega)]) (by rw [List.append_assoc, List.getElem?_append_right (by omega), hl, Nat.sub_self]; rfl) (by rw [List.drop_append_of_le_length (by simp; omega), List.drop_of_length_le (by simp; omega), List.nil_append]) (by simp; omega) hF hv
end

/-! ### function 67, wayfinder/table.at$1, where it is called -/
namespace i_table_at_1_8ee
noncomputable def c0 : Code := (Go.Proofs.Tryd.f67.body).getD .skip
noncomputable def V : Env := { tt := tt, Γ := slk [] }
theorem V_ok : EnvOk P V := { ck := tt_ck, fits := slk_nil, mixed := mixed }
abbrev R := (Bool) × Unit
noncomputable def s0 (p1 : T814c.T) (p2 : Int) : St := ⟨8, [(0, .cv (.agg [.int .i64 p1.1, .sl T1383 p1.2 .any])), (1, .cv (.one (.ptr 0 0)))], [(.box 1, [.int .i64 p2])]⟩
noncomputable def out (p1 : T814c.T) (p2 : Int) (r : R) : St := ⟨8, [(3, .cv (.one (.bool r.1)))], [(.box 1, [.int .i64 p2])]⟩
abbrev Q (p1 : T814c.T) (p2 : Int) (r : R) := CallQ 1 (out p1 p2 r)
noncomputable def f (k : Nat) (p1 : T814c.T) (p2 : Int) : Option R :=
  some ((p1.1 == p2), ())
theorem f_ok {r k p1 p2} (H : f k p1 p2 = some r) : Gw P 1 (Q p1 p2 r) (Px c0 1 []) (s0 p1 p2) := by
  unfold f at H
  refine Rg V_ok 1 [(0, hb 1)] az (by kernel_rfl) ?_
  refine Rg V_ok 0 [] az (by kernel_rfl) ?_
  obtain rfl := Option.some.inj H
  exact Lq {fz := [], gr := 0, ad := [], live := [3], src := [some 0]} (by kernel_rfl)
theorem ok {r k p1 p2} (H : f k p1 p2 = some r) : W P 1 c0 (s0 p1 p2) (CallQ 1 (out p1 p2 r)) := of_G (f_ok H)
theorem at_ : FnAt P 67 8 c0 Go.Proofs.Tryd.f67.results := fnAt Go.Proofs.Tryd.func67 (by kernel_rfl) (by decide) (by kernel_rfl) (by kernel_rfl)
end i_table_at_1_8ee
/-! ### function 69, slices.IndexFunc[[]wayfinder/api.Ver,wayfinder/api.Ver], where it is called -/
namespace i_slices_IndexFunc_Ver_3c9
noncomputable def c0 : Code := (Go.Proofs.Tryd.f69.body).getD .skip
noncomputable def V : Env := { tt := tt, Γ := slk [] }
theorem V_ok : EnvOk P V := { ck := tt_ck, fits := slk_nil, mixed := mixed }
abbrev R := (Int) × (Int) × Unit
noncomputable def s0 (p1 : List T814c.T) (p2 : Int) : St := ⟨19, [(0, .cv (.one (.sl T814c p1 .any))), (1, .cv (.one (.fn 67 [] [(0, 0)])))], [(.box 1, [.int .i64 p2])]⟩
noncomputable def out (r : R) : St := ⟨19, [(4, .cv (.one (.int .i64 r.1)))], [(.box 1, [.int .i64 r.2.1])]⟩
abbrev Q (r : R) := CallQ 1 (out r)
noncomputable def s1 (p1 : List T814c.T) (p2 : Int) (p3 : Int) (p4 : Int) : St := ⟨19, [(0, .cv (.one (.sl T814c p1 .any))), (1, .cv (.one (.fn 67 [] [(0, 0)]))), (7, .cv (.one (.int .i64 p2))), (8, .cv (.one (.int .i64 p3)))], [(.box 1, [.int .i64 p4])]⟩
noncomputable def b1 (L1 : List T814c.T → Int → Int → Int → Option R) (k : Nat) (p1 : List T814c.T) (p2 : Int) (p3 : Int) (p4 : Int) : Option R :=
  if (decide (p3 < p2)) = true then
  if 0 ≤ p3 then
    if p3 < (p1.length : Int) then
      (i_table_at_1_8ee.f k (att T814c p1 p3) p4).bind fun y4 =>
        if y4.1 = true then
          some (p3, (p4, ()))
        else
          L1 p1 p2 (IntKind.i64.wrap (p3 + 1)) p4
    else none
  else none
else
  some ((-1), (p4, ()))
theorem b1_ok {r} {L1 : List T814c.T → Int → Int → Int → Option R} {m1 : Nat} (hL1 : ∀ p1 p2 p3 p4, L1 p1 p2 p3 p4 = some r → Gw P 1 (Q r) (Pb c0 21 [] m1) (s1 p1 p2 p3 p4)) {k p1 p2 p3 p4} (H : b1 L1 k p1 p2 p3 p4 = some r) : Gw P 1 (Q r) (Px c0 37 [m1]) (s1 p1 p2 p3 p4) := by
  unfold b1 at H
  refine Rg V_ok 0 [] az (by kernel_rfl) ?_
  rcases of_ite H with ⟨hb1, H⟩ | ⟨hb1, H⟩
  · refine C1 hb1 (by kernel_rfl) ?_
    refine Rg V_ok 0 [] az (by kernel_rfl) ?_
    refine GT {live := [0, 1, 5, 7, 8], src := [some 0]} (by kernel_rfl) (RI (by kernel_rfl) ?_)
    obtain ⟨n2, H⟩ := of_if H
    obtain ⟨n3, H⟩ := of_if H
    refine EV V_ok 0 [] 5 (ac n2 (ac n3 az)) (by kernel_rfl) ?_
    obtain ⟨y4, e5, H⟩ := of_bind H
    refine CL V_ok i_table_at_1_8ee.at_ (i_table_at_1_8ee.ok e5) (by kernel_rfl) (by kernel_rfl) (by kernel_rfl) ?_
    refine RN (by kernel_rfl) (by kernel_rfl) ?_
    rcases of_ite H with ⟨hb6, H⟩ | ⟨hb6, H⟩
    · refine C1 hb6 (by kernel_rfl) ?_
      refine Rg V_ok 0 [] az (by kernel_rfl) ?_
      obtain rfl := Option.some.inj H
      exact Lq {fz := [], gr := 0, ad := [], live := [4], src := [some 0]} (by kernel_rfl)
    · refine C0 hb6 (by kernel_rfl) ?_
      refine Rg V_ok 0 [] az (by kernel_rfl) ?_
      exact Jm {fz := [], gr := 0, ad := [], live := [0, 1, 7, 8], src := [some 0]} (by kernel_rfl) (by kernel_rfl) (hL1 p1 p2 (IntKind.i64.wrap (p3 + 1)) p4 H)
  · refine C0 hb1 (by kernel_rfl) ?_
    refine Rg V_ok 0 [] az (by kernel_rfl) ?_
    obtain rfl := Option.some.inj H
    exact Lq {fz := [], gr := 0, ad := [], live := [4], src := [some 0]} (by kernel_rfl)
noncomputable def l1 (k : Nat) : Nat → List T814c.T → Int → Int → Int → Option R
  | 0, _, _, _, _ => none
  | m + 1, p1, p2, p3, p4 => b1 (l1 k m) k p1 p2 p3 p4
theorem l1_ok {r} (k : Nat) : ∀ (m1 : Nat) (p1 : List T814c.T) (p2 : Int) (p3 : Int) (p4 : Int), l1 k m1 p1 p2 p3 p4 = some r → Gw P 1 (Q r) (Pb c0 21 [] m1) (s1 p1 p2 p3 p4)
  | 0, _, _, _, _, H => by cases H
  | m1 + 1, p1, p2, p3, p4, H => SU (by kernel_rfl) (b1_ok (l1_ok k m1) H)
noncomputable def f (k : Nat) (p1 : List T814c.T) (p2 : Int) : Option R :=
  l1 k k p1 (p1.length : Int) 0 p2
theorem f_ok {r k p1 p2} (H : f k p1 p2 = some r) : Gw P 1 (Q r) (Px c0 1 []) (s0 p1 p2) := by
  unfold f at H
  refine Rg V_ok 0 [] az (by kernel_rfl) ?_
  refine Rg V_ok 0 [] az (by kernel_rfl) ?_
  exact LP k (Jm {fz := [], gr := 0, ad := [], live := [0, 1, 7, 8], src := [some 0]} (by kernel_rfl) (by kernel_rfl) (l1_ok k k p1 (p1.length : Int) 0 p2 H))
theorem ok {r k p1 p2} (H : f k p1 p2 = some r) : W P 1 c0 (s0 p1 p2) (CallQ 1 (out r)) := of_G (f_ok H)
theorem at_ : FnAt P 69 19 c0 Go.Proofs.Tryd.f69.results := fnAt Go.Proofs.Tryd.func69 (by kernel_rfl) (by decide) (by kernel_rfl) (by kernel_rfl)
end i_slices_IndexFunc_Ver_3c9
/-! ### function 48, wayfinder/table.first[wayfinder/api.Ver], where it is called -/
namespace i_table_first_Ver_3c9
noncomputable def c0 : Code := (Go.Proofs.Tryd.f48.body).getD .skip
noncomputable def V : Env := { tt := tt, Γ := slk [] }
theorem V_ok : EnvOk P V := { ck := tt_ck, fits := slk_nil, mixed := mixed }
abbrev R := (Int) × (Int) × Unit
noncomputable def s0 (p1 : List T814c.T) (p2 : Int) : St := ⟨14, [(0, .cv (.one (.sl T814c p1 .any))), (1, .cv (.one (.fn 67 [] [(0, 0)])))], [(.box 1, [.int .i64 p2])]⟩
noncomputable def out (r : R) : St := ⟨14, [(4, .cv (.one (.int .i64 r.1)))], [(.box 1, [.int .i64 r.2.1])]⟩
abbrev Q (r : R) := CallQ 1 (out r)
noncomputable def f (k : Nat) (p1 : List T814c.T) (p2 : Int) : Option R :=
  (i_slices_IndexFunc_Ver_3c9.f k p1 p2).bind fun y1 =>
    if (decide (y1.1 ≥ (0 : Int))) = true then
      some (y1.1, (y1.2.1, ()))
    else
      some ((p1.length : Int), (y1.2.1, ()))
theorem f_ok {r k p1 p2} (H : f k p1 p2 = some r) : Gw P 1 (Q r) (Px c0 1 []) (s0 p1 p2) := by
  unfold f at H
  refine Rg V_ok 0 [] az (by kernel_rfl) ?_
  refine GT {live := [0, 1], src := [some 0]} (by kernel_rfl) (RI (by kernel_rfl) ?_)
  refine EV V_ok 0 [] 2 az (by kernel_rfl) ?_
  obtain ⟨y1, e2, H⟩ := of_bind H
  refine CL V_ok i_slices_IndexFunc_Ver_3c9.at_ (i_slices_IndexFunc_Ver_3c9.ok e2) (by kernel_rfl) (by kernel_rfl) (by kernel_rfl) ?_
  refine EV V_ok 0 [] 1 az (by kernel_rfl) ?_
  refine RN (by kernel_rfl) (by kernel_rfl) ?_
  refine Rg V_ok 0 [] az (by kernel_rfl) ?_
  rcases of_ite H with ⟨hb3, H⟩ | ⟨hb3, H⟩
  · refine C1 hb3 (by kernel_rfl) ?_
    refine Rg V_ok 0 [] az (by kernel_rfl) ?_
    obtain rfl := Option.some.inj H
    exact Lq {fz := [], gr := 0, ad := [], live := [4], src := [some 0]} (by kernel_rfl)
  · refine C0 hb3 (by kernel_rfl) ?_
    refine Rg V_ok 0 [] az (by kernel_rfl) ?_
    obtain rfl := Option.some.inj H
    exact Lq {fz := [], gr := 0, ad := [], live := [4], src := [some 0]} (by kernel_rfl)
theorem ok {r k p1 p2} (H : f k p1 p2 = some r) : W P 1 c0 (s0 p1 p2) (CallQ 1 (out r)) := of_G (f_ok H)
theorem at_ : FnAt P 48 14 c0 Go.Proofs.Tryd.f48.results := fnAt Go.Proofs.Tryd.func48 (by kernel_rfl) (by decide) (by kernel_rfl) (by kernel_rfl)
end i_table_first_Ver_3c9
/-! ### function 44, wayfinder/table.at -/
namespace f_table_at
noncomputable def c0 : Code := (Go.Proofs.Tryd.f44.body).getD .skip
abbrev ps : Sg := [(false, (.slice T814c)), (false, (.int .i64))]
abbrev rs : Sg := [(false, (.int .i64))]
noncomputable def V : Env := { tt := tt, Γ := slk [] }
theorem V_ok : EnvOk P V := { ck := tt_ck, fits := slk_nil, mixed := mixed }
abbrev R := Tup rs
noncomputable abbrev Q (r : R) : Exit → St → Prop := Qr tt Go.Proofs.Tryd.f44.results ⟨ps, rs, .any, none, fun _ _ => True⟩ r
noncomputable def f (k : Nat) (a1 : List T814c.T) (a2 : Int) : Option R :=
  (i_table_first_Ver_3c9.f k a1 a2).bind fun y1 =>
    some (y1.1, ())
noncomputable def S : Spec := ⟨ps, rs, .any, none, fun x r => ∃ k, f k x.1 x.2.1 = some r⟩
theorem rl {k a1 a2 r} (e : f k a1 a2 = some r) : S.rel (a1, a2, ()) r := ⟨k, e⟩
theorem f_ok {r k a1 a2} (H : f k a1 a2 = some r) : Gw P 0 (Q r) (Px c0 1 []) (⟨8, [(0, .cv (.one (.sl T814c a1 .any))), (1, .cv (.one (.int .i64 a2)))], []⟩) := by
  unfold f at H
  refine Rg V_ok 1 [(0, hb 0)] az (by kernel_rfl) ?_
  refine GT {live := [0, 3], src := [some 0]} (by kernel_rfl) (RI (by kernel_rfl) ?_)
  refine EV V_ok 0 [] 2 az (by kernel_rfl) ?_
  obtain ⟨y1, e2, H⟩ := of_bind H
  refine CL V_ok i_table_first_Ver_3c9.at_ (i_table_first_Ver_3c9.ok e2) (by kernel_rfl) (by kernel_rfl) (by kernel_rfl) ?_
  refine EV V_ok 0 [] 1 az (by kernel_rfl) ?_
  refine RN (by kernel_rfl) (by kernel_rfl) ?_
  exact Lf (Eq.trans (by kernel_rfl) H)
theorem fits : Fits P 44 S := fits_of V_ok Go.Proofs.Tryd.func44 (by kernel_rfl) (by decide) (by decide) rfl (fun x r ⟨k, H⟩ => of_G (f_ok H))
end f_table_at
end Go.Proofs.YthfdkmbijjkmaaaDoor.V
