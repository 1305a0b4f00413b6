/- Functions of the program, as Lean functions, and that the code answers so. Printed by vgen.py. -/
import Derived.Test.YtkhjemahenkdiaaDoorVF1
namespace Go.Proofs.YtkhjemahenkdiaaDoor.V
open Go Go.RowKit
set_option linter.unusedVariables false
set_option linter.unusedSimpArgs false
set_option maxRecDepth 100000
set_option maxHeartbeats 4000000
/-! ### function 54, (*wayfinder/control.controller).two, where it is called -/
namespace i_control_controller_two_e61
noncomputable def c0 : Code := (Go.Proofs.Tryd.f54.body).getD .skip
noncomputable def V : Env := { tt := tt, Γ := slk [(87, f_slices_Contains_int.S)] }
theorem V_ok : EnvOk P V := { ck := tt_ck, fits := slk_cons f_slices_Contains_int.fits (slk_nil), mixed := mixed }
abbrev R := (Bool) × Unit
noncomputable def s0 (x1 : T26b3.T) : St := ⟨10, [(0, .cv (.one (.ptr 0 0)))], [(.box 13, (encC .any T26b3 x1)), (.box 1, [.ptr 0 0])]⟩
noncomputable def out (x1 : T26b3.T) (r : R) : St := ⟨10, [(2, .cv (.one (.bool r.1)))], [(.box 13, (encC .any T26b3 x1)), (.box 1, [.ptr 0 0])]⟩
abbrev Q (x1 : T26b3.T) (r : R) := CallQ 2 (out x1 r)
noncomputable def f (k : Nat) (x1 : T26b3.T) : Option R :=
  (f_slices_Contains_int.f k [1, 2, 3] x1.2.2.2.2.2.1).bind fun y1 =>
    some (y1.1, ())
theorem f_ok {r k x1} (H : f k x1 = some r) : Gw P 2 (Q x1 r) (Px c0 1 []) (s0 x1) := by
  unfold f at H
  refine Rg V_ok 0 [] az ?_
  obtain ⟨y1, e2, H⟩ := of_bind H
  refine Rg V_ok 0 [(6, hr f_slices_Contains_int.S y1)] (ac (f_slices_Contains_int.rl e2) az) ?_
  obtain rfl := Option.some.inj H
  exact Lq (tn [2] 2)
theorem ok {r k x1} (H : f k x1 = some r) : W P 2 c0 (s0 x1) (CallQ 2 (out x1 r)) := of_G (f_ok H)
theorem at_ : FnAt P 54 10 c0 Go.Proofs.Tryd.f54.results := fnAt Go.Proofs.Tryd.func54 (by kernel_rfl) (by decide) (by kernel_rfl) (by kernel_rfl)
end i_control_controller_two_e61
/-! ### function 53, (*wayfinder/control.controller).is$1, where it is called -/
namespace i_control_controller_is_1_797
noncomputable def c0 : Code := (Go.Proofs.Tryd.f53.body).getD .skip
noncomputable def V : Env := { tt := tt, Γ := slk [] }
theorem V_ok : EnvOk P V := { ck := tt_ck, fits := slk_nil, mixed := mixed }
abbrev R := (Bool) × Unit
noncomputable def s0 (x1 : Int) (x2 : T26b3.T) : St := ⟨16, [(0, .cv (.one (.i x1))), (1, .cv (.one (.ptr 1 0)))], [(.box 13, (encC .any T26b3 x2)), (.box 1, [.ptr 0 0])]⟩
noncomputable def out (x2 : T26b3.T) (r : R) : St := ⟨16, [(3, .cv (.one (.bool r.1)))], [(.box 13, (encC .any T26b3 x2)), (.box 1, [.ptr 0 0])]⟩
abbrev Q (x2 : T26b3.T) (r : R) := CallQ 2 (out x2 r)
noncomputable def f (k : Nat) (x1 : Int) (x2 : T26b3.T) : Option R :=
  if (decide (x1 < (0 : Int))) = true then
    some (true, ())
  else
    some ((decide (x1 ≥ (x2.1.length : Int))), ())
theorem f_ok {r k x1 x2} (H : f k x1 x2 = some r) : Gw P 2 (Q x2 r) (Px c0 1 []) (s0 x1 x2) := by
  unfold f at H
  refine Rg V_ok 0 [] az ?_
  rcases of_ite H with ⟨hb1, H⟩ | ⟨hb1, H⟩
  · refine Rg V_ok 0 [(1, {bv := some true})] (ac hb1 az) ?_
    obtain rfl := Option.some.inj H
    exact Lq (tn [3] 2)
  · refine Rg V_ok 0 [(1, {bv := some false})] (ac hb1 az) ?_
    obtain rfl := Option.some.inj H
    exact Lq (tn [3] 2)
theorem ok {r k x1 x2} (H : f k x1 x2 = some r) : W P 2 c0 (s0 x1 x2) (CallQ 2 (out x2 r)) := of_G (f_ok H)
theorem at_ : FnAt P 53 16 c0 Go.Proofs.Tryd.f53.results := fnAt Go.Proofs.Tryd.func53 (by kernel_rfl) (by decide) (by kernel_rfl) (by kernel_rfl)
end i_control_controller_is_1_797
/-! ### function 88, slices.IndexFunc[[]int,int], where it is called -/
namespace i_slices_IndexFunc_int_a51
noncomputable def c0 : Code := (Go.Proofs.Tryd.f88.body).getD .skip
noncomputable def V : Env := { tt := tt, Γ := slk [] }
theorem V_ok : EnvOk P V := { ck := tt_ck, fits := slk_nil, mixed := mixed }
abbrev R := (Int) × Unit
noncomputable def s0 (x1 : List Int) (x2 : T26b3.T) : St := ⟨19, [(0, .cv (.one (.sl (.int .i64) x1 .any))), (1, .cv (.one (.fn 53 [] [(1, 0)])))], [(.box 13, (encC .any T26b3 x2)), (.box 1, [.ptr 0 0])]⟩
noncomputable def out (x2 : T26b3.T) (r : R) : St := ⟨19, [(4, .cv (.one (.i r.1)))], [(.box 13, (encC .any T26b3 x2)), (.box 1, [.ptr 0 0])]⟩
abbrev Q (x2 : T26b3.T) (r : R) := CallQ 2 (out x2 r)
noncomputable def s1 (x1 : List Int) (x2 : T26b3.T) (p2 p3 : Int) : St := ⟨19, [(0, .cv (.one (.sl (.int .i64) x1 .any))), (1, .cv (.one (.fn 53 [] [(1, 0)]))), (7, .cv (.one (.i p2))), (8, .cv (.one (.i p3)))], [(.box 13, (encC .any T26b3 x2)), (.box 1, [.ptr 0 0])]⟩
noncomputable def b1 (x1 : List Int) (x2 : T26b3.T) (L1 : Int → Int → Option R) (k : Nat) (p2 p3 : Int) : Option R :=
  if (decide (p3 < p2)) = true then
  if 0 ≤ p3 then
    if p3 < (x1.length : Int) then
      (i_control_controller_is_1_797.f k (att (.int .i64) x1 p3) x2).bind fun y4 =>
        if y4.1 = true then
          some (p3, ())
        else
          L1 p2 (IntKind.i64.wrap (p3 + 1))
    else none
  else none
else
  some ((-1), ())
theorem b1_ok {r x1 x2} {L1 : Int → Int → Option R} {m1 : Nat} (hL1 : ∀ p2 p3, L1 p2 p3 = some r → Gw P 2 (Q x2 r) (Pb c0 21 [] m1) (s1 x1 x2 p2 p3)) {k p2 p3} (H : b1 x1 x2 L1 k p2 p3 = some r) : Gw P 2 (Q x2 r) (Px c0 37 [m1]) (s1 x1 x2 p2 p3) := by
  unfold b1 at H
  refine Rg V_ok 0 [] az ?_
  rcases of_ite H with ⟨hb1, H⟩ | ⟨hb1, H⟩
  · refine C1 hb1 ?_
    refine Rg V_ok 0 [] az ?_
    refine GT (tn [0, 1, 5, 7, 8] 2) (RI ?_)
    obtain ⟨n2, H⟩ := of_if H
    obtain ⟨n3, H⟩ := of_if H
    refine EV V_ok 0 [] 5 (ac n2 (ac n3 az)) ?_
    obtain ⟨y4, e5, H⟩ := of_bind H
    refine CL V_ok i_control_controller_is_1_797.at_ (i_control_controller_is_1_797.ok e5) ?_
    refine RN ?_
    rcases of_ite H with ⟨hb6, H⟩ | ⟨hb6, H⟩
    · refine C1 hb6 ?_
      refine Rg V_ok 0 [] az ?_
      obtain rfl := Option.some.inj H
      exact Lq (tn [4] 2)
    · refine C0 hb6 ?_
      refine Rg V_ok 0 [] az ?_
      exact Jm (tn [0, 1, 7, 8] 2) (hL1 p2 (IntKind.i64.wrap (p3 + 1)) H)
  · refine C0 hb1 ?_
    refine Rg V_ok 0 [] az ?_
    obtain rfl := Option.some.inj H
    exact Lq (tn [4] 2)
noncomputable def l1 (x1 : List Int) (x2 : T26b3.T) (k : Nat) : Nat → Int → Int → Option R
  | 0, _, _ => none
  | m + 1, p2, p3 => b1 x1 x2 (l1 x1 x2 k m) k p2 p3
theorem l1_ok {r x1 x2} (k : Nat) : ∀ (m1 : Nat) (p2 : Int) (p3 : Int), l1 x1 x2 k m1 p2 p3 = some r → Gw P 2 (Q x2 r) (Pb c0 21 [] m1) (s1 x1 x2 p2 p3)
  | 0, _, _, H => by cases H
  | m1 + 1, p2, p3, H => SU (by kernel_rfl) (b1_ok (l1_ok k m1) H)
noncomputable def f (k : Nat) (x1 : List Int) (x2 : T26b3.T) : Option R :=
  l1 x1 x2 k k (x1.length : Int) 0
theorem f_ok {r k x1 x2} (H : f k x1 x2 = some r) : Gw P 2 (Q x2 r) (Px c0 1 []) (s0 x1 x2) := by
  unfold f at H
  refine Rg V_ok 0 [] az ?_
  refine Rg V_ok 0 [] az ?_
  exact LP k (Jm (tn [0, 1, 7, 8] 2) (l1_ok k k (x1.length : Int) 0 H))
theorem ok {r k x1 x2} (H : f k x1 x2 = some r) : W P 2 c0 (s0 x1 x2) (CallQ 2 (out x2 r)) := of_G (f_ok H)
theorem at_ : FnAt P 88 19 c0 Go.Proofs.Tryd.f88.results := fnAt Go.Proofs.Tryd.func88 (by kernel_rfl) (by decide) (by kernel_rfl) (by kernel_rfl)
end i_slices_IndexFunc_int_a51
/-! ### function 55, slices.ContainsFunc[[]int,int], where it is called -/
namespace i_slices_ContainsFunc_int_a51
noncomputable def c0 : Code := (Go.Proofs.Tryd.f55.body).getD .skip
noncomputable def V : Env := { tt := tt, Γ := slk [] }
theorem V_ok : EnvOk P V := { ck := tt_ck, fits := slk_nil, mixed := mixed }
abbrev R := (Bool) × Unit
noncomputable def s0 (x1 : List Int) (x2 : T26b3.T) : St := ⟨9, [(0, .cv (.one (.sl (.int .i64) x1 .any))), (1, .cv (.one (.fn 53 [] [(1, 0)])))], [(.box 13, (encC .any T26b3 x2)), (.box 1, [.ptr 0 0])]⟩
noncomputable def out (x2 : T26b3.T) (r : R) : St := ⟨9, [(4, .cv (.one (.bool r.1)))], [(.box 13, (encC .any T26b3 x2)), (.box 1, [.ptr 0 0])]⟩
abbrev Q (x2 : T26b3.T) (r : R) := CallQ 2 (out x2 r)
noncomputable def f (k : Nat) (x1 : List Int) (x2 : T26b3.T) : Option R :=
  (i_slices_IndexFunc_int_a51.f k x1 x2).bind fun y1 =>
    some ((decide (y1.1 ≥ (0 : Int))), ())
theorem f_ok {r k x1 x2} (H : f k x1 x2 = some r) : Gw P 2 (Q x2 r) (Px c0 1 []) (s0 x1 x2) := by
  unfold f at H
  refine Rg V_ok 0 [] az ?_
  refine GT (tn [0, 1] 2) (RI ?_)
  refine EV V_ok 0 [] 2 az ?_
  obtain ⟨y1, e2, H⟩ := of_bind H
  refine CL V_ok i_slices_IndexFunc_int_a51.at_ (i_slices_IndexFunc_int_a51.ok e2) ?_
  refine EV V_ok 0 [] 2 az ?_
  refine RN ?_
  obtain rfl := Option.some.inj H
  exact Lq (tn [4] 2)
theorem ok {r k x1 x2} (H : f k x1 x2 = some r) : W P 2 c0 (s0 x1 x2) (CallQ 2 (out x2 r)) := of_G (f_ok H)
theorem at_ : FnAt P 55 9 c0 Go.Proofs.Tryd.f55.results := fnAt Go.Proofs.Tryd.func55 (by kernel_rfl) (by decide) (by kernel_rfl) (by kernel_rfl)
end i_slices_ContainsFunc_int_a51
/-! ### function 23, (*wayfinder/control.controller).is, where it is called -/
namespace i_control_controller_is_e28
noncomputable def c0 : Code := (Go.Proofs.Tryd.f23.body).getD .skip
noncomputable def V : Env := { tt := tt, Γ := slk [] }
theorem V_ok : EnvOk P V := { ck := tt_ck, fits := slk_nil, mixed := mixed }
abbrev R := (Bool) × Unit
noncomputable def s0 (x1 : T26b3.T) : St := ⟨57, [(0, .cv (.one (.ptr 0 0)))], [(.box 13, (encC .any T26b3 x1))]⟩
noncomputable def out (x1 : T26b3.T) (r : R) : St := ⟨57, [(2, .cv (.one (.bool r.1)))], [(.box 13, (encC .any T26b3 x1))]⟩
abbrev Q (x1 : T26b3.T) (r : R) := CallQ 1 (out x1 r)
noncomputable def s1 (x1 : T26b3.T) (p1 : Bool) : St := ⟨57, [(1, .cv (.one (.ptr 1 0))), (3, .cv (.one (.fn 53 [] [(1, 0)]))), (4, .cv (.one (.bool p1)))], [(.box 13, (encC .any T26b3 x1)), (.box 1, [.ptr 0 0])]⟩
noncomputable def j1 (x1 : T26b3.T) (k : Nat) (p1 : Bool) : Option R :=
  if p1 = true then
  (i_control_controller_is_1_797.f k x1.2.1 x1).bind fun y6 =>
    if (!y6.1) = true then
      (i_slices_ContainsFunc_int_a51.f k x1.2.2.2.2.2.2.2.1 x1).bind fun y9 =>
        if (!y9.1) = true then
          some ((decide ((x1.2.2.2.2.2.2.2.2.1.length : Int) ≤ (100 : Int))), ())
        else
          some (false, ())
    else
      some (false, ())
else
  some (false, ())
theorem j1_ok {r x1} {k p1} (H : j1 x1 k p1 = some r) : Gw P 1 (Q x1 r) (Px c0 15 []) (s1 x1 p1) := by
  unfold j1 at H
  refine GT (tn [1, 3, 4] 2) (RI ?_)
  refine EV V_ok 0 [] 2 az ?_
  rcases of_ite H with ⟨hb5, H⟩ | ⟨hb5, H⟩
  · refine FXO 28 hb5 ?_
    refine EV V_ok 0 [] 6 az ?_
    obtain ⟨y6, e7, H⟩ := of_bind H
    refine CL V_ok i_control_controller_is_1_797.at_ (i_control_controller_is_1_797.ok e7) ?_
    refine EV V_ok 0 [] 3 az ?_
    rcases of_ite H with ⟨hb8, H⟩ | ⟨hb8, H⟩
    · refine FXO 38 hb8 ?_
      refine EV V_ok 0 [] 6 az ?_
      obtain ⟨y9, e10, H⟩ := of_bind H
      refine CL V_ok i_slices_ContainsFunc_int_a51.at_ (i_slices_ContainsFunc_int_a51.ok e10) ?_
      refine EV V_ok 0 [] 3 az ?_
      rcases of_ite H with ⟨hb11, H⟩ | ⟨hb11, H⟩
      · refine FXO 48 hb11 ?_
        refine EV V_ok 0 [] 9 az ?_
        refine RN ?_
        obtain rfl := Option.some.inj H
        exact Lq (tn [2] 1)
      · refine FXO 48 hb11 ?_
        refine EV V_ok 0 [] 9 az ?_
        refine RN ?_
        obtain rfl := Option.some.inj H
        exact Lq (tn [2] 1)
    · refine FXO 38 hb8 ?_
      refine EV V_ok 0 [] 10 az ?_
      refine EV V_ok 0 [] 9 az ?_
      refine RN ?_
      obtain rfl := Option.some.inj H
      exact Lq (tn [2] 1)
  · refine FXO 28 hb5 ?_
    refine EV V_ok 0 [] 10 az ?_
    refine EV V_ok 0 [] 10 az ?_
    refine EV V_ok 0 [] 9 az ?_
    refine RN ?_
    obtain rfl := Option.some.inj H
    exact Lq (tn [2] 1)
noncomputable def f (k : Nat) (x1 : T26b3.T) : Option R :=
  if (x1.2.2.1 == (-1 : Int)) = true then
    (i_control_controller_two_e61.f k x1).bind fun y2 =>
      if (!y2.1) = true then
        j1 x1 k true
      else
        (i_control_controller_is_1_797.f k x1.2.2.1 x1).bind fun y12 =>
          j1 x1 k (!y12.1)
  else
    (i_control_controller_is_1_797.f k x1.2.2.1 x1).bind fun y14 =>
      j1 x1 k (!y14.1)
theorem f_ok {r k x1} (H : f k x1 = some r) : Gw P 1 (Q x1 r) (Px c0 1 []) (s0 x1) := by
  unfold f at H
  refine Rg V_ok 1 [(0, hb 1)] az ?_
  refine Rg V_ok 0 [] az ?_
  refine GT (tn [1, 3] 2) (RI ?_)
  refine EV V_ok 0 [] 7 az ?_
  rcases of_ite H with ⟨hb1, H⟩ | ⟨hb1, H⟩
  · refine FXO 12 hb1 ?_
    refine EV V_ok 0 [] 1 az ?_
    obtain ⟨y2, e3, H⟩ := of_bind H
    refine CL V_ok i_control_controller_two_e61.at_ (i_control_controller_two_e61.ok e3) ?_
    refine EV V_ok 0 [] 3 az ?_
    rcases of_ite H with ⟨hb4, H⟩ | ⟨hb4, H⟩
    · refine FXO 17 hb4 ?_
      refine EV V_ok 0 [] 10 az ?_
      refine RN ?_
      exact Jm (tn [1, 3, 4] 2) (j1_ok H)
    · refine FXO 17 hb4 ?_
      refine EV V_ok 0 [] 6 az ?_
      obtain ⟨y12, e13, H⟩ := of_bind H
      refine CL V_ok i_control_controller_is_1_797.at_ (i_control_controller_is_1_797.ok e13) ?_
      refine EV V_ok 0 [] 3 az ?_
      refine RN ?_
      exact Jm (tn [1, 3, 4] 2) (j1_ok H)
  · refine FXO 12 hb1 ?_
    refine EV V_ok 0 [] 5 az ?_
    refine EV V_ok 0 [] 6 az ?_
    obtain ⟨y14, e15, H⟩ := of_bind H
    refine CL V_ok i_control_controller_is_1_797.at_ (i_control_controller_is_1_797.ok e15) ?_
    refine EV V_ok 0 [] 3 az ?_
    refine RN ?_
    exact Jm (tn [1, 3, 4] 2) (j1_ok H)
theorem ok {r k x1} (H : f k x1 = some r) : W P 1 c0 (s0 x1) (CallQ 1 (out x1 r)) := of_G (f_ok H)
theorem at_ : FnAt P 23 57 c0 Go.Proofs.Tryd.f23.results := fnAt Go.Proofs.Tryd.func23 (by kernel_rfl) (by decide) (by kernel_rfl) (by kernel_rfl)
end i_control_controller_is_e28
/-! ### function 54, (*wayfinder/control.controller).two, where it is called -/
namespace i_control_controller_two_e28
noncomputable def c0 : Code := (Go.Proofs.Tryd.f54.body).getD .skip
noncomputable def V : Env := { tt := tt, Γ := slk [(87, f_slices_Contains_int.S)] }
theorem V_ok : EnvOk P V := { ck := tt_ck, fits := slk_cons f_slices_Contains_int.fits (slk_nil), mixed := mixed }
abbrev R := (Bool) × Unit
noncomputable def s0 (x1 : T26b3.T) : St := ⟨10, [(0, .cv (.one (.ptr 0 0)))], [(.box 13, (encC .any T26b3 x1))]⟩
noncomputable def out (x1 : T26b3.T) (r : R) : St := ⟨10, [(2, .cv (.one (.bool r.1)))], [(.box 13, (encC .any T26b3 x1))]⟩
abbrev Q (x1 : T26b3.T) (r : R) := CallQ 1 (out x1 r)
noncomputable def f (k : Nat) (x1 : T26b3.T) : Option R :=
  (f_slices_Contains_int.f k [1, 2, 3] x1.2.2.2.2.2.1).bind fun y1 =>
    some (y1.1, ())
theorem f_ok {r k x1} (H : f k x1 = some r) : Gw P 1 (Q x1 r) (Px c0 1 []) (s0 x1) := by
  unfold f at H
  refine Rg V_ok 0 [] az ?_
  obtain ⟨y1, e2, H⟩ := of_bind H
  refine Rg V_ok 0 [(6, hr f_slices_Contains_int.S y1)] (ac (f_slices_Contains_int.rl e2) az) ?_
  obtain rfl := Option.some.inj H
  exact Lq (tn [2] 1)
theorem ok {r k x1} (H : f k x1 = some r) : W P 1 c0 (s0 x1) (CallQ 1 (out x1 r)) := of_G (f_ok H)
theorem at_ : FnAt P 54 10 c0 Go.Proofs.Tryd.f54.results := fnAt Go.Proofs.Tryd.func54 (by kernel_rfl) (by decide) (by kernel_rfl) (by kernel_rfl)
end i_control_controller_two_e28
/-! ### function 58, (*wayfinder/control.controller).live$1, where it is called -/
namespace i_control_controller_live_1_5ba
noncomputable def c0 : Code := (Go.Proofs.Tryd.f58.body).getD .skip
noncomputable def V : Env := { tt := tt, Γ := slk [] }
theorem V_ok : EnvOk P V := { ck := tt_ck, fits := slk_nil, mixed := mixed }
abbrev R := (Int) × Unit
noncomputable def s0 (x1 x2 : T814c.T) (x3 : T26b3.T) (x4 : List T814c.T) : St := ⟨17, [(0, .cv (.agg [.i x1.1, .sl T1383 x1.2 .any])), (1, .cv (.agg [.i x2.1, .sl T1383 x2.2 .any]))], [(.box 13, (encC .any T26b3 x3)), (.buf 54 T814c x4, [])]⟩
noncomputable def out (x3 : T26b3.T) (x4 : List T814c.T) (r : R) : St := ⟨17, [(4, .cv (.one (.i r.1)))], [(.box 13, (encC .any T26b3 x3)), (.buf 54 T814c x4, [])]⟩
abbrev Q (x3 : T26b3.T) (x4 : List T814c.T) (r : R) := CallQ 2 (out x3 x4 r)
noncomputable def f (k : Nat) (x1 x2 : T814c.T) (x3 : T26b3.T) (x4 : List T814c.T) : Option R :=
  if (decide (x1.1 < x2.1)) = true then
    some ((-1), ())
  else
    if (decide (x1.1 > x2.1)) = true then
      some ((1 : Int), ())
    else
      some ((0 : Int), ())
theorem f_ok {r k x1 x2 x3 x4} (H : f k x1 x2 x3 x4 = some r) : Gw P 2 (Q x3 x4 r) (Px c0 1 []) (s0 x1 x2 x3 x4) := by
  unfold f at H
  refine Rg V_ok 2 [(0, hb 2), (1, hb 3)] az ?_
  refine Rg V_ok 0 [] az ?_
  rcases of_ite H with ⟨hb1, H⟩ | ⟨hb1, H⟩
  · refine C1 hb1 ?_
    refine Rg V_ok 0 [] az ?_
    obtain rfl := Option.some.inj H
    exact Lq (tn [4] 2)
  · refine C0 hb1 ?_
    refine Rg V_ok 0 [] az ?_
    rcases of_ite H with ⟨hb2, H⟩ | ⟨hb2, H⟩
    · refine C1 hb2 ?_
      refine Rg V_ok 0 [] az ?_
      obtain rfl := Option.some.inj H
      exact Lq (tn [4] 2)
    · refine C0 hb2 ?_
      refine Rg V_ok 0 [] az ?_
      obtain rfl := Option.some.inj H
      exact Lq (tn [4] 2)
theorem ok {r k x1 x2 x3 x4} (H : f k x1 x2 x3 x4 = some r) : W P 2 c0 (s0 x1 x2 x3 x4) (CallQ 2 (out x3 x4 r)) := of_G (f_ok H)
theorem at_ : FnAt P 58 17 c0 Go.Proofs.Tryd.f58.results := fnAt Go.Proofs.Tryd.func58 (by kernel_rfl) (by decide) (by kernel_rfl) (by kernel_rfl)
end i_control_controller_live_1_5ba
/-! ### function 104, slices.insertionSortCmpFunc[wayfinder/api.Ver], where it is called -/
namespace i_slices_insertionSortCmpFunc_Ver_2e0
noncomputable def c0 : Code := (Go.Proofs.Tryd.f104.body).getD .skip
noncomputable def V : Env := { tt := tt, Γ := slk [] }
theorem V_ok : EnvOk P V := { ck := tt_ck, fits := slk_nil, mixed := mixed }
abbrev R := (List T814c.T) × Unit
noncomputable def s0 (x1 x2 : Int) (x3 : T26b3.T) (x4 : List T814c.T) : St := ⟨53, [(0, .cv (.one (.own 1))), (1, .cv (.one (.i x1))), (2, .cv (.one (.i x2))), (3, .cv (.one (.fn 58 [] [])))], [(.box 13, (encC .any T26b3 x3)), (.buf 54 T814c x4, [])]⟩
noncomputable def out (x3 : T26b3.T) (r : R) : St := ⟨53, [], [(.box 13, (encC .any T26b3 x3)), (.buf 54 T814c r.1, [])]⟩
abbrev Q (x3 : T26b3.T) (r : R) := CallQ 2 (out x3 r)
noncomputable def s1 (x1 x2 : Int) (x3 : T26b3.T) (p3 : Int) (p5 : List T814c.T) : St := ⟨53, [(0, .cv (.one (.own 1))), (1, .cv (.one (.i x1))), (2, .cv (.one (.i x2))), (3, .cv (.one (.fn 58 [] []))), (8, .cv (.one (.i p3)))], [(.box 13, (encC .any T26b3 x3)), (.buf 54 T814c p5, [])]⟩
noncomputable def s2 (x1 x2 : Int) (x3 : T26b3.T) (p3 p4 : Int) (p6 : List T814c.T) : St := ⟨53, [(0, .cv (.one (.own 1))), (1, .cv (.one (.i x1))), (2, .cv (.one (.i x2))), (3, .cv (.one (.fn 58 [] []))), (8, .cv (.one (.i p3))), (9, .cv (.one (.i p4)))], [(.box 13, (encC .any T26b3 x3)), (.buf 54 T814c p6, [])]⟩
noncomputable def s3 (x1 x2 : Int) (x3 : T26b3.T) (p3 p4 : Int) (p5 : Bool) (p7 : List T814c.T) : St := ⟨53, [(0, .cv (.one (.own 1))), (1, .cv (.one (.i x1))), (2, .cv (.one (.i x2))), (3, .cv (.one (.fn 58 [] []))), (8, .cv (.one (.i p3))), (9, .cv (.one (.i p4))), (34, .cv (.one (.bool p5)))], [(.box 13, (encC .any T26b3 x3)), (.buf 54 T814c p7, [])]⟩
noncomputable def j3 (x1 x2 : Int) (x3 : T26b3.T) (L1 : Int → List T814c.T → Option R) (L2 : Int → Int → List T814c.T → Option R) (k : Nat) (p3 p4 : Int) (p5 : Bool) (p7 : List T814c.T) : Option R :=
  if p5 = true then
  if 0 ≤ (IntKind.i64.wrap (p4 - 1)) then
    if (IntKind.i64.wrap (p4 - 1)) < (p7.length : Int) then
      if 0 ≤ p4 then
        if p4 < (p7.length : Int) then
          if (IntKind.i64.wrap (p4 - 1)) < ((p7.set p4.toNat (att T814c p7 (IntKind.i64.wrap (p4 - 1)))).length : Int) then
            L2 p3 (IntKind.i64.wrap (p4 - 1)) ((p7.set p4.toNat (att T814c p7 (IntKind.i64.wrap (p4 - 1)))).set (IntKind.i64.wrap (p4 - 1)).toNat (att T814c p7 p4))
          else none
        else none
      else none
    else none
  else none
else
  L1 (IntKind.i64.wrap (p3 + 1)) p7
theorem j3_ok {r x1 x2 x3} {L1 : Int → List T814c.T → Option R} {m1 : Nat} (hL1 : ∀ p3 p5, L1 p3 p5 = some r → Gw P 2 (Q x3 r) (Pb c0 5 [] m1) (s1 x1 x2 x3 p3 p5)) {L2 : Int → Int → List T814c.T → Option R} {m2 : Nat} (hL2 : ∀ p3 p4 p6, L2 p3 p4 p6 = some r → Gw P 2 (Q x3 r) (Pb c0 329 [m1] m2) (s2 x1 x2 x3 p3 p4 p6)) {k p3 p4 p5 p7} (H : j3 x1 x2 x3 L1 L2 k p3 p4 p5 p7 = some r) : Gw P 2 (Q x3 r) (Px c0 3145 [m1, m2]) (s3 x1 x2 x3 p3 p4 p5 p7) := by
  unfold j3 at H
  rcases of_ite H with ⟨hb9, H⟩ | ⟨hb9, H⟩
  · refine C1 hb9 ?_
    obtain ⟨n10, H⟩ := of_if H
    obtain ⟨n11, H⟩ := of_if H
    obtain ⟨n12, H⟩ := of_if H
    obtain ⟨n13, H⟩ := of_if H
    obtain ⟨n14, H⟩ := of_if H
    refine Rg V_ok 0 [] (ac n10 (ac n11 (ac n12 (ac n13 (ac n12 (ac n13 (ac n10 (ac n14 az)))))))) ?_
    refine Rg V_ok 0 [] az ?_
    exact Jm (tn [0, 1, 2, 3, 8, 9] 2) (hL2 p3 (IntKind.i64.wrap (p4 - 1)) ((p7.set p4.toNat (att T814c p7 (IntKind.i64.wrap (p4 - 1)))).set (IntKind.i64.wrap (p4 - 1)).toNat (att T814c p7 p4)) H)
  · refine C0 hb9 ?_
    refine Rg V_ok 0 [] az ?_
    exact Jm (tn [0, 1, 2, 3, 8] 2) (hL1 (IntKind.i64.wrap (p3 + 1)) p7 H)
noncomputable def b2 (x1 x2 : Int) (x3 : T26b3.T) (L1 : Int → List T814c.T → Option R) (L2 : Int → Int → List T814c.T → Option R) (k : Nat) (p3 p4 : Int) (p6 : List T814c.T) : Option R :=
  if (decide (p4 > x1)) = true then
  if 0 ≤ p4 then
    if p4 < (p6.length : Int) then
      if 0 ≤ (IntKind.i64.wrap (p4 - 1)) then
        if (IntKind.i64.wrap (p4 - 1)) < (p6.length : Int) then
          (i_control_controller_live_1_5ba.f k (att T814c p6 p4) (att T814c p6 (IntKind.i64.wrap (p4 - 1))) x3 p6).bind fun y7 =>
            j3 x1 x2 x3 L1 L2 k p3 p4 (decide (y7.1 < (0 : Int))) p6
        else none
      else none
    else none
  else none
else
  j3 x1 x2 x3 L1 L2 k p3 p4 false p6
theorem b2_ok {r x1 x2 x3} {L1 : Int → List T814c.T → Option R} {m1 : Nat} (hL1 : ∀ p3 p5, L1 p3 p5 = some r → Gw P 2 (Q x3 r) (Pb c0 5 [] m1) (s1 x1 x2 x3 p3 p5)) {L2 : Int → Int → List T814c.T → Option R} {m2 : Nat} (hL2 : ∀ p3 p4 p6, L2 p3 p4 p6 = some r → Gw P 2 (Q x3 r) (Pb c0 329 [m1] m2) (s2 x1 x2 x3 p3 p4 p6)) {k p3 p4 p6} (H : b2 x1 x2 x3 L1 L2 k p3 p4 p6 = some r) : Gw P 2 (Q x3 r) (Px c0 585 [m1, m2]) (s2 x1 x2 x3 p3 p4 p6) := by
  unfold b2 at H
  rcases of_ite H with ⟨hb2, H⟩ | ⟨hb2, H⟩
  · obtain ⟨n3, H⟩ := of_if H
    obtain ⟨n4, H⟩ := of_if H
    obtain ⟨n5, H⟩ := of_if H
    obtain ⟨n6, H⟩ := of_if H
    obtain ⟨y7, e8, H⟩ := of_bind H
    let x : Nx := (Px c0 2121 [m1, m2])
    let t0 : St := ⟨53, [(0, .cv (.one (.own 1))), (1, .cv (.one (.i x1))), (2, .cv (.one (.i x2))), (3, .cv (.one (.fn 58 [] []))), (8, .cv (.one (.i p3))), (9, .cv (.one (.i p4)))], [(.box 13, (encC .any T26b3 x3)), (.buf 54 T814c p6, [])]⟩
    refine Jm (x' := x) (τ := t0) (tn [0, 1, 2, 3, 8, 9] 2) ?_
    let Φ := phiX P 2 (Q x3 r) x
    let t1 : St := stpS V x 0 [] 0 (tn [0, 1, 2, 3, 8, 9, 18] 2) t0
    let t2 : St := stpS V x 0 [] 1 (tn [0, 1, 2, 3, 8, 9, 18, 19] 2) t1
    let t3 : St := stpS V x 0 [] 2 (tn [0, 1, 2, 3, 8, 9, 20] 2) t2
    let t4 : St := stpS V x 0 [(3, {bv := some true})] 3 (tn [0, 1, 2, 3, 8, 9, 21] 2) t3
    let t5 : St := stpS V x 0 [] 4 (tn [0, 1, 2, 3, 8, 9, 21, 22] 2) t4
    let t6 : St := stpS V x 0 [] 5 (tn [0, 1, 2, 3, 8, 9, 21, 22, 23] 2) t5
    let t7 : St := stpS V x 0 [] 6 (tn [0, 1, 2, 3, 8, 9, 21, 22, 23, 24] 2) t6
    let t8 : St := stpS V x 0 [] 9 (tn [0, 1, 2, 3, 8, 9, 21, 22, 23, 24, 27] 2) t7
    let t9 : St := stpS V x 0 [] 10 (tn [0, 1, 2, 3, 8, 9, 21, 22, 23, 24, 27, 28] 2) t8
    let t10 : St := stpS V x 0 [] 7 (tn [0, 1, 2, 3, 8, 9, 21, 22, 25, 27, 28] 2) t9
    let t11 : St := stpS V x 0 [] 11 (tn [0, 1, 2, 3, 8, 9, 21, 22, 23, 24, 27, 29] 2) t9
    let t12 : St := stpS V x 0 [] 8 (tn [0, 1, 2, 3, 8, 9, 21, 22, 26, 27, 28] 2) t10
    let t13 : St := stpS V x 0 [] 11 (tn [0, 1, 2, 3, 8, 9, 21, 22, 25, 27, 29] 2) t10
    let t14 : St := stpS V x 0 [] 12 (tn [0, 1, 2, 3, 8, 9, 21, 22, 23, 24, 30] 2) t11
    let t15 : St := stpS V x 0 [] 11 (tn [0, 1, 2, 3, 8, 9, 21, 22, 26, 27, 29] 2) t12
    let t16 : St := stpS V x 0 [] 12 (tn [0, 1, 2, 3, 8, 9, 21, 22, 25, 30] 2) t13
    let t17 : St := stpS V x 0 [] 13 (tn [0, 1, 2, 3, 8, 9, 21, 22, 23, 24, 31] 2) t14
    let t18 : St := stpS V x 0 [] 12 (tn [0, 1, 2, 3, 8, 9, 21, 22, 26, 30] 2) t15
    let t19 : St := stpS V x 0 [] 13 (tn [0, 1, 2, 3, 8, 9, 21, 22, 25, 31] 2) t16
    let t20 : St := stpS V x 0 [] 13 (tn [0, 1, 2, 3, 8, 9, 21, 22, 26, 31] 2) t18
    let t21 : St := clT V.tt x 14 Go.Proofs.Tryd.f58.results (tn [0, 1, 2, 3, 8, 9, 21, 32] 2) t20 (i_control_controller_live_1_5ba.out x3 p6 y7)
    let t22 : St := stpS V x 0 [] 15 (tn [0, 1, 2, 3, 8, 9, 21, 33] 2) t21
    let t23 : St := stpS V x 0 [] 16 (tn [0, 1, 2, 3, 8, 9, 34] 2) t22
    have w23 : WA P 2 (opsX x) 0 (bs 17 131071) Φ t23 := by
      refine WA_nil (by kernel_rfl) (RAn (by kernel_rfl) ?_)
      exact Jm (tn [0, 1, 2, 3, 8, 9, 34] 2) (j3_ok hL1 hL2 H)
    have w22 : WA P 2 (opsX x) 1 (bs 17 65535) Φ t22 := WAs (an (WE V_ok 0 [] 16 (tn [0, 1, 2, 3, 8, 9, 34] 2) az w23) aN)
    have w21 : WA P 2 (opsX x) 2 (bs 17 32767) Φ t21 := WAs (an (WE V_ok 0 [] 15 (tn [0, 1, 2, 3, 8, 9, 21, 33] 2) az w22) aN)
    have w20 : WA P 2 (opsX x) 3 (bs 17 16383) Φ t20 := WAs (an (WC V_ok 14 (tn [0, 1, 2, 3, 8, 9, 21, 32] 2) i_control_controller_live_1_5ba.at_ (i_control_controller_live_1_5ba.ok e8) w21) aN)
    have w19 : WA P 2 (opsX x) 4 (bs 17 16127) Φ t19 := WAs (an (WE V_ok 0 [] 8 (tn [0, 1, 2, 3, 8, 9, 21, 22, 26, 31] 2) az w20) aN)
    have w18 : WA P 2 (opsX x) 4 (bs 17 8191) Φ t18 := WAs (an (WE V_ok 0 [] 13 (tn [0, 1, 2, 3, 8, 9, 21, 22, 26, 31] 2) az w20) aN)
    have w17 : WA P 2 (opsX x) 5 (bs 17 15999) Φ t17 := WAs (an (WE V_ok 0 [] 7 (tn [0, 1, 2, 3, 8, 9, 21, 22, 25, 31] 2) (ac n3 (ac n4 az)) w19) aN)
    have w16 : WA P 2 (opsX x) 5 (bs 17 7935) Φ t16 := WAs (an (WE V_ok 0 [] 8 (tn [0, 1, 2, 3, 8, 9, 21, 22, 26, 30] 2) az w18) (an (WE V_ok 0 [] 13 (tn [0, 1, 2, 3, 8, 9, 21, 22, 25, 31] 2) az w19) aN))
    have w15 : WA P 2 (opsX x) 5 (bs 17 4095) Φ t15 := WAs (an (WE V_ok 0 [] 12 (tn [0, 1, 2, 3, 8, 9, 21, 22, 26, 30] 2) (ac n5 (ac n6 az)) w18) aN)
    have w14 : WA P 2 (opsX x) 6 (bs 17 7807) Φ t14 := WAs (an (WE V_ok 0 [] 7 (tn [0, 1, 2, 3, 8, 9, 21, 22, 25, 30] 2) (ac n3 (ac n4 az)) w16) (an (WE V_ok 0 [] 13 (tn [0, 1, 2, 3, 8, 9, 21, 22, 23, 24, 31] 2) az w17) aN))
    have w13 : WA P 2 (opsX x) 6 (bs 17 3839) Φ t13 := WAs (an (WE V_ok 0 [] 8 (tn [0, 1, 2, 3, 8, 9, 21, 22, 26, 27, 29] 2) az w15) (an (WE V_ok 0 [] 12 (tn [0, 1, 2, 3, 8, 9, 21, 22, 25, 30] 2) (ac n5 (ac n6 az)) w16) aN))
    have w12 : WA P 2 (opsX x) 6 (bs 17 2047) Φ t12 := WAs (an (WE V_ok 0 [] 11 (tn [0, 1, 2, 3, 8, 9, 21, 22, 26, 27, 29] 2) az w15) aN)
    have w11 : WA P 2 (opsX x) 7 (bs 17 3711) Φ t11 := WAs (an (WE V_ok 0 [] 7 (tn [0, 1, 2, 3, 8, 9, 21, 22, 25, 27, 29] 2) (ac n3 (ac n4 az)) w13) (an (WE V_ok 0 [] 12 (tn [0, 1, 2, 3, 8, 9, 21, 22, 23, 24, 30] 2) (ac n5 (ac n6 az)) w14) aN))
    have w10 : WA P 2 (opsX x) 7 (bs 17 1791) Φ t10 := WAs (an (WE V_ok 0 [] 8 (tn [0, 1, 2, 3, 8, 9, 21, 22, 26, 27, 28] 2) az w12) (an (WE V_ok 0 [] 11 (tn [0, 1, 2, 3, 8, 9, 21, 22, 25, 27, 29] 2) az w13) aN))
    have w9 : WA P 2 (opsX x) 8 (bs 17 1663) Φ t9 := WAs (an (WE V_ok 0 [] 7 (tn [0, 1, 2, 3, 8, 9, 21, 22, 25, 27, 28] 2) (ac n3 (ac n4 az)) w10) (an (WE V_ok 0 [] 11 (tn [0, 1, 2, 3, 8, 9, 21, 22, 23, 24, 27, 29] 2) az w11) aN))
    have w8 : WA P 2 (opsX x) 9 (bs 17 639) Φ t8 := WT V_ok [] 10 (tn [0, 1, 2, 3, 8, 9, 21, 22, 23, 24, 27, 28] 2) az w9
    have w7 : WA P 2 (opsX x) 10 (bs 17 127) Φ t7 := WT V_ok [] 9 (tn [0, 1, 2, 3, 8, 9, 21, 22, 23, 24, 27] 2) az w8
    have w6 : WA P 2 (opsX x) 11 (bs 17 63) Φ t6 := WT V_ok [] 6 (tn [0, 1, 2, 3, 8, 9, 21, 22, 23, 24] 2) az w7
    have w5 : WA P 2 (opsX x) 12 (bs 17 31) Φ t5 := WT V_ok [] 5 (tn [0, 1, 2, 3, 8, 9, 21, 22, 23] 2) az w6
    have w4 : WA P 2 (opsX x) 13 (bs 17 15) Φ t4 := WT V_ok [] 4 (tn [0, 1, 2, 3, 8, 9, 21, 22] 2) az w5
    have w3 : WA P 2 (opsX x) 14 (bs 17 7) Φ t3 := WT V_ok [(3, {bv := some true})] 3 (tn [0, 1, 2, 3, 8, 9, 21] 2) (ac hb2 az) w4
    have w2 : WA P 2 (opsX x) 15 (bs 17 3) Φ t2 := WAs (an (WE V_ok 0 [] 2 (tn [0, 1, 2, 3, 8, 9, 20] 2) az w3) aN)
    have w1 : WA P 2 (opsX x) 16 (bs 17 1) Φ t1 := WT V_ok [] 1 (tn [0, 1, 2, 3, 8, 9, 18, 19] 2) az w2
    have w0 : WA P 2 (opsX x) 17 (bs 17 0) Φ t0 := WT V_ok [] 0 (tn [0, 1, 2, 3, 8, 9, 18] 2) az w1
    exact RA V_ok 17 (by kernel_rfl) (by kernel_rfl) (by kernel_rfl) w0
  · let x : Nx := (Px c0 2121 [m1, m2])
    let t0 : St := ⟨53, [(0, .cv (.one (.own 1))), (1, .cv (.one (.i x1))), (2, .cv (.one (.i x2))), (3, .cv (.one (.fn 58 [] []))), (8, .cv (.one (.i p3))), (9, .cv (.one (.i p4)))], [(.box 13, (encC .any T26b3 x3)), (.buf 54 T814c p6, [])]⟩
    refine Jm (x' := x) (τ := t0) (tn [0, 1, 2, 3, 8, 9] 2) ?_
    let Φ := phiX P 2 (Q x3 r) x
    let t1 : St := stpS V x 0 [] 0 (tn [0, 1, 2, 3, 8, 9, 18] 2) t0
    let t2 : St := stpS V x 0 [] 1 (tn [0, 1, 2, 3, 8, 9, 18, 19] 2) t1
    let t3 : St := stpS V x 0 [] 2 (tn [0, 1, 2, 3, 8, 9, 20] 2) t2
    let t4 : St := stpS V x 0 [(3, {bv := some false})] 3 (tn [0, 1, 2, 3, 8, 9, 21] 2) t3
    let t5 : St := stpS V x 0 [] 4 (tn [0, 1, 2, 3, 8, 9, 21, 22] 2) t4
    let t6 : St := stpS V x 0 [] 5 (tn [0, 1, 2, 3, 8, 9, 21, 22, 23] 2) t5
    let t7 : St := stpS V x 0 [] 6 (tn [0, 1, 2, 3, 8, 9, 21, 22, 23, 24] 2) t6
    let t8 : St := stpS V x 0 [] 9 (tn [0, 1, 2, 3, 8, 9, 21, 22, 23, 24, 27] 2) t7
    let t9 : St := stpS V x 0 [] 10 (tn [0, 1, 2, 3, 8, 9, 21, 22, 23, 24, 27, 28] 2) t8
    let t10 : St := stpS V x 0 [] 7 (tn [0, 1, 2, 3, 8, 9, 21, 22, 25, 27, 28] 2) t9
    let t11 : St := stpS V x 0 [] 11 (tn [0, 1, 2, 3, 8, 9, 21, 22, 23, 24, 27, 29] 2) t9
    let t12 : St := stpS V x 0 [] 8 (tn [0, 1, 2, 3, 8, 9, 21, 22, 26, 27, 28] 2) t10
    let t13 : St := stpS V x 0 [] 11 (tn [0, 1, 2, 3, 8, 9, 21, 22, 25, 27, 29] 2) t10
    let t14 : St := stpS V x 0 [] 12 (tn [0, 1, 2, 3, 8, 9, 21, 22, 23, 24, 30] 2) t11
    let t15 : St := stpS V x 0 [] 11 (tn [0, 1, 2, 3, 8, 9, 21, 22, 26, 27, 29] 2) t12
    let t16 : St := stpS V x 0 [] 12 (tn [0, 1, 2, 3, 8, 9, 21, 22, 25, 30] 2) t13
    let t17 : St := stpS V x 0 [] 13 (tn [0, 1, 2, 3, 8, 9, 21, 22, 23, 24, 31] 2) t14
    let t18 : St := stpS V x 0 [] 12 (tn [0, 1, 2, 3, 8, 9, 21, 22, 26, 30] 2) t15
    let t19 : St := stpS V x 0 [] 13 (tn [0, 1, 2, 3, 8, 9, 21, 22, 25, 31] 2) t16
    let t20 : St := stpS V x 0 [] 13 (tn [0, 1, 2, 3, 8, 9, 21, 22, 26, 31] 2) t18
    let t21 : St := stpS V x 0 [] 14 (tn [0, 1, 2, 3, 8, 9, 21, 32] 2) t20
    let t22 : St := stpS V x 0 [] 15 (tn [0, 1, 2, 3, 8, 9, 21, 33] 2) t21
    let t23 : St := stpS V x 0 [] 16 (tn [0, 1, 2, 3, 8, 9, 34] 2) t22
    have w23 : WA P 2 (opsX x) 0 (bs 17 131071) Φ t23 := by
      refine WA_nil (by kernel_rfl) (RAn (by kernel_rfl) ?_)
      exact Jm (tn [0, 1, 2, 3, 8, 9, 34] 2) (j3_ok hL1 hL2 H)
    have w22 : WA P 2 (opsX x) 1 (bs 17 65535) Φ t22 := WAs (an (WE V_ok 0 [] 16 (tn [0, 1, 2, 3, 8, 9, 34] 2) az w23) aN)
    have w21 : WA P 2 (opsX x) 2 (bs 17 32767) Φ t21 := WAs (an (WE V_ok 0 [] 15 (tn [0, 1, 2, 3, 8, 9, 21, 33] 2) az w22) aN)
    have w20 : WA P 2 (opsX x) 3 (bs 17 16383) Φ t20 := WAs (an (WE V_ok 0 [] 14 (tn [0, 1, 2, 3, 8, 9, 21, 32] 2) az w21) aN)
    have w19 : WA P 2 (opsX x) 4 (bs 17 16127) Φ t19 := WAs (an (WE V_ok 0 [] 8 (tn [0, 1, 2, 3, 8, 9, 21, 22, 26, 31] 2) az w20) aN)
    have w18 : WA P 2 (opsX x) 4 (bs 17 8191) Φ t18 := WAs (an (WE V_ok 0 [] 13 (tn [0, 1, 2, 3, 8, 9, 21, 22, 26, 31] 2) az w20) aN)
    have w17 : WA P 2 (opsX x) 5 (bs 17 15999) Φ t17 := WAs (an (WE V_ok 0 [] 7 (tn [0, 1, 2, 3, 8, 9, 21, 22, 25, 31] 2) az w19) aN)
    have w16 : WA P 2 (opsX x) 5 (bs 17 7935) Φ t16 := WAs (an (WE V_ok 0 [] 8 (tn [0, 1, 2, 3, 8, 9, 21, 22, 26, 30] 2) az w18) (an (WE V_ok 0 [] 13 (tn [0, 1, 2, 3, 8, 9, 21, 22, 25, 31] 2) az w19) aN))
    have w15 : WA P 2 (opsX x) 5 (bs 17 4095) Φ t15 := WAs (an (WE V_ok 0 [] 12 (tn [0, 1, 2, 3, 8, 9, 21, 22, 26, 30] 2) az w18) aN)
    have w14 : WA P 2 (opsX x) 6 (bs 17 7807) Φ t14 := WAs (an (WE V_ok 0 [] 7 (tn [0, 1, 2, 3, 8, 9, 21, 22, 25, 30] 2) az w16) (an (WE V_ok 0 [] 13 (tn [0, 1, 2, 3, 8, 9, 21, 22, 23, 24, 31] 2) az w17) aN))
    have w13 : WA P 2 (opsX x) 6 (bs 17 3839) Φ t13 := WAs (an (WE V_ok 0 [] 8 (tn [0, 1, 2, 3, 8, 9, 21, 22, 26, 27, 29] 2) az w15) (an (WE V_ok 0 [] 12 (tn [0, 1, 2, 3, 8, 9, 21, 22, 25, 30] 2) az w16) aN))
    have w12 : WA P 2 (opsX x) 6 (bs 17 2047) Φ t12 := WAs (an (WE V_ok 0 [] 11 (tn [0, 1, 2, 3, 8, 9, 21, 22, 26, 27, 29] 2) az w15) aN)
    have w11 : WA P 2 (opsX x) 7 (bs 17 3711) Φ t11 := WAs (an (WE V_ok 0 [] 7 (tn [0, 1, 2, 3, 8, 9, 21, 22, 25, 27, 29] 2) az w13) (an (WE V_ok 0 [] 12 (tn [0, 1, 2, 3, 8, 9, 21, 22, 23, 24, 30] 2) az w14) aN))
    have w10 : WA P 2 (opsX x) 7 (bs 17 1791) Φ t10 := WAs (an (WE V_ok 0 [] 8 (tn [0, 1, 2, 3, 8, 9, 21, 22, 26, 27, 28] 2) az w12) (an (WE V_ok 0 [] 11 (tn [0, 1, 2, 3, 8, 9, 21, 22, 25, 27, 29] 2) az w13) aN))
    have w9 : WA P 2 (opsX x) 8 (bs 17 1663) Φ t9 := WAs (an (WE V_ok 0 [] 7 (tn [0, 1, 2, 3, 8, 9, 21, 22, 25, 27, 28] 2) az w10) (an (WE V_ok 0 [] 11 (tn [0, 1, 2, 3, 8, 9, 21, 22, 23, 24, 27, 29] 2) az w11) aN))
    have w8 : WA P 2 (opsX x) 9 (bs 17 639) Φ t8 := WT V_ok [] 10 (tn [0, 1, 2, 3, 8, 9, 21, 22, 23, 24, 27, 28] 2) az w9
    have w7 : WA P 2 (opsX x) 10 (bs 17 127) Φ t7 := WT V_ok [] 9 (tn [0, 1, 2, 3, 8, 9, 21, 22, 23, 24, 27] 2) az w8
    have w6 : WA P 2 (opsX x) 11 (bs 17 63) Φ t6 := WT V_ok [] 6 (tn [0, 1, 2, 3, 8, 9, 21, 22, 23, 24] 2) az w7
    have w5 : WA P 2 (opsX x) 12 (bs 17 31) Φ t5 := WT V_ok [] 5 (tn [0, 1, 2, 3, 8, 9, 21, 22, 23] 2) az w6
    have w4 : WA P 2 (opsX x) 13 (bs 17 15) Φ t4 := WT V_ok [] 4 (tn [0, 1, 2, 3, 8, 9, 21, 22] 2) az w5
    have w3 : WA P 2 (opsX x) 14 (bs 17 7) Φ t3 := WT V_ok [(3, {bv := some false})] 3 (tn [0, 1, 2, 3, 8, 9, 21] 2) (ac hb2 az) w4
    have w2 : WA P 2 (opsX x) 15 (bs 17 3) Φ t2 := WAs (an (WE V_ok 0 [] 2 (tn [0, 1, 2, 3, 8, 9, 20] 2) az w3) aN)
    have w1 : WA P 2 (opsX x) 16 (bs 17 1) Φ t1 := WT V_ok [] 1 (tn [0, 1, 2, 3, 8, 9, 18, 19] 2) az w2
    have w0 : WA P 2 (opsX x) 17 (bs 17 0) Φ t0 := WT V_ok [] 0 (tn [0, 1, 2, 3, 8, 9, 18] 2) az w1
    exact RA V_ok 17 (by kernel_rfl) (by kernel_rfl) (by kernel_rfl) w0
noncomputable def l2 (x1 x2 : Int) (x3 : T26b3.T) (L1 : Int → List T814c.T → Option R) (k : Nat) : Nat → Int → Int → List T814c.T → Option R
  | 0, _, _, _ => none
  | m + 1, p3, p4, p6 => b2 x1 x2 x3 L1 (l2 x1 x2 x3 L1 k m) k p3 p4 p6
theorem l2_ok {r x1 x2 x3} {L1 : Int → List T814c.T → Option R} {m1 : Nat} (hL1 : ∀ p3 p5, L1 p3 p5 = some r → Gw P 2 (Q x3 r) (Pb c0 5 [] m1) (s1 x1 x2 x3 p3 p5)) (k : Nat) : ∀ (m2 : Nat) (p3 p4 : Int) (p6 : List T814c.T), l2 x1 x2 x3 L1 k m2 p3 p4 p6 = some r → Gw P 2 (Q x3 r) (Pb c0 329 [m1] m2) (s2 x1 x2 x3 p3 p4 p6)
  | 0, _, _, _, H => by cases H
  | m2 + 1, p3, p4, p6, H => SU (by kernel_rfl) (b2_ok hL1 (l2_ok hL1 k m2) H)
noncomputable def b1 (x1 x2 : Int) (x3 : T26b3.T) (L1 : Int → List T814c.T → Option R) (k : Nat) (p3 : Int) (p5 : List T814c.T) : Option R :=
  if (decide (p3 < x2)) = true then
  l2 x1 x2 x3 L1 k k p3 p3 p5
else
  some (p5, ())
theorem b1_ok {r x1 x2 x3} {L1 : Int → List T814c.T → Option R} {m1 : Nat} (hL1 : ∀ p3 p5, L1 p3 p5 = some r → Gw P 2 (Q x3 r) (Pb c0 5 [] m1) (s1 x1 x2 x3 p3 p5)) {k p3 p5} (H : b1 x1 x2 x3 L1 k p3 p5 = some r) : Gw P 2 (Q x3 r) (Px c0 9 [m1]) (s1 x1 x2 x3 p3 p5) := by
  unfold b1 at H
  refine Rg V_ok 0 [] az ?_
  rcases of_ite H with ⟨hb1, H⟩ | ⟨hb1, H⟩
  · refine C1 hb1 ?_
    refine Rg V_ok 0 [] az ?_
    exact LP k (Jm (tn [0, 1, 2, 3, 8, 9] 2) (l2_ok hL1 k k p3 p3 p5 H))
  · refine C0 hb1 ?_
    obtain rfl := Option.some.inj H
    exact Lq (tn [] 2)
noncomputable def l1 (x1 x2 : Int) (x3 : T26b3.T) (k : Nat) : Nat → Int → List T814c.T → Option R
  | 0, _, _ => none
  | m + 1, p3, p5 => b1 x1 x2 x3 (l1 x1 x2 x3 k m) k p3 p5
theorem l1_ok {r x1 x2 x3} (k : Nat) : ∀ (m1 : Nat) (p3 : Int) (p5 : List T814c.T), l1 x1 x2 x3 k m1 p3 p5 = some r → Gw P 2 (Q x3 r) (Pb c0 5 [] m1) (s1 x1 x2 x3 p3 p5)
  | 0, _, _, H => by cases H
  | m1 + 1, p3, p5, H => SU (by kernel_rfl) (b1_ok (l1_ok k m1) H)
noncomputable def f (k : Nat) (x1 x2 : Int) (x3 : T26b3.T) (x4 : List T814c.T) : Option R :=
  l1 x1 x2 x3 k k (IntKind.i64.wrap (x1 + 1)) x4
theorem f_ok {r k x1 x2 x3 x4} (H : f k x1 x2 x3 x4 = some r) : Gw P 2 (Q x3 r) (Px c0 1 []) (s0 x1 x2 x3 x4) := by
  unfold f at H
  refine Rg V_ok 0 [] az ?_
  exact LP k (Jm (tn [0, 1, 2, 3, 8] 2) (l1_ok k k (IntKind.i64.wrap (x1 + 1)) x4 H))
theorem ok {r k x1 x2 x3 x4} (H : f k x1 x2 x3 x4 = some r) : W P 2 c0 (s0 x1 x2 x3 x4) (CallQ 2 (out x3 r)) := of_G (f_ok H)
theorem at_ : FnAt P 104 53 c0 Go.Proofs.Tryd.f104.results := fnAt Go.Proofs.Tryd.func104 (by kernel_rfl) (by decide) (by kernel_rfl) (by kernel_rfl)
end i_slices_insertionSortCmpFunc_Ver_2e0
/-! ### function 89, slices.stableCmpFunc[wayfinder/api.Ver], where it is called -/
namespace i_slices_stableCmpFunc_Ver_2ec
noncomputable def c0 : Code := (Go.Proofs.Tryd.f89.body).getD .skip
noncomputable def V : Env := { tt := tt, Γ := slk [] }
theorem V_ok : EnvOk P V := { ck := tt_ck, fits := slk_nil, mixed := mixed }
abbrev R := (List T814c.T) × Unit
noncomputable def s0 (x1 : Int) (x2 : T26b3.T) (x3 : List T814c.T) : St := ⟨63, [(0, .cv (.one (.own 1))), (1, .cv (.one (.i x1))), (2, .cv (.one (.fn 58 [] [])))], [(.box 13, (encC .any T26b3 x2)), (.buf 54 T814c x3, [])]⟩
noncomputable def out (x2 : T26b3.T) (r : R) : St := ⟨63, [], [(.box 13, (encC .any T26b3 x2)), (.buf 54 T814c r.1, [])]⟩
abbrev Q (x2 : T26b3.T) (r : R) := CallQ 2 (out x2 r)
noncomputable def s1 (x1 : Int) (x2 : T26b3.T) (p2 p3 p4 : Int) (p6 : List T814c.T) : St := ⟨63, [(0, .cv (.one (.own 1))), (1, .cv (.one (.i x1))), (2, .cv (.one (.fn 58 [] []))), (6, .cv (.one (.i p2))), (7, .cv (.one (.i p3))), (8, .cv (.one (.i p4)))], [(.box 13, (encC .any T26b3 x2)), (.buf 54 T814c p6, [])]⟩
noncomputable def s2 (x1 : Int) (x2 : T26b3.T) (p2 : Int) (p4 : List T814c.T) : St := ⟨63, [(0, .cv (.one (.own 1))), (1, .cv (.one (.i x1))), (2, .cv (.one (.fn 58 [] []))), (6, .cv (.one (.i p2)))], [(.box 13, (encC .any T26b3 x2)), (.buf 54 T814c p4, [])]⟩
noncomputable def s3 (x1 : Int) (x2 : T26b3.T) (p2 p3 p4 : Int) (p6 : List T814c.T) : St := ⟨63, [(0, .cv (.one (.own 1))), (1, .cv (.one (.i x1))), (2, .cv (.one (.fn 58 [] []))), (6, .cv (.one (.i p2))), (7, .cv (.one (.i p3))), (8, .cv (.one (.i p4)))], [(.box 13, (encC .any T26b3 x2)), (.buf 54 T814c p6, [])]⟩
noncomputable def b3 (x1 : Int) (x2 : T26b3.T) (L2 : Int → List T814c.T → Option R) (L3 : Int → Int → Int → List T814c.T → Option R) (k : Nat) (p2 p3 p4 : Int) (p6 : List T814c.T) : Option R :=
  if (decide (p4 ≤ x1)) = true then
  none
else
  if (decide ((IntKind.i64.wrap (p3 + p2)) < x1)) = true then
    none
  else
    L2 (IntKind.i64.wrap (p2 * 2)) p6
theorem b3_ok {r x1 x2} {L2 : Int → List T814c.T → Option R} {m2 : Nat} (hL2 : ∀ p2 p4, L2 p2 p4 = some r → Gw P 2 (Q x2 r) (Pb c0 47 [] m2) (s2 x1 x2 p2 p4)) {L3 : Int → Int → Int → List T814c.T → Option R} {m3 : Nat} (hL3 : ∀ p2 p3 p4 p6, L3 p2 p3 p4 p6 = some r → Gw P 2 (Q x2 r) (Pb c0 2383 [m2] m3) (s3 x1 x2 p2 p3 p4 p6)) {k p2 p3 p4 p6} (H : b3 x1 x2 L2 L3 k p2 p3 p4 p6 = some r) : Gw P 2 (Q x2 r) (Px c0 4431 [m2, m3]) (s3 x1 x2 p2 p3 p4 p6) := by
  unfold b3 at H
  refine Rg V_ok 0 [] az ?_
  rcases of_ite H with ⟨hb7, H⟩ | ⟨hb7, H⟩
  · refine C1 hb7 ?_
    cases H
  · refine C0 hb7 ?_
    refine Rg V_ok 0 [] az ?_
    refine Rg V_ok 0 [] az ?_
    rcases of_ite H with ⟨hb8, H⟩ | ⟨hb8, H⟩
    · refine C1 hb8 ?_
      cases H
    · refine C0 hb8 ?_
      refine Rg V_ok 0 [] az ?_
      exact Jm (tn [0, 1, 2, 6] 2) (hL2 (IntKind.i64.wrap (p2 * 2)) p6 H)
noncomputable def l3 (x1 : Int) (x2 : T26b3.T) (L2 : Int → List T814c.T → Option R) (k : Nat) : Nat → Int → Int → Int → List T814c.T → Option R
  | 0, _, _, _, _ => none
  | m + 1, p2, p3, p4, p6 => b3 x1 x2 L2 (l3 x1 x2 L2 k m) k p2 p3 p4 p6
theorem l3_ok {r x1 x2} {L2 : Int → List T814c.T → Option R} {m2 : Nat} (hL2 : ∀ p2 p4, L2 p2 p4 = some r → Gw P 2 (Q x2 r) (Pb c0 47 [] m2) (s2 x1 x2 p2 p4)) (k : Nat) : ∀ (m3 : Nat) (p2 p3 p4 : Int) (p6 : List T814c.T), l3 x1 x2 L2 k m3 p2 p3 p4 p6 = some r → Gw P 2 (Q x2 r) (Pb c0 2383 [m2] m3) (s3 x1 x2 p2 p3 p4 p6)
  | 0, _, _, _, _, H => by cases H
  | m3 + 1, p2, p3, p4, p6, H => SU (by kernel_rfl) (b3_ok hL2 (l3_ok hL2 k m3) H)
noncomputable def b2 (x1 : Int) (x2 : T26b3.T) (L2 : Int → List T814c.T → Option R) (k : Nat) (p2 : Int) (p4 : List T814c.T) : Option R :=
  if (decide (p2 < x1)) = true then
  l3 x1 x2 L2 k k p2 0 (IntKind.i64.wrap (2 * p2)) p4
else
  some (p4, ())
theorem b2_ok {r x1 x2} {L2 : Int → List T814c.T → Option R} {m2 : Nat} (hL2 : ∀ p2 p4, L2 p2 p4 = some r → Gw P 2 (Q x2 r) (Pb c0 47 [] m2) (s2 x1 x2 p2 p4)) {k p2 p4} (H : b2 x1 x2 L2 k p2 p4 = some r) : Gw P 2 (Q x2 r) (Px c0 79 [m2]) (s2 x1 x2 p2 p4) := by
  unfold b2 at H
  refine Rg V_ok 0 [] az ?_
  rcases of_ite H with ⟨hb6, H⟩ | ⟨hb6, H⟩
  · refine C1 hb6 ?_
    refine Rg V_ok 0 [] az ?_
    exact LP k (Jm (tn [0, 1, 2, 6, 7, 8] 2) (l3_ok hL2 k k p2 0 (IntKind.i64.wrap (2 * p2)) p4 H))
  · refine C0 hb6 ?_
    obtain rfl := Option.some.inj H
    exact Lq (tn [] 2)
noncomputable def l2 (x1 : Int) (x2 : T26b3.T) (k : Nat) : Nat → Int → List T814c.T → Option R
  | 0, _, _ => none
  | m + 1, p2, p4 => b2 x1 x2 (l2 x1 x2 k m) k p2 p4
theorem l2_ok {r x1 x2} (k : Nat) : ∀ (m2 : Nat) (p2 : Int) (p4 : List T814c.T), l2 x1 x2 k m2 p2 p4 = some r → Gw P 2 (Q x2 r) (Pb c0 47 [] m2) (s2 x1 x2 p2 p4)
  | 0, _, _, H => by cases H
  | m2 + 1, p2, p4, H => SU (by kernel_rfl) (b2_ok (l2_ok k m2) H)
noncomputable def b1 (x1 : Int) (x2 : T26b3.T) (L1 : Int → Int → Int → List T814c.T → Option R) (k : Nat) (p2 p3 p4 : Int) (p6 : List T814c.T) : Option R :=
  if (decide (p4 ≤ x1)) = true then
  (i_slices_insertionSortCmpFunc_Ver_2e0.f k p3 p4 x2 p6).bind fun y2 =>
    L1 p2 p4 (IntKind.i64.wrap (p4 + p2)) y2.1
else
  (i_slices_insertionSortCmpFunc_Ver_2e0.f k p3 x1 x2 p6).bind fun y4 =>
    l2 x1 x2 k k p2 y4.1
theorem b1_ok {r x1 x2} {L1 : Int → Int → Int → List T814c.T → Option R} {m1 : Nat} (hL1 : ∀ p2 p3 p4 p6, L1 p2 p3 p4 p6 = some r → Gw P 2 (Q x2 r) (Pb c0 19 [] m1) (s1 x1 x2 p2 p3 p4 p6)) {k p2 p3 p4 p6} (H : b1 x1 x2 L1 k p2 p3 p4 p6 = some r) : Gw P 2 (Q x2 r) (Px c0 35 [m1]) (s1 x1 x2 p2 p3 p4 p6) := by
  unfold b1 at H
  refine Rg V_ok 0 [] az ?_
  rcases of_ite H with ⟨hb1, H⟩ | ⟨hb1, H⟩
  · refine C1 hb1 ?_
    refine GT (tn [0, 1, 2, 6, 7, 8] 2) (RI ?_)
    refine EV V_ok 0 [] 4 az ?_
    obtain ⟨y2, e3, H⟩ := of_bind H
    refine CL V_ok i_slices_insertionSortCmpFunc_Ver_2e0.at_ (i_slices_insertionSortCmpFunc_Ver_2e0.ok e3) ?_
    refine RN ?_
    refine Rg V_ok 0 [] az ?_
    refine Rg V_ok 0 [] az ?_
    exact Jm (tn [0, 1, 2, 6, 7, 8] 2) (hL1 p2 p4 (IntKind.i64.wrap (p4 + p2)) y2.1 H)
  · refine C0 hb1 ?_
    refine GT (tn [0, 1, 2, 6, 7] 2) (RI ?_)
    refine EV V_ok 0 [] 4 az ?_
    obtain ⟨y4, e5, H⟩ := of_bind H
    refine CL V_ok i_slices_insertionSortCmpFunc_Ver_2e0.at_ (i_slices_insertionSortCmpFunc_Ver_2e0.ok e5) ?_
    refine RN ?_
    exact LP k (Jm (tn [0, 1, 2, 6] 2) (l2_ok k k p2 y4.1 H))
noncomputable def l1 (x1 : Int) (x2 : T26b3.T) (k : Nat) : Nat → Int → Int → Int → List T814c.T → Option R
  | 0, _, _, _, _ => none
  | m + 1, p2, p3, p4, p6 => b1 x1 x2 (l1 x1 x2 k m) k p2 p3 p4 p6
theorem l1_ok {r x1 x2} (k : Nat) : ∀ (m1 : Nat) (p2 p3 p4 : Int) (p6 : List T814c.T), l1 x1 x2 k m1 p2 p3 p4 p6 = some r → Gw P 2 (Q x2 r) (Pb c0 19 [] m1) (s1 x1 x2 p2 p3 p4 p6)
  | 0, _, _, _, _, H => by cases H
  | m1 + 1, p2, p3, p4, p6, H => SU (by kernel_rfl) (b1_ok (l1_ok k m1) H)
noncomputable def f (k : Nat) (x1 : Int) (x2 : T26b3.T) (x3 : List T814c.T) : Option R :=
  l1 x1 x2 k k 20 0 20 x3
theorem f_ok {r k x1 x2 x3} (H : f k x1 x2 x3 = some r) : Gw P 2 (Q x2 r) (Px c0 1 []) (s0 x1 x2 x3) := by
  unfold f at H
  refine Rg V_ok 0 [] az ?_
  refine Rg V_ok 0 [] az ?_
  exact LP k (Jm (tn [0, 1, 2, 6, 7, 8] 2) (l1_ok k k 20 0 20 x3 H))
theorem ok {r k x1 x2 x3} (H : f k x1 x2 x3 = some r) : W P 2 c0 (s0 x1 x2 x3) (CallQ 2 (out x2 r)) := of_G (f_ok H)
theorem at_ : FnAt P 89 63 c0 Go.Proofs.Tryd.f89.results := fnAt Go.Proofs.Tryd.func89 (by kernel_rfl) (by decide) (by kernel_rfl) (by kernel_rfl)
end i_slices_stableCmpFunc_Ver_2ec
/-! ### function 57, slices.SortStableFunc[[]wayfinder/api.Ver,wayfinder/api.Ver], where it is called -/
namespace i_slices_SortStableFunc_Ver_885
noncomputable def c0 : Code := (Go.Proofs.Tryd.f57.body).getD .skip
noncomputable def V : Env := { tt := tt, Γ := slk [] }
theorem V_ok : EnvOk P V := { ck := tt_ck, fits := slk_nil, mixed := mixed }
abbrev R := (List T814c.T) × Unit
noncomputable def s0 (x1 : T26b3.T) (x2 : List T814c.T) : St := ⟨9, [(0, .cv (.one (.own 1))), (1, .cv (.one (.fn 58 [] [])))], [(.box 13, (encC .any T26b3 x1)), (.buf 54 T814c x2, [])]⟩
noncomputable def out (x1 : T26b3.T) (r : R) : St := ⟨9, [], [(.box 13, (encC .any T26b3 x1)), (.buf 54 T814c r.1, [])]⟩
abbrev Q (x1 : T26b3.T) (r : R) := CallQ 2 (out x1 r)
noncomputable def f (k : Nat) (x1 : T26b3.T) (x2 : List T814c.T) : Option R :=
  (i_slices_stableCmpFunc_Ver_2ec.f k (x2.length : Int) x1 x2).bind fun y1 =>
    some (y1.1, ())
theorem f_ok {r k x1 x2} (H : f k x1 x2 = some r) : Gw P 2 (Q x1 r) (Px c0 1 []) (s0 x1 x2) := by
  unfold f at H
  refine GT (tn [0, 1] 2) (RI ?_)
  refine EV V_ok 0 [] 4 az ?_
  obtain ⟨y1, e2, H⟩ := of_bind H
  refine CL V_ok i_slices_stableCmpFunc_Ver_2ec.at_ (i_slices_stableCmpFunc_Ver_2ec.ok e2) ?_
  refine RN ?_
  obtain rfl := Option.some.inj H
  exact Lq (tn [] 2)
theorem ok {r k x1 x2} (H : f k x1 x2 = some r) : W P 2 c0 (s0 x1 x2) (CallQ 2 (out x1 r)) := of_G (f_ok H)
theorem at_ : FnAt P 57 9 c0 Go.Proofs.Tryd.f57.results := fnAt Go.Proofs.Tryd.func57 (by kernel_rfl) (by decide) (by kernel_rfl) (by kernel_rfl)
end i_slices_SortStableFunc_Ver_885
/-! ### function 59, (*wayfinder/control.controller).flips, where it is called -/
namespace i_control_controller_flips_ebc
noncomputable def c0 : Code := (Go.Proofs.Tryd.f59.body).getD .skip
noncomputable def V : Env := { tt := tt, Γ := slk [] }
theorem V_ok : EnvOk P V := { ck := tt_ck, fits := slk_nil, mixed := mixed }
abbrev R := (Bool) × Unit
noncomputable def s0 (x1 : T26b3.T) (x2 : List T814c.T) : St := ⟨17, [(0, .cv (.one (.ptr 0 0)))], [(.box 13, (encC .any T26b3 x1)), (.buf 54 T814c x2, [])]⟩
noncomputable def out (x1 : T26b3.T) (x2 : List T814c.T) (r : R) : St := ⟨17, [(2, .cv (.one (.bool r.1)))], [(.box 13, (encC .any T26b3 x1)), (.buf 54 T814c x2, [])]⟩
abbrev Q (x1 : T26b3.T) (x2 : List T814c.T) (r : R) := CallQ 2 (out x1 x2 r)
noncomputable def f (k : Nat) (x1 : T26b3.T) (x2 : List T814c.T) : Option R :=
  if (x1.2.2.2.2.2.1 == (2 : Int)) = true then
    some (true, ())
  else
    some ((x1.2.2.2.2.2.1 == (3 : Int)), ())
theorem f_ok {r k x1 x2} (H : f k x1 x2 = some r) : Gw P 2 (Q x1 x2 r) (Px c0 1 []) (s0 x1 x2) := by
  unfold f at H
  refine Rg V_ok 0 [] az ?_
  rcases of_ite H with ⟨hb1, H⟩ | ⟨hb1, H⟩
  · refine Rg V_ok 0 [(5, {bv := some true})] (ac hb1 az) ?_
    obtain rfl := Option.some.inj H
    exact Lq (tn [2] 2)
  · refine Rg V_ok 0 [(5, {bv := some false})] (ac hb1 az) ?_
    obtain rfl := Option.some.inj H
    exact Lq (tn [2] 2)
theorem ok {r k x1 x2} (H : f k x1 x2 = some r) : W P 2 c0 (s0 x1 x2) (CallQ 2 (out x1 x2 r)) := of_G (f_ok H)
theorem at_ : FnAt P 59 17 c0 Go.Proofs.Tryd.f59.results := fnAt Go.Proofs.Tryd.func59 (by kernel_rfl) (by decide) (by kernel_rfl) (by kernel_rfl)
end i_control_controller_flips_ebc
/-! ### function 59, (*wayfinder/control.controller).flips, where it is called -/
namespace i_control_controller_flips_e28
noncomputable def c0 : Code := (Go.Proofs.Tryd.f59.body).getD .skip
noncomputable def V : Env := { tt := tt, Γ := slk [] }
theorem V_ok : EnvOk P V := { ck := tt_ck, fits := slk_nil, mixed := mixed }
abbrev R := (Bool) × Unit
noncomputable def s0 (x1 : T26b3.T) : St := ⟨17, [(0, .cv (.one (.ptr 0 0)))], [(.box 13, (encC .any T26b3 x1))]⟩
noncomputable def out (x1 : T26b3.T) (r : R) : St := ⟨17, [(2, .cv (.one (.bool r.1)))], [(.box 13, (encC .any T26b3 x1))]⟩
abbrev Q (x1 : T26b3.T) (r : R) := CallQ 1 (out x1 r)
noncomputable def f (k : Nat) (x1 : T26b3.T) : Option R :=
  if (x1.2.2.2.2.2.1 == (2 : Int)) = true then
    some (true, ())
  else
    some ((x1.2.2.2.2.2.1 == (3 : Int)), ())
theorem f_ok {r k x1} (H : f k x1 = some r) : Gw P 1 (Q x1 r) (Px c0 1 []) (s0 x1) := by
  unfold f at H
  refine Rg V_ok 0 [] az ?_
  rcases of_ite H with ⟨hb1, H⟩ | ⟨hb1, H⟩
  · refine Rg V_ok 0 [(5, {bv := some true})] (ac hb1 az) ?_
    obtain rfl := Option.some.inj H
    exact Lq (tn [2] 1)
  · refine Rg V_ok 0 [(5, {bv := some false})] (ac hb1 az) ?_
    obtain rfl := Option.some.inj H
    exact Lq (tn [2] 1)
theorem ok {r k x1} (H : f k x1 = some r) : W P 1 c0 (s0 x1) (CallQ 1 (out x1 r)) := of_G (f_ok H)
theorem at_ : FnAt P 59 17 c0 Go.Proofs.Tryd.f59.results := fnAt Go.Proofs.Tryd.func59 (by kernel_rfl) (by decide) (by kernel_rfl) (by kernel_rfl)
end i_control_controller_flips_e28
/-! ### function 24, (*wayfinder/control.controller).live, where it is called -/
namespace i_control_controller_live_258
noncomputable def c0 : Code := (Go.Proofs.Tryd.f24.body).getD .skip
noncomputable def V : Env := { tt := tt, Γ := slk [(56, f_conf_At.S)] }
theorem V_ok : EnvOk P V := { ck := tt_ck, fits := slk_cons f_conf_At.fits (slk_nil), mixed := mixed }
abbrev R := (List T814c.T) × (Int) × Unit
noncomputable def s0 (x1 : Int) (x2 : T26b3.T) : St := ⟨70, [(0, .cv (.one (.ptr 0 0))), (1, .cv (.one (.i x1)))], [(.box 13, (encC .any T26b3 x2))]⟩
noncomputable def out (x2 : T26b3.T) (r : R) : St := ⟨70, [(4, .cv (.one (.sl T814c r.1 .any))), (5, .cv (.one (.i r.2.1)))], [(.box 13, (encC .any T26b3 x2))]⟩
abbrev Q (x2 : T26b3.T) (r : R) := CallQ 1 (out x2 r)
noncomputable def s2 (x2 : T26b3.T) (p1 : Int) (p3 : List T814c.T) : St := ⟨70, [(0, .cv (.one (.ptr 0 0))), (6, .cv (.one (.own 1))), (7, .cv (.one (.i p1)))], [(.box 13, (encC .any T26b3 x2)), (.buf 54 T814c p3, [])]⟩
noncomputable def s4 (x2 : T26b3.T) (p1 : Int) (p2 : Bool) (p4 : List T814c.T) : St := ⟨70, [(0, .cv (.one (.ptr 0 0))), (6, .cv (.one (.own 1))), (7, .cv (.one (.i p1))), (62, .cv (.one (.bool p2)))], [(.box 13, (encC .any T26b3 x2)), (.buf 54 T814c p4, [])]⟩
noncomputable def s6 (x2 : T26b3.T) (p2 : List T814c.T) : St := ⟨70, [(0, .cv (.one (.ptr 0 0))), (6, .cv (.one (.own 1)))], [(.box 13, (encC .any T26b3 x2)), (.buf 54 T814c p2, [])]⟩
noncomputable def s1 (x2 : T26b3.T) (p1 : Int) (p3 : List T814c.T) : St := ⟨70, [(6, .cv (.one (.own 1))), (7, .cv (.one (.i p1)))], [(.box 13, (encC .any T26b3 x2)), (.buf 54 T814c p3, [])]⟩
noncomputable def j1 (x2 : T26b3.T) (k : Nat) (p1 : Int) (p3 : List T814c.T) : Option R :=
  some (p3, (p1, ()))
theorem j1_ok {r x2} {k p1 p3} (H : j1 x2 k p1 p3 = some r) : Gw P 1 (Q x2 r) (Px c0 31 []) (s1 x2 p1 p3) := by
  unfold j1 at H
  refine Rg V_ok 0 [] az ?_
  obtain rfl := Option.some.inj H
  exact Lq {fz := [1], gr := 0, ad := [], live := [4, 5], src := [some 0]}
noncomputable def j6 (x2 : T26b3.T) (k : Nat) (p2 : List T814c.T) : Option R :=
  j1 x2 k x2.2.2.2.2.1 p2
theorem j6_ok {r x2} {k p2} (H : j6 x2 k p2 = some r) : Gw P 1 (Q x2 r) (Px c0 87 []) (s6 x2 p2) := by
  unfold j6 at H
  refine Rg V_ok 0 [] az ?_
  exact Jm (tn [6, 7] 2) (j1_ok H)
noncomputable def j4 (x2 : T26b3.T) (k : Nat) (p1 : Int) (p2 : Bool) (p4 : List T814c.T) : Option R :=
  if p2 = true then
  j6 x2 k p4
else
  j1 x2 k p1 p4
theorem j4_ok {r x2} {k p1 p2 p4} (H : j4 x2 k p1 p2 p4 = some r) : Gw P 1 (Q x2 r) (Px c0 55 []) (s4 x2 p1 p2 p4) := by
  unfold j4 at H
  rcases of_ite H with ⟨hb16, H⟩ | ⟨hb16, H⟩
  · refine C1 hb16 ?_
    exact Jm (tn [0, 6] 2) (j6_ok H)
  · refine C0 hb16 ?_
    exact Jm (tn [6, 7] 2) (j1_ok H)
noncomputable def j2 (x2 : T26b3.T) (k : Nat) (p1 : Int) (p3 : List T814c.T) : Option R :=
  (i_control_controller_flips_ebc.f k x2 p3).bind fun y14 =>
  j4 x2 k p1 y14.1 p3
theorem j2_ok {r x2} {k p1 p3} (H : j2 x2 k p1 p3 = some r) : Gw P 1 (Q x2 r) (Px c0 15 []) (s2 x2 p1 p3) := by
  unfold j2 at H
  refine GT (tn [0, 6, 7] 2) (RI ?_)
  refine EV V_ok 0 [] 1 az ?_
  obtain ⟨y14, e15, H⟩ := of_bind H
  refine CL V_ok i_control_controller_flips_ebc.at_ (i_control_controller_flips_ebc.ok e15) ?_
  refine RN ?_
  exact Jm (tn [0, 6, 7, 62] 2) (j4_ok H)
noncomputable def s3 (x2 : T26b3.T) (p1 : List T814c.T) (p2 : Int) : St := ⟨70, [(0, .cv (.one (.ptr 0 0))), (6, .cv (.one (.sl T814c p1 .full))), (7, .cv (.one (.i p2)))], [(.box 13, (encC .any T26b3 x2))]⟩
noncomputable def s5 (x2 : T26b3.T) (p1 : List T814c.T) (p2 : Int) (p3 : Bool) : St := ⟨70, [(0, .cv (.one (.ptr 0 0))), (6, .cv (.one (.sl T814c p1 .full))), (7, .cv (.one (.i p2))), (62, .cv (.one (.bool p3)))], [(.box 13, (encC .any T26b3 x2))]⟩
noncomputable def s7 (x2 : T26b3.T) (p1 : List T814c.T) : St := ⟨70, [(0, .cv (.one (.ptr 0 0))), (6, .cv (.one (.sl T814c p1 .full)))], [(.box 13, (encC .any T26b3 x2))]⟩
noncomputable def s8 (x2 : T26b3.T) (p1 : List T814c.T) (p2 : Int) : St := ⟨70, [(6, .cv (.one (.sl T814c p1 .full))), (7, .cv (.one (.i p2)))], [(.box 13, (encC .any T26b3 x2))]⟩
noncomputable def j8 (x2 : T26b3.T) (k : Nat) (p1 : List T814c.T) (p2 : Int) : Option R :=
  some (p1, (p2, ()))
theorem j8_ok {r x2} {k p1 p2} (H : j8 x2 k p1 p2 = some r) : Gw P 1 (Q x2 r) (Px c0 31 []) (s8 x2 p1 p2) := by
  unfold j8 at H
  refine Rg V_ok 0 [] az ?_
  obtain rfl := Option.some.inj H
  exact Lq {fz := [], gr := 0, ad := [.tmp 4 (.any)], live := [4, 5], src := [some 0]}
noncomputable def j7 (x2 : T26b3.T) (k : Nat) (p1 : List T814c.T) : Option R :=
  j8 x2 k p1 x2.2.2.2.2.1
theorem j7_ok {r x2} {k p1} (H : j7 x2 k p1 = some r) : Gw P 1 (Q x2 r) (Px c0 87 []) (s7 x2 p1) := by
  unfold j7 at H
  refine Rg V_ok 0 [] az ?_
  exact Jm (tn [6, 7] 1) (j8_ok H)
noncomputable def j5 (x2 : T26b3.T) (k : Nat) (p1 : List T814c.T) (p2 : Int) (p3 : Bool) : Option R :=
  if p3 = true then
  j7 x2 k p1
else
  j8 x2 k p1 p2
theorem j5_ok {r x2} {k p1 p2 p3} (H : j5 x2 k p1 p2 p3 = some r) : Gw P 1 (Q x2 r) (Px c0 55 []) (s5 x2 p1 p2 p3) := by
  unfold j5 at H
  rcases of_ite H with ⟨hb19, H⟩ | ⟨hb19, H⟩
  · refine C1 hb19 ?_
    exact Jm (tn [0, 6] 1) (j7_ok H)
  · refine C0 hb19 ?_
    exact Jm (tn [6, 7] 1) (j8_ok H)
noncomputable def j3 (x2 : T26b3.T) (k : Nat) (p1 : List T814c.T) (p2 : Int) : Option R :=
  (i_control_controller_flips_e28.f k x2).bind fun y17 =>
  j5 x2 k p1 p2 y17.1
theorem j3_ok {r x2} {k p1 p2} (H : j3 x2 k p1 p2 = some r) : Gw P 1 (Q x2 r) (Px c0 15 []) (s3 x2 p1 p2) := by
  unfold j3 at H
  refine GT (tn [0, 6, 7] 1) (RI ?_)
  refine EV V_ok 0 [] 1 az ?_
  obtain ⟨y17, e18, H⟩ := of_bind H
  refine CL V_ok i_control_controller_flips_e28.at_ (i_control_controller_flips_e28.ok e18) ?_
  refine RN ?_
  exact Jm (tn [0, 6, 7, 62] 1) (j5_ok H)
noncomputable def f (k : Nat) (x1 : Int) (x2 : T26b3.T) : Option R :=
  if 0 ≤ x2.2.1 then
    if x2.2.1 < (x2.1.length : Int) then
      (f_conf_At.f k (att (.slice (.slice T1383)) x2.1 x2.2.1) x1).bind fun y1 =>
        (i_control_controller_two_e28.f k x2).bind fun y5 =>
          if y5.1 = true then
            if 0 ≤ x2.2.2.1 then
              if x2.2.2.1 < (x2.1.length : Int) then
                (f_conf_At.f k (att (.slice (.slice T1383)) x2.1 x2.2.2.1) x1).bind fun y8 =>
                  (i_slices_SortStableFunc_Ver_885.f k x2 [(x2.2.2.2.1, y1.1), (x2.2.2.2.2.1, y8.1)]).bind fun y12 =>
                    j2 x2 k x2.2.2.2.1 y12.1
              else none
            else none
          else
            j3 x2 k [(x2.2.2.2.1, y1.1)] x2.2.2.2.1
    else none
  else none
theorem f_ok {r k x1 x2} (H : f k x1 x2 = some r) : Gw P 1 (Q x2 r) (Px c0 1 []) (s0 x1 x2) := by
  unfold f at H
  refine Rg V_ok 0 [] az ?_
  obtain ⟨n2, H⟩ := of_if H
  obtain ⟨n3, H⟩ := of_if H
  obtain ⟨y1, e4, H⟩ := of_bind H
  refine Rg V_ok 0 [(18, hr f_conf_At.S y1)] (ac n2 (ac n3 (ac (f_conf_At.rl e4) az))) ?_
  refine GT (tn [0, 1, 6, 7] 1) (RI ?_)
  refine EV V_ok 0 [] 1 az ?_
  obtain ⟨y5, e6, H⟩ := of_bind H
  refine CL V_ok i_control_controller_two_e28.at_ (i_control_controller_two_e28.ok e6) ?_
  refine RN ?_
  rcases of_ite H with ⟨hb7, H⟩ | ⟨hb7, H⟩
  · refine C1 hb7 ?_
    obtain ⟨n9, H⟩ := of_if H
    obtain ⟨n10, H⟩ := of_if H
    obtain ⟨y8, e11, H⟩ := of_bind H
    refine Rg V_ok 1 [(19, hr f_conf_At.S y8), (22, hb 1)] (ac n9 (ac n10 (ac (f_conf_At.rl e11) (ac (show (1 + 1) * 32 ≤ 140737488355328 by decide) (ac (show 1 = 0 ∨ 0 < 1 by decide) az))))) ?_
    refine GT (tn [0, 6, 7] 2) (RI ?_)
    refine EV V_ok 0 [] 1 az ?_
    obtain ⟨y12, e13, H⟩ := of_bind H
    refine CL V_ok i_slices_SortStableFunc_Ver_885.at_ (i_slices_SortStableFunc_Ver_885.ok e13) ?_
    refine RN ?_
    exact Jm (tn [0, 6, 7] 2) (j2_ok H)
  · refine C0 hb7 ?_
    exact Jm (tn [0, 6, 7] 1) (j3_ok H)
theorem ok {r k x1 x2} (H : f k x1 x2 = some r) : W P 1 c0 (s0 x1 x2) (CallQ 1 (out x2 r)) := of_G (f_ok H)
theorem at_ : FnAt P 24 70 c0 Go.Proofs.Tryd.f24.results := fnAt Go.Proofs.Tryd.func24 (by kernel_rfl) (by decide) (by kernel_rfl) (by kernel_rfl)
end i_control_controller_live_258
/-! ### function 11, wayfinder/control.Live -/
namespace f_control_Live
noncomputable def c0 : Code := (Go.Proofs.Tryd.f11.body).getD .skip
abbrev ps : Sg := [(true, T26b3), (false, (.int .i64))]
abbrev rs : Sg := [(false, (.slice T814c)), (false, (.int .i64))]
noncomputable def V : Env := { tt := tt, Γ := slk [] }
theorem V_ok : EnvOk P V := { ck := tt_ck, fits := slk_nil, mixed := mixed }
abbrev R := Tup rs
noncomputable abbrev Q (r : R) : Exit → St → Prop := Qr tt Go.Proofs.Tryd.f11.results ⟨ps, rs, .any, none, fun _ _ => True⟩ r
noncomputable def f (k : Nat) (a1 : T26b3.T) (a2 : Int) : Option R :=
  (i_control_controller_is_e28.f k a1).bind fun y1 =>
    if y1.1 = true then
      (i_control_controller_live_258.f k a2 a1).bind fun y4 =>
        some (y4.1, (y4.2.1, ()))
    else
      some ([], ((0 : Int), ()))
noncomputable def S : Spec := ⟨ps, rs, .any, none, fun x r => ∃ k, f k x.1 x.2.1 = some r⟩
theorem rl {k a1 a2 r} (e : f k a1 a2 = some r) : S.rel (a1, a2, ()) r := ⟨k, e⟩
theorem f_ok {r k a1 a2} (H : f k a1 a2 = some r) : Gw P 0 (Q r) (Px c0 1 []) (⟨17, [(0, .cv (.agg (encC .any T26b3 a1))), (1, .cv (.one (.i a2)))], []⟩) := by
  unfold f at H
  refine Rg V_ok 1 [(0, hb 0)] az ?_
  refine Rg V_ok 1 [(2, hb 1)] az ?_
  refine GT (tl [1, 6] [1]) (RI ?_)
  refine EV V_ok 0 [] 1 az ?_
  obtain ⟨y1, e2, H⟩ := of_bind H
  refine CL V_ok i_control_controller_is_e28.at_ (i_control_controller_is_e28.ok e2) ?_
  refine RN ?_
  rcases of_ite H with ⟨hb3, H⟩ | ⟨hb3, H⟩
  · refine C1 hb3 ?_
    refine GT (tn [1, 6] 1) (RI ?_)
    refine EV V_ok 0 [] 2 az ?_
    obtain ⟨y4, e5, H⟩ := of_bind H
    refine CL V_ok i_control_controller_live_258.at_ (i_control_controller_live_258.ok e5) ?_
    refine EV V_ok 0 [] 4 az ?_
    refine RN ?_
    exact Lf (Eq.trans (by kernel_rfl) H)
  · refine C0 hb3 ?_
    refine Rg V_ok 0 [] az ?_
    exact Lf (Eq.trans (by kernel_rfl) H)
theorem fits : Fits P 11 S := fits_of V_ok Go.Proofs.Tryd.func11 (by kernel_rfl) (by decide) (by decide) rfl (fun x r ⟨k, H⟩ => of_G (f_ok H))
end f_control_Live
/-! ### function 70, wayfinder/wayfinderref08.Same -/
namespace f_ref08_Same
noncomputable def c0 : Code := (Go.Proofs.Tryd.f70.body).getD .skip
abbrev ps : Sg := [(false, (.slice T1383)), (false, (.slice T1383))]
abbrev rs : Sg := [(false, .bool)]
noncomputable def V : Env := { tt := tt, Γ := slk [] }
theorem V_ok : EnvOk P V := { ck := tt_ck, fits := slk_nil, mixed := mixed }
abbrev R := Tup rs
noncomputable abbrev Q (r : R) : Exit → St → Prop := Qr tt Go.Proofs.Tryd.f70.results ⟨ps, rs, .any, none, fun _ _ => True⟩ r
noncomputable def s1 (p1 p2 : List T1383.T) (p3 : Int) : St := ⟨26, [(0, .cv (.one (.sl T1383 p1 .any))), (1, .cv (.one (.sl T1383 p2 .any))), (5, .cv (.one (.i p3)))], []⟩
noncomputable def b1 (L1 : List T1383.T → List T1383.T → Int → Option R) (k : Nat) (p1 p2 : List T1383.T) (p3 : Int) : Option R :=
  if (decide (p3 < (p1.length : Int))) = true then
  if 0 ≤ p3 then
    if p3 < (p1.length : Int) then
      if p3 < (p2.length : Int) then
        if (!(((((att T1383 p1 p3).1).1) == (((att T1383 p2 p3).1).1)) && (((((att T1383 p1 p3).1).2) == (((att T1383 p2 p3).1).2)) && (((((att T1383 p1 p3).2).1) == (((att T1383 p2 p3).2).1)) && ((((((att T1383 p1 p3).2).2).1) == ((((att T1383 p2 p3).2).2).1)) && (((((((att T1383 p1 p3).2).2).2).1) == (((((att T1383 p2 p3).2).2).2).1)) && (((((((att T1383 p1 p3).2).2).2).2) == (((((att T1383 p2 p3).2).2).2).2)) && true))))))) = true then
          some (false, ())
        else
          L1 p1 p2 (IntKind.i64.wrap (p3 + 1))
      else none
    else none
  else none
else
  some (true, ())
theorem b1_ok {r} {L1 : List T1383.T → List T1383.T → Int → Option R} {m1 : Nat} (hL1 : ∀ p1 p2 p3, L1 p1 p2 p3 = some r → Gw P 0 (Q r) (Pb c0 43 [] m1) (s1 p1 p2 p3)) {k p1 p2 p3} (H : b1 L1 k p1 p2 p3 = some r) : Gw P 0 (Q r) (Px c0 75 [m1]) (s1 p1 p2 p3) := by
  unfold b1 at H
  refine Rg V_ok 0 [] az ?_
  rcases of_ite H with ⟨hb2, H⟩ | ⟨hb2, H⟩
  · refine C1 hb2 ?_
    obtain ⟨n3, H⟩ := of_if H
    obtain ⟨n4, H⟩ := of_if H
    obtain ⟨n5, H⟩ := of_if H
    refine Rg V_ok 0 [] (ac n3 (ac n4 (ac n3 (ac n5 az)))) ?_
    rcases of_ite H with ⟨hb6, H⟩ | ⟨hb6, H⟩
    · refine C1 hb6 ?_
      refine Rg V_ok 0 [] az ?_
      exact Lf (Eq.trans (by kernel_rfl) H)
    · refine C0 hb6 ?_
      refine Rg V_ok 0 [] az ?_
      exact Jm (tn [0, 1, 5] 0) (hL1 p1 p2 (IntKind.i64.wrap (p3 + 1)) H)
  · refine C0 hb2 ?_
    refine Rg V_ok 0 [] az ?_
    exact Lf (Eq.trans (by kernel_rfl) H)
noncomputable def l1 (k : Nat) : Nat → List T1383.T → List T1383.T → Int → Option R
  | 0, _, _, _ => none
  | m + 1, p1, p2, p3 => b1 (l1 k m) k p1 p2 p3
theorem l1_ok {r} (k : Nat) : ∀ (m1 : Nat) (p1 p2 : List T1383.T) (p3 : Int), l1 k m1 p1 p2 p3 = some r → Gw P 0 (Q r) (Pb c0 43 [] m1) (s1 p1 p2 p3)
  | 0, _, _, _, H => by cases H
  | m1 + 1, p1, p2, p3, H => SU (by kernel_rfl) (b1_ok (l1_ok k m1) H)
noncomputable def f (k : Nat) (a1 a2 : List T1383.T) : Option R :=
  if ((a1.length : Int) != (a2.length : Int)) = true then
    some (false, ())
  else
    l1 k k a1 a2 0
noncomputable def S : Spec := ⟨ps, rs, .any, none, fun x r => ∃ k, f k x.1 x.2.1 = some r⟩
theorem rl {k a1 a2 r} (e : f k a1 a2 = some r) : S.rel (a1, a2, ()) r := ⟨k, e⟩
theorem f_ok {r k a1 a2} (H : f k a1 a2 = some r) : Gw P 0 (Q r) (Px c0 1 []) (⟨26, [(0, .cv (.one (.sl T1383 a1 .any))), (1, .cv (.one (.sl T1383 a2 .any)))], []⟩) := by
  unfold f at H
  refine Rg V_ok 0 [] az ?_
  refine Rg V_ok 0 [] az ?_
  rcases of_ite H with ⟨hb1, H⟩ | ⟨hb1, H⟩
  · refine C1 hb1 ?_
    refine Rg V_ok 0 [] az ?_
    exact Lf (Eq.trans (by kernel_rfl) H)
  · refine C0 hb1 ?_
    refine Rg V_ok 0 [] az ?_
    exact LP k (Jm (tn [0, 1, 5] 0) (l1_ok k k a1 a2 0 H))
theorem fits : Fits P 70 S := fits_of V_ok Go.Proofs.Tryd.func70 (by kernel_rfl) (by decide) (by decide) rfl (fun x r ⟨k, H⟩ => of_G (f_ok H))
end f_ref08_Same
/-! ### function 28, wayfinder/wayfinderref21.Confs -/
namespace f_ref21_Confs
noncomputable def c0 : Code := (Go.Proofs.Tryd.f28.body).getD .skip
abbrev ps : Sg := [(false, (.slice (.slice (.slice T1383)))), (false, (.slice (.slice (.slice T1383))))]
abbrev rs : Sg := [(false, .bool)]
noncomputable def V : Env := { tt := tt, Γ := slk [(70, f_ref08_Same.S)] }
theorem V_ok : EnvOk P V := { ck := tt_ck, fits := slk_cons f_ref08_Same.fits (slk_nil), mixed := mixed }
abbrev R := Tup rs
noncomputable abbrev Q (r : R) : Exit → St → Prop := Qr tt Go.Proofs.Tryd.f28.results ⟨ps, rs, .any, none, fun _ _ => True⟩ r
noncomputable def s1 (a1 a2 : List (List (List T1383.T))) (p3 : Int) : St := ⟨56, [(0, .cv (.one (.sl (.slice (.slice T1383)) a1 .any))), (1, .cv (.one (.sl (.slice (.slice T1383)) a2 .any))), (5, .cv (.one (.i p3)))], []⟩
noncomputable def s2 (a1 a2 : List (List (List T1383.T))) (p3 p4 : Int) : St := ⟨56, [(0, .cv (.one (.sl (.slice (.slice T1383)) a1 .any))), (1, .cv (.one (.sl (.slice (.slice T1383)) a2 .any))), (5, .cv (.one (.i p3))), (6, .cv (.one (.i p4)))], []⟩
noncomputable def b2 (a1 a2 : List (List (List T1383.T))) (L1 : Int → Option R) (L2 : Int → Int → Option R) (k : Nat) (p3 p4 : Int) : Option R :=
  if 0 ≤ p3 then
  if p3 < (a1.length : Int) then
    if (decide (p4 < ((att (.slice (.slice T1383)) a1 p3).length : Int))) = true then
      if 0 ≤ p4 then
        if p4 < ((att (.slice (.slice T1383)) a1 p3).length : Int) then
          if p3 < (a2.length : Int) then
            if p4 < ((att (.slice (.slice T1383)) a2 p3).length : Int) then
              (f_ref08_Same.f k (att (.slice T1383) (att (.slice (.slice T1383)) a1 p3) p4) (att (.slice T1383) (att (.slice (.slice T1383)) a2 p3) p4)).bind fun y10 =>
                if (!y10.1) = true then
                  some (false, ())
                else
                  L2 p3 (IntKind.i64.wrap (p4 + 1))
            else none
          else none
        else none
      else none
    else
      L1 (IntKind.i64.wrap (p3 + 1))
  else none
else none
theorem b2_ok {r a1 a2} {L1 : Int → Option R} {m1 : Nat} (hL1 : ∀ p3, L1 p3 = some r → Gw P 0 (Q r) (Pb c0 43 [] m1) (s1 a1 a2 p3)) {L2 : Int → Int → Option R} {m2 : Nat} (hL2 : ∀ p3 p4, L2 p3 p4 = some r → Gw P 0 (Q r) (Pb c0 5707 [m1] m2) (s2 a1 a2 p3 p4)) {k p3 p4} (H : b2 a1 a2 L1 L2 k p3 p4 = some r) : Gw P 0 (Q r) (Px c0 9803 [m1, m2]) (s2 a1 a2 p3 p4) := by
  unfold b2 at H
  obtain ⟨n7, H⟩ := of_if H
  obtain ⟨n8, H⟩ := of_if H
  refine Rg V_ok 0 [] (ac n7 (ac n8 az)) ?_
  rcases of_ite H with ⟨hb9, H⟩ | ⟨hb9, H⟩
  · refine C1 hb9 ?_
    obtain ⟨n11, H⟩ := of_if H
    obtain ⟨n12, H⟩ := of_if H
    obtain ⟨n13, H⟩ := of_if H
    obtain ⟨n14, H⟩ := of_if H
    obtain ⟨y10, e15, H⟩ := of_bind H
    refine Rg V_ok 0 [(14, hr f_ref08_Same.S y10)] (ac n7 (ac n8 (ac n11 (ac n12 (ac n7 (ac n13 (ac n11 (ac n14 (ac (f_ref08_Same.rl e15) az))))))))) ?_
    refine Rg V_ok 0 [] az ?_
    rcases of_ite H with ⟨hb16, H⟩ | ⟨hb16, H⟩
    · refine C1 hb16 ?_
      refine Rg V_ok 0 [] az ?_
      exact Lf (Eq.trans (by kernel_rfl) H)
    · refine C0 hb16 ?_
      refine Rg V_ok 0 [] az ?_
      exact Jm (tn [0, 1, 5, 6] 0) (hL2 p3 (IntKind.i64.wrap (p4 + 1)) H)
  · refine C0 hb9 ?_
    refine Rg V_ok 0 [] az ?_
    exact Jm (tn [0, 1, 5] 0) (hL1 (IntKind.i64.wrap (p3 + 1)) H)
noncomputable def l2 (a1 a2 : List (List (List T1383.T))) (L1 : Int → Option R) (k : Nat) : Nat → Int → Int → Option R
  | 0, _, _ => none
  | m + 1, p3, p4 => b2 a1 a2 L1 (l2 a1 a2 L1 k m) k p3 p4
theorem l2_ok {r a1 a2} {L1 : Int → Option R} {m1 : Nat} (hL1 : ∀ p3, L1 p3 = some r → Gw P 0 (Q r) (Pb c0 43 [] m1) (s1 a1 a2 p3)) (k : Nat) : ∀ (m2 : Nat) (p3 : Int) (p4 : Int), l2 a1 a2 L1 k m2 p3 p4 = some r → Gw P 0 (Q r) (Pb c0 5707 [m1] m2) (s2 a1 a2 p3 p4)
  | 0, _, _, H => by cases H
  | m2 + 1, p3, p4, H => SU (by kernel_rfl) (b2_ok hL1 (l2_ok hL1 k m2) H)
noncomputable def b1 (a1 a2 : List (List (List T1383.T))) (L1 : Int → Option R) (k : Nat) (p3 : Int) : Option R :=
  if (decide (p3 < (a1.length : Int))) = true then
  if 0 ≤ p3 then
    if p3 < (a1.length : Int) then
      if p3 < (a2.length : Int) then
        if (((att (.slice (.slice T1383)) a1 p3).length : Int) != ((att (.slice (.slice T1383)) a2 p3).length : Int)) = true then
          some (false, ())
        else
          l2 a1 a2 L1 k k p3 0
      else none
    else none
  else none
else
  some (true, ())
theorem b1_ok {r a1 a2} {L1 : Int → Option R} {m1 : Nat} (hL1 : ∀ p3, L1 p3 = some r → Gw P 0 (Q r) (Pb c0 43 [] m1) (s1 a1 a2 p3)) {k p3} (H : b1 a1 a2 L1 k p3 = some r) : Gw P 0 (Q r) (Px c0 75 [m1]) (s1 a1 a2 p3) := by
  unfold b1 at H
  refine Rg V_ok 0 [] az ?_
  rcases of_ite H with ⟨hb2, H⟩ | ⟨hb2, H⟩
  · refine C1 hb2 ?_
    obtain ⟨n3, H⟩ := of_if H
    obtain ⟨n4, H⟩ := of_if H
    obtain ⟨n5, H⟩ := of_if H
    refine Rg V_ok 0 [] (ac n3 (ac n4 (ac n3 (ac n5 az)))) ?_
    rcases of_ite H with ⟨hb6, H⟩ | ⟨hb6, H⟩
    · refine C1 hb6 ?_
      refine Rg V_ok 0 [] az ?_
      exact Lf (Eq.trans (by kernel_rfl) H)
    · refine C0 hb6 ?_
      refine Rg V_ok 0 [] az ?_
      exact LP k (Jm (tn [0, 1, 5, 6] 0) (l2_ok hL1 k k p3 0 H))
  · refine C0 hb2 ?_
    refine Rg V_ok 0 [] az ?_
    exact Lf (Eq.trans (by kernel_rfl) H)
noncomputable def l1 (a1 a2 : List (List (List T1383.T))) (k : Nat) : Nat → Int → Option R
  | 0, _ => none
  | m + 1, p3 => b1 a1 a2 (l1 a1 a2 k m) k p3
theorem l1_ok {r a1 a2} (k : Nat) : ∀ (m1 : Nat) (p3 : Int), l1 a1 a2 k m1 p3 = some r → Gw P 0 (Q r) (Pb c0 43 [] m1) (s1 a1 a2 p3)
  | 0, _, H => by cases H
  | m1 + 1, p3, H => SU (by kernel_rfl) (b1_ok (l1_ok k m1) H)
noncomputable def f (k : Nat) (a1 a2 : List (List (List T1383.T))) : Option R :=
  if ((a1.length : Int) != (a2.length : Int)) = true then
    some (false, ())
  else
    l1 a1 a2 k k 0
noncomputable def S : Spec := ⟨ps, rs, .any, none, fun x r => ∃ k, f k x.1 x.2.1 = some r⟩
theorem rl {k a1 a2 r} (e : f k a1 a2 = some r) : S.rel (a1, a2, ()) r := ⟨k, e⟩
theorem f_ok {r k a1 a2} (H : f k a1 a2 = some r) : Gw P 0 (Q r) (Px c0 1 []) (⟨56, [(0, .cv (.one (.sl (.slice (.slice T1383)) a1 .any))), (1, .cv (.one (.sl (.slice (.slice T1383)) a2 .any)))], []⟩) := by
  unfold f at H
  refine Rg V_ok 0 [] az ?_
  refine Rg V_ok 0 [] az ?_
  rcases of_ite H with ⟨hb1, H⟩ | ⟨hb1, H⟩
  · refine C1 hb1 ?_
    refine Rg V_ok 0 [] az ?_
    exact Lf (Eq.trans (by kernel_rfl) H)
  · refine C0 hb1 ?_
    refine Rg V_ok 0 [] az ?_
    exact LP k (Jm (tn [0, 1, 5] 0) (l1_ok k k 0 H))
theorem fits : Fits P 28 S := fits_of V_ok Go.Proofs.Tryd.func28 (by kernel_rfl) (by decide) (by decide) rfl (fun x r ⟨k, H⟩ => of_G (f_ok H))
end f_ref21_Confs
/-! ### function 93, wayfinder/wayfinderref15.Msgs -/
namespace f_ref15_Msgs
noncomputable def c0 : Code := (Go.Proofs.Tryd.f93.body).getD .skip
abbrev ps : Sg := [(false, (.slice T4414)), (false, (.slice T4414))]
abbrev rs : Sg := [(false, .bool)]
noncomputable def V : Env := { tt := tt, Γ := slk [] }
theorem V_ok : EnvOk P V := { ck := tt_ck, fits := slk_nil, mixed := mixed }
abbrev R := Tup rs
noncomputable abbrev Q (r : R) : Exit → St → Prop := Qr tt Go.Proofs.Tryd.f93.results ⟨ps, rs, .any, none, fun _ _ => True⟩ r
noncomputable def s1 (p1 p2 : List T4414.T) (p3 : Int) : St := ⟨26, [(0, .cv (.one (.sl T4414 p1 .any))), (1, .cv (.one (.sl T4414 p2 .any))), (5, .cv (.one (.i p3)))], []⟩
noncomputable def b1 (L1 : List T4414.T → List T4414.T → Int → Option R) (k : Nat) (p1 p2 : List T4414.T) (p3 : Int) : Option R :=
  if (decide (p3 < (p1.length : Int))) = true then
  if 0 ≤ p3 then
    if p3 < (p1.length : Int) then
      if p3 < (p2.length : Int) then
        if (!((((att T4414 p1 p3).1) == ((att T4414 p2 p3).1)) && (((((att T4414 p1 p3).2).1) == (((att T4414 p2 p3).2).1)) && ((((((att T4414 p1 p3).2).2).1) == ((((att T4414 p2 p3).2).2).1)) && (((((((att T4414 p1 p3).2).2).2).1) == (((((att T4414 p2 p3).2).2).2).1)) && (((((((((att T4414 p1 p3).2).2).2).2).1).1) == (((((((att T4414 p2 p3).2).2).2).2).1).1)) && (((((((((att T4414 p1 p3).2).2).2).2).1).2) == (((((((att T4414 p2 p3).2).2).2).2).1).2)) && (((((((((att T4414 p1 p3).2).2).2).2).2).1) == (((((((att T4414 p2 p3).2).2).2).2).2).1)) && ((((((((((att T4414 p1 p3).2).2).2).2).2).2).1) == ((((((((att T4414 p2 p3).2).2).2).2).2).2).1)) && (((((((((((att T4414 p1 p3).2).2).2).2).2).2).2).1) == (((((((((att T4414 p2 p3).2).2).2).2).2).2).2).1)) && (((((((((((att T4414 p1 p3).2).2).2).2).2).2).2).2) == (((((((((att T4414 p2 p3).2).2).2).2).2).2).2).2)) && true))))))))))) = true then
          some (false, ())
        else
          L1 p1 p2 (IntKind.i64.wrap (p3 + 1))
      else none
    else none
  else none
else
  some (true, ())
theorem b1_ok {r} {L1 : List T4414.T → List T4414.T → Int → Option R} {m1 : Nat} (hL1 : ∀ p1 p2 p3, L1 p1 p2 p3 = some r → Gw P 0 (Q r) (Pb c0 43 [] m1) (s1 p1 p2 p3)) {k p1 p2 p3} (H : b1 L1 k p1 p2 p3 = some r) : Gw P 0 (Q r) (Px c0 75 [m1]) (s1 p1 p2 p3) := by
  unfold b1 at H
  refine Rg V_ok 0 [] az ?_
  rcases of_ite H with ⟨hb2, H⟩ | ⟨hb2, H⟩
  · refine C1 hb2 ?_
    obtain ⟨n3, H⟩ := of_if H
    obtain ⟨n4, H⟩ := of_if H
    obtain ⟨n5, H⟩ := of_if H
    refine Rg V_ok 0 [] (ac n3 (ac n4 (ac n3 (ac n5 az)))) ?_
    rcases of_ite H with ⟨hb6, H⟩ | ⟨hb6, H⟩
    · refine C1 hb6 ?_
      refine Rg V_ok 0 [] az ?_
      exact Lf (Eq.trans (by kernel_rfl) H)
    · refine C0 hb6 ?_
      refine Rg V_ok 0 [] az ?_
      exact Jm (tn [0, 1, 5] 0) (hL1 p1 p2 (IntKind.i64.wrap (p3 + 1)) H)
  · refine C0 hb2 ?_
    refine Rg V_ok 0 [] az ?_
    exact Lf (Eq.trans (by kernel_rfl) H)
noncomputable def l1 (k : Nat) : Nat → List T4414.T → List T4414.T → Int → Option R
  | 0, _, _, _ => none
  | m + 1, p1, p2, p3 => b1 (l1 k m) k p1 p2 p3
theorem l1_ok {r} (k : Nat) : ∀ (m1 : Nat) (p1 p2 : List T4414.T) (p3 : Int), l1 k m1 p1 p2 p3 = some r → Gw P 0 (Q r) (Pb c0 43 [] m1) (s1 p1 p2 p3)
  | 0, _, _, _, H => by cases H
  | m1 + 1, p1, p2, p3, H => SU (by kernel_rfl) (b1_ok (l1_ok k m1) H)
noncomputable def f (k : Nat) (a1 a2 : List T4414.T) : Option R :=
  if ((a1.length : Int) != (a2.length : Int)) = true then
    some (false, ())
  else
    l1 k k a1 a2 0
noncomputable def S : Spec := ⟨ps, rs, .any, none, fun x r => ∃ k, f k x.1 x.2.1 = some r⟩
theorem rl {k a1 a2 r} (e : f k a1 a2 = some r) : S.rel (a1, a2, ()) r := ⟨k, e⟩
theorem f_ok {r k a1 a2} (H : f k a1 a2 = some r) : Gw P 0 (Q r) (Px c0 1 []) (⟨26, [(0, .cv (.one (.sl T4414 a1 .any))), (1, .cv (.one (.sl T4414 a2 .any)))], []⟩) := by
  unfold f at H
  refine Rg V_ok 0 [] az ?_
  refine Rg V_ok 0 [] az ?_
  rcases of_ite H with ⟨hb1, H⟩ | ⟨hb1, H⟩
  · refine C1 hb1 ?_
    refine Rg V_ok 0 [] az ?_
    exact Lf (Eq.trans (by kernel_rfl) H)
  · refine C0 hb1 ?_
    refine Rg V_ok 0 [] az ?_
    exact LP k (Jm (tn [0, 1, 5] 0) (l1_ok k k a1 a2 0 H))
theorem fits : Fits P 93 S := fits_of V_ok Go.Proofs.Tryd.func93 (by kernel_rfl) (by decide) (by decide) rfl (fun x r ⟨k, H⟩ => of_G (f_ok H))
end f_ref15_Msgs
/-! ### function 71, wayfinder/wayfinderref15.Same -/
namespace f_ref15_Same
noncomputable def c0 : Code := (Go.Proofs.Tryd.f71.body).getD .skip
abbrev ps : Sg := [(true, Tb104), (true, Tb104)]
abbrev rs : Sg := [(false, .bool)]
noncomputable def V : Env := { tt := tt, Γ := slk [(93, f_ref15_Msgs.S)] }
theorem V_ok : EnvOk P V := { ck := tt_ck, fits := slk_cons f_ref15_Msgs.fits (slk_nil), mixed := mixed }
abbrev R := Tup rs
noncomputable abbrev Q (r : R) : Exit → St → Prop := Qr tt Go.Proofs.Tryd.f71.results ⟨ps, rs, .any, none, fun _ _ => True⟩ r
noncomputable def f (k : Nat) (a1 a2 : Tb104.T) : Option R :=
  (f_ref15_Msgs.f k a1.2.2 a2.2.2).bind fun y1 =>
    if y1.1 = true then
      if (a1.1 == a2.1) = true then
        some ((a1.2.1 == a2.2.1), ())
      else
        some (false, ())
    else
      some (false, ())
noncomputable def S : Spec := ⟨ps, rs, .any, none, fun x r => ∃ k, f k x.1 x.2.1 = some r⟩
theorem rl {k a1 a2 r} (e : f k a1 a2 = some r) : S.rel (a1, a2, ()) r := ⟨k, e⟩
theorem f_ok {r k a1 a2} (H : f k a1 a2 = some r) : Gw P 0 (Q r) (Px c0 1 []) (⟨26, [(0, .cv (.agg (encC .any Tb104 a1))), (1, .cv (.agg (encC .any Tb104 a2)))], []⟩) := by
  unfold f at H
  refine Rg V_ok 2 [(0, hb 0), (1, hb 1)] az ?_
  obtain ⟨y1, e2, H⟩ := of_bind H
  refine Rg V_ok 0 [(4, hr f_ref15_Msgs.S y1)] (ac (f_ref15_Msgs.rl e2) az) ?_
  rcases of_ite H with ⟨hb3, H⟩ | ⟨hb3, H⟩
  · rcases of_ite H with ⟨hb4, H⟩ | ⟨hb4, H⟩
    · refine Rg V_ok 0 [(0, {bv := some true}), (7, {bv := some true})] (ac hb3 (ac hb4 az)) ?_
      exact Lf (Eq.trans (by kernel_rfl) H)
    · refine Rg V_ok 0 [(0, {bv := some true}), (7, {bv := some false})] (ac hb3 (ac hb4 az)) ?_
      exact Lf (Eq.trans (by kernel_rfl) H)
  · refine Rg V_ok 0 [(0, {bv := some false})] (ac hb3 az) ?_
    exact Lf (Eq.trans (by kernel_rfl) H)
theorem fits : Fits P 71 S := fits_of V_ok Go.Proofs.Tryd.func71 (by kernel_rfl) (by decide) (by decide) rfl (fun x r ⟨k, H⟩ => of_G (f_ok H))
end f_ref15_Same
/-! ### function 29, wayfinder/wayfinderref21.peers -/
namespace f_ref21_peers
noncomputable def c0 : Code := (Go.Proofs.Tryd.f29.body).getD .skip
abbrev ps : Sg := [(false, (.slice T23b6)), (false, (.slice T23b6))]
abbrev rs : Sg := [(false, .bool)]
noncomputable def V : Env := { tt := tt, Γ := slk [(71, f_ref15_Same.S)] }
theorem V_ok : EnvOk P V := { ck := tt_ck, fits := slk_cons f_ref15_Same.fits (slk_nil), mixed := mixed }
abbrev R := Tup rs
noncomputable abbrev Q (r : R) : Exit → St → Prop := Qr tt Go.Proofs.Tryd.f29.results ⟨ps, rs, .any, none, fun _ _ => True⟩ r
noncomputable def s1 (a1 a2 : List T23b6.T) (p3 : Int) : St := ⟨57, [(0, .cv (.one (.sl T23b6 a1 .any))), (1, .cv (.one (.sl T23b6 a2 .any))), (5, .cv (.one (.i p3)))], []⟩
noncomputable def s2 (a1 a2 : List T23b6.T) (p3 : Int) (p4 : Bool) : St := ⟨57, [(0, .cv (.one (.sl T23b6 a1 .any))), (1, .cv (.one (.sl T23b6 a2 .any))), (5, .cv (.one (.i p3))), (56, .cv (.one (.bool p4)))], []⟩
noncomputable def j2 (a1 a2 : List T23b6.T) (L1 : Int → Option R) (k : Nat) (p3 : Int) (p4 : Bool) : Option R :=
  if p4 = true then
  some (false, ())
else
  L1 (IntKind.i64.wrap (p3 + 1))
theorem j2_ok {r a1 a2} {L1 : Int → Option R} {m1 : Nat} (hL1 : ∀ p3, L1 p3 = some r → Gw P 0 (Q r) (Pb c0 43 [] m1) (s1 a1 a2 p3)) {k p3 p4} (H : j2 a1 a2 L1 k p3 p4 = some r) : Gw P 0 (Q r) (Px c0 3659 [m1]) (s2 a1 a2 p3 p4) := by
  unfold j2 at H
  rcases of_ite H with ⟨hb9, H⟩ | ⟨hb9, H⟩
  · refine C1 hb9 ?_
    refine Rg V_ok 0 [] az ?_
    exact Lf (Eq.trans (by kernel_rfl) H)
  · refine C0 hb9 ?_
    refine Rg V_ok 0 [] az ?_
    exact Jm (tn [0, 1, 5] 0) (hL1 (IntKind.i64.wrap (p3 + 1)) H)
noncomputable def b1 (a1 a2 : List T23b6.T) (L1 : Int → Option R) (k : Nat) (p3 : Int) : Option R :=
  if (decide (p3 < (a1.length : Int))) = true then
  if 0 ≤ p3 then
    if p3 < (a1.length : Int) then
      if p3 < (a2.length : Int) then
        (f_ref15_Same.f k (((att T23b6 a1 p3).2).2) (((att T23b6 a2 p3).2).2)).bind fun y3 =>
          if (!y3.1) = true then
            j2 a1 a2 L1 k p3 true
          else
            if (((att T23b6 a1 p3).1) != ((att T23b6 a2 p3).1)) = true then
              j2 a1 a2 L1 k p3 true
            else
              j2 a1 a2 L1 k p3 ((((att T23b6 a1 p3).2).1) != (((att T23b6 a2 p3).2).1))
      else none
    else none
  else none
else
  some (true, ())
theorem b1_ok {r a1 a2} {L1 : Int → Option R} {m1 : Nat} (hL1 : ∀ p3, L1 p3 = some r → Gw P 0 (Q r) (Pb c0 43 [] m1) (s1 a1 a2 p3)) {k p3} (H : b1 a1 a2 L1 k p3 = some r) : Gw P 0 (Q r) (Px c0 75 [m1]) (s1 a1 a2 p3) := by
  unfold b1 at H
  refine Rg V_ok 0 [] az ?_
  rcases of_ite H with ⟨hb2, H⟩ | ⟨hb2, H⟩
  · refine C1 hb2 ?_
    obtain ⟨n4, H⟩ := of_if H
    obtain ⟨n5, H⟩ := of_if H
    obtain ⟨n6, H⟩ := of_if H
    obtain ⟨y3, e7, H⟩ := of_bind H
    refine Rg V_ok 0 [(10, hr f_ref15_Same.S y3)] (ac n4 (ac n5 (ac n4 (ac n6 (ac (f_ref15_Same.rl e7) az))))) ?_
    rcases of_ite H with ⟨hb8, H⟩ | ⟨hb8, H⟩
    · refine Rg V_ok 0 [(1, {bv := some true})] (ac hb8 az) ?_
      exact Jm (tn [0, 1, 5, 56] 0) (j2_ok hL1 H)
    · rcases of_ite H with ⟨hb10, H⟩ | ⟨hb10, H⟩
      · refine Rg V_ok 0 [(1, {bv := some false}), (14, {bv := some true})] (ac hb8 (ac n4 (ac n5 (ac n4 (ac n6 (ac hb10 az)))))) ?_
        exact Jm (tn [0, 1, 5, 56] 0) (j2_ok hL1 H)
      · refine Rg V_ok 0 [(1, {bv := some false}), (14, {bv := some false})] (ac hb8 (ac n4 (ac n5 (ac n4 (ac n6 (ac hb10 (ac n4 (ac n5 (ac n4 (ac n6 az)))))))))) ?_
        exact Jm (tn [0, 1, 5, 56] 0) (j2_ok hL1 H)
  · refine C0 hb2 ?_
    refine Rg V_ok 0 [] az ?_
    exact Lf (Eq.trans (by kernel_rfl) H)
noncomputable def l1 (a1 a2 : List T23b6.T) (k : Nat) : Nat → Int → Option R
  | 0, _ => none
  | m + 1, p3 => b1 a1 a2 (l1 a1 a2 k m) k p3
theorem l1_ok {r a1 a2} (k : Nat) : ∀ (m1 : Nat) (p3 : Int), l1 a1 a2 k m1 p3 = some r → Gw P 0 (Q r) (Pb c0 43 [] m1) (s1 a1 a2 p3)
  | 0, _, H => by cases H
  | m1 + 1, p3, H => SU (by kernel_rfl) (b1_ok (l1_ok k m1) H)
noncomputable def f (k : Nat) (a1 a2 : List T23b6.T) : Option R :=
  if ((a1.length : Int) != (a2.length : Int)) = true then
    some (false, ())
  else
    l1 a1 a2 k k 0
noncomputable def S : Spec := ⟨ps, rs, .any, none, fun x r => ∃ k, f k x.1 x.2.1 = some r⟩
theorem rl {k a1 a2 r} (e : f k a1 a2 = some r) : S.rel (a1, a2, ()) r := ⟨k, e⟩
theorem f_ok {r k a1 a2} (H : f k a1 a2 = some r) : Gw P 0 (Q r) (Px c0 1 []) (⟨57, [(0, .cv (.one (.sl T23b6 a1 .any))), (1, .cv (.one (.sl T23b6 a2 .any)))], []⟩) := by
  unfold f at H
  refine Rg V_ok 0 [] az ?_
  refine Rg V_ok 0 [] az ?_
  rcases of_ite H with ⟨hb1, H⟩ | ⟨hb1, H⟩
  · refine C1 hb1 ?_
    refine Rg V_ok 0 [] az ?_
    exact Lf (Eq.trans (by kernel_rfl) H)
  · refine C0 hb1 ?_
    refine Rg V_ok 0 [] az ?_
    exact LP k (Jm (tn [0, 1, 5] 0) (l1_ok k k 0 H))
theorem fits : Fits P 29 S := fits_of V_ok Go.Proofs.Tryd.func29 (by kernel_rfl) (by decide) (by decide) rfl (fun x r ⟨k, H⟩ => of_G (f_ok H))
end f_ref21_peers
/-! ### function 30, wayfinder/wayfinderref21.given -/
namespace f_ref21_given
noncomputable def c0 : Code := (Go.Proofs.Tryd.f30.body).getD .skip
abbrev ps : Sg := [(false, (.slice T713d)), (false, (.slice T713d))]
abbrev rs : Sg := [(false, .bool)]
noncomputable def V : Env := { tt := tt, Γ := slk [] }
theorem V_ok : EnvOk P V := { ck := tt_ck, fits := slk_nil, mixed := mixed }
abbrev R := Tup rs
noncomputable abbrev Q (r : R) : Exit → St → Prop := Qr tt Go.Proofs.Tryd.f30.results ⟨ps, rs, .any, none, fun _ _ => True⟩ r
noncomputable def s1 (a1 a2 : List T713d.T) (p3 : Int) : St := ⟨26, [(0, .cv (.one (.sl T713d a1 .any))), (1, .cv (.one (.sl T713d a2 .any))), (5, .cv (.one (.i p3)))], []⟩
noncomputable def b1 (a1 a2 : List T713d.T) (L1 : Int → Option R) (k : Nat) (p3 : Int) : Option R :=
  if (decide (p3 < (a1.length : Int))) = true then
  if 0 ≤ p3 then
    if p3 < (a1.length : Int) then
      if p3 < (a2.length : Int) then
        if (!((((att T713d a1 p3).1) == ((att T713d a2 p3).1)) && ((((att T713d a1 p3).2) == ((att T713d a2 p3).2)) && true))) = true then
          some (false, ())
        else
          L1 (IntKind.i64.wrap (p3 + 1))
      else none
    else none
  else none
else
  some (true, ())
theorem b1_ok {r a1 a2} {L1 : Int → Option R} {m1 : Nat} (hL1 : ∀ p3, L1 p3 = some r → Gw P 0 (Q r) (Pb c0 43 [] m1) (s1 a1 a2 p3)) {k p3} (H : b1 a1 a2 L1 k p3 = some r) : Gw P 0 (Q r) (Px c0 75 [m1]) (s1 a1 a2 p3) := by
  unfold b1 at H
  refine Rg V_ok 0 [] az ?_
  rcases of_ite H with ⟨hb2, H⟩ | ⟨hb2, H⟩
  · refine C1 hb2 ?_
    obtain ⟨n3, H⟩ := of_if H
    obtain ⟨n4, H⟩ := of_if H
    obtain ⟨n5, H⟩ := of_if H
    refine Rg V_ok 0 [] (ac n3 (ac n4 (ac n3 (ac n5 az)))) ?_
    rcases of_ite H with ⟨hb6, H⟩ | ⟨hb6, H⟩
    · refine C1 hb6 ?_
      refine Rg V_ok 0 [] az ?_
      exact Lf (Eq.trans (by kernel_rfl) H)
    · refine C0 hb6 ?_
      refine Rg V_ok 0 [] az ?_
      exact Jm (tn [0, 1, 5] 0) (hL1 (IntKind.i64.wrap (p3 + 1)) H)
  · refine C0 hb2 ?_
    refine Rg V_ok 0 [] az ?_
    exact Lf (Eq.trans (by kernel_rfl) H)
noncomputable def l1 (a1 a2 : List T713d.T) (k : Nat) : Nat → Int → Option R
  | 0, _ => none
  | m + 1, p3 => b1 a1 a2 (l1 a1 a2 k m) k p3
theorem l1_ok {r a1 a2} (k : Nat) : ∀ (m1 : Nat) (p3 : Int), l1 a1 a2 k m1 p3 = some r → Gw P 0 (Q r) (Pb c0 43 [] m1) (s1 a1 a2 p3)
  | 0, _, H => by cases H
  | m1 + 1, p3, H => SU (by kernel_rfl) (b1_ok (l1_ok k m1) H)
noncomputable def f (k : Nat) (a1 a2 : List T713d.T) : Option R :=
  if ((a1.length : Int) != (a2.length : Int)) = true then
    some (false, ())
  else
    l1 a1 a2 k k 0
noncomputable def S : Spec := ⟨ps, rs, .any, none, fun x r => ∃ k, f k x.1 x.2.1 = some r⟩
theorem rl {k a1 a2 r} (e : f k a1 a2 = some r) : S.rel (a1, a2, ()) r := ⟨k, e⟩
theorem f_ok {r k a1 a2} (H : f k a1 a2 = some r) : Gw P 0 (Q r) (Px c0 1 []) (⟨26, [(0, .cv (.one (.sl T713d a1 .any))), (1, .cv (.one (.sl T713d a2 .any)))], []⟩) := by
  unfold f at H
  refine Rg V_ok 0 [] az ?_
  refine Rg V_ok 0 [] az ?_
  rcases of_ite H with ⟨hb1, H⟩ | ⟨hb1, H⟩
  · refine C1 hb1 ?_
    refine Rg V_ok 0 [] az ?_
    exact Lf (Eq.trans (by kernel_rfl) H)
  · refine C0 hb1 ?_
    refine Rg V_ok 0 [] az ?_
    exact LP k (Jm (tn [0, 1, 5] 0) (l1_ok k k 0 H))
theorem fits : Fits P 30 S := fits_of V_ok Go.Proofs.Tryd.func30 (by kernel_rfl) (by decide) (by decide) rfl (fun x r ⟨k, H⟩ => of_G (f_ok H))
end f_ref21_given
/-! ### function 31, wayfinder/wayfinderref02.Ints -/
namespace f_ref02_Ints
noncomputable def c0 : Code := (Go.Proofs.Tryd.f31.body).getD .skip
abbrev ps : Sg := [(false, (.slice (.int .i64))), (false, (.slice (.int .i64)))]
abbrev rs : Sg := [(false, .bool)]
noncomputable def V : Env := { tt := tt, Γ := slk [] }
theorem V_ok : EnvOk P V := { ck := tt_ck, fits := slk_nil, mixed := mixed }
abbrev R := Tup rs
noncomputable abbrev Q (r : R) : Exit → St → Prop := Qr tt Go.Proofs.Tryd.f31.results ⟨ps, rs, .any, none, fun _ _ => True⟩ r
noncomputable def s1 (p1 p2 : List Int) (p3 : Int) : St := ⟨26, [(0, .cv (.one (.sl (.int .i64) p1 .any))), (1, .cv (.one (.sl (.int .i64) p2 .any))), (5, .cv (.one (.i p3)))], []⟩
noncomputable def b1 (L1 : List Int → List Int → Int → Option R) (k : Nat) (p1 p2 : List Int) (p3 : Int) : Option R :=
  if (decide (p3 < (p1.length : Int))) = true then
  if 0 ≤ p3 then
    if p3 < (p1.length : Int) then
      if p3 < (p2.length : Int) then
        if ((att (.int .i64) p1 p3) != (att (.int .i64) p2 p3)) = true then
          some (false, ())
        else
          L1 p1 p2 (IntKind.i64.wrap (p3 + 1))
      else none
    else none
  else none
else
  some (true, ())
theorem b1_ok {r} {L1 : List Int → List Int → Int → Option R} {m1 : Nat} (hL1 : ∀ p1 p2 p3, L1 p1 p2 p3 = some r → Gw P 0 (Q r) (Pb c0 43 [] m1) (s1 p1 p2 p3)) {k p1 p2 p3} (H : b1 L1 k p1 p2 p3 = some r) : Gw P 0 (Q r) (Px c0 75 [m1]) (s1 p1 p2 p3) := by
  unfold b1 at H
  refine Rg V_ok 0 [] az ?_
  rcases of_ite H with ⟨hb2, H⟩ | ⟨hb2, H⟩
  · refine C1 hb2 ?_
    obtain ⟨n3, H⟩ := of_if H
    obtain ⟨n4, H⟩ := of_if H
    obtain ⟨n5, H⟩ := of_if H
    refine Rg V_ok 0 [] (ac n3 (ac n4 (ac n3 (ac n5 az)))) ?_
    rcases of_ite H with ⟨hb6, H⟩ | ⟨hb6, H⟩
    · refine C1 hb6 ?_
      refine Rg V_ok 0 [] az ?_
      exact Lf (Eq.trans (by kernel_rfl) H)
    · refine C0 hb6 ?_
      refine Rg V_ok 0 [] az ?_
      exact Jm (tn [0, 1, 5] 0) (hL1 p1 p2 (IntKind.i64.wrap (p3 + 1)) H)
  · refine C0 hb2 ?_
    refine Rg V_ok 0 [] az ?_
    exact Lf (Eq.trans (by kernel_rfl) H)
noncomputable def l1 (k : Nat) : Nat → List Int → List Int → Int → Option R
  | 0, _, _, _ => none
  | m + 1, p1, p2, p3 => b1 (l1 k m) k p1 p2 p3
theorem l1_ok {r} (k : Nat) : ∀ (m1 : Nat) (p1 p2 : List Int) (p3 : Int), l1 k m1 p1 p2 p3 = some r → Gw P 0 (Q r) (Pb c0 43 [] m1) (s1 p1 p2 p3)
  | 0, _, _, _, H => by cases H
  | m1 + 1, p1, p2, p3, H => SU (by kernel_rfl) (b1_ok (l1_ok k m1) H)
noncomputable def f (k : Nat) (a1 a2 : List Int) : Option R :=
  if ((a1.length : Int) != (a2.length : Int)) = true then
    some (false, ())
  else
    l1 k k a1 a2 0
noncomputable def S : Spec := ⟨ps, rs, .any, none, fun x r => ∃ k, f k x.1 x.2.1 = some r⟩
theorem rl {k a1 a2 r} (e : f k a1 a2 = some r) : S.rel (a1, a2, ()) r := ⟨k, e⟩
theorem f_ok {r k a1 a2} (H : f k a1 a2 = some r) : Gw P 0 (Q r) (Px c0 1 []) (⟨26, [(0, .cv (.one (.sl (.int .i64) a1 .any))), (1, .cv (.one (.sl (.int .i64) a2 .any)))], []⟩) := by
  unfold f at H
  refine Rg V_ok 0 [] az ?_
  refine Rg V_ok 0 [] az ?_
  rcases of_ite H with ⟨hb1, H⟩ | ⟨hb1, H⟩
  · refine C1 hb1 ?_
    refine Rg V_ok 0 [] az ?_
    exact Lf (Eq.trans (by kernel_rfl) H)
  · refine C0 hb1 ?_
    refine Rg V_ok 0 [] az ?_
    exact LP k (Jm (tn [0, 1, 5] 0) (l1_ok k k a1 a2 0 H))
theorem fits : Fits P 31 S := fits_of V_ok Go.Proofs.Tryd.func31 (by kernel_rfl) (by decide) (by decide) rfl (fun x r ⟨k, H⟩ => of_G (f_ok H))
end f_ref02_Ints
/-! ### function 13, wayfinder/wayfinderref21.Same -/
namespace f_ref21_Same
noncomputable def c0 : Code := (Go.Proofs.Tryd.f13.body).getD .skip
abbrev ps : Sg := [(true, T26b3), (true, T26b3)]
abbrev rs : Sg := [(false, .bool)]
noncomputable def V : Env := { tt := tt, Γ := slk [(28, f_ref21_Confs.S), (29, f_ref21_peers.S), (30, f_ref21_given.S), (31, f_ref02_Ints.S)] }
theorem V_ok : EnvOk P V := { ck := tt_ck, fits := slk_cons f_ref21_Confs.fits (slk_cons f_ref21_peers.fits (slk_cons f_ref21_given.fits (slk_cons f_ref02_Ints.fits (slk_nil)))), mixed := mixed }
abbrev R := Tup rs
noncomputable abbrev Q (r : R) : Exit → St → Prop := Qr tt Go.Proofs.Tryd.f13.results ⟨ps, rs, .any, none, fun _ _ => True⟩ r
noncomputable def s2 (a1 a2 : T26b3.T) (p1 p2 p3 p4 p5 p6 p7 : Bool) : St := ⟨110, [(2, .cv (.one (.ptr 0 0))), (3, .cv (.one (.ptr 1 0))), (5, .cv (.one (.bool p1))), (6, .cv (.one (.bool p2))), (7, .cv (.one (.bool p3))), (8, .cv (.one (.bool p4))), (9, .cv (.one (.bool p5))), (10, .cv (.one (.bool p6))), (11, .cv (.one (.bool p7)))], [(.box 13, (encC .any T26b3 a1)), (.box 13, (encC .any T26b3 a2))]⟩
noncomputable def s1 (p1 p2 p3 p4 p5 p6 p7 p8 : Bool) : St := ⟨110, [(5, .cv (.one (.bool p1))), (6, .cv (.one (.bool p2))), (7, .cv (.one (.bool p3))), (8, .cv (.one (.bool p4))), (9, .cv (.one (.bool p5))), (10, .cv (.one (.bool p6))), (11, .cv (.one (.bool p7))), (12, .cv (.one (.bool p8)))], []⟩
noncomputable def j1 (k : Nat) (p1 p2 p3 p4 p5 p6 p7 p8 : Bool) : Option R :=
  if p1 = true then
  if p2 = true then
    if p3 = true then
      if p4 = true then
        if p5 = true then
          if p6 = true then
            if p7 = true then
              some (p8, ())
            else
              some (false, ())
          else
            some (false, ())
        else
          some (false, ())
      else
        some (false, ())
    else
      some (false, ())
  else
    some (false, ())
else
  some (false, ())
theorem j1_ok {r} {k p1 p2 p3 p4 p5 p6 p7 p8} (H : j1 k p1 p2 p3 p4 p5 p6 p7 p8 = some r) : Gw P 0 (Q r) (Px c0 1023 []) (s1 p1 p2 p3 p4 p5 p6 p7 p8) := by
  unfold j1 at H
  rcases of_ite H with ⟨hb18, H⟩ | ⟨hb18, H⟩
  · rcases of_ite H with ⟨hb19, H⟩ | ⟨hb19, H⟩
    · rcases of_ite H with ⟨hb20, H⟩ | ⟨hb20, H⟩
      · rcases of_ite H with ⟨hb21, H⟩ | ⟨hb21, H⟩
        · rcases of_ite H with ⟨hb22, H⟩ | ⟨hb22, H⟩
          · rcases of_ite H with ⟨hb23, H⟩ | ⟨hb23, H⟩
            · rcases of_ite H with ⟨hb24, H⟩ | ⟨hb24, H⟩
              · refine Rg V_ok 0 [(0, {bv := some true}), (3, {bv := some true}), (6, {bv := some true}), (9, {bv := some true}), (12, {bv := some true}), (15, {bv := some true}), (18, {bv := some true})] (ac hb18 (ac hb19 (ac hb20 (ac hb21 (ac hb22 (ac hb23 (ac hb24 az))))))) ?_
                exact Lf (Eq.trans (by kernel_rfl) H)
              · refine Rg V_ok 0 [(0, {bv := some true}), (3, {bv := some true}), (6, {bv := some true}), (9, {bv := some true}), (12, {bv := some true}), (15, {bv := some true}), (18, {bv := some false})] (ac hb18 (ac hb19 (ac hb20 (ac hb21 (ac hb22 (ac hb23 (ac hb24 az))))))) ?_
                exact Lf (Eq.trans (by kernel_rfl) H)
            · refine Rg V_ok 0 [(0, {bv := some true}), (3, {bv := some true}), (6, {bv := some true}), (9, {bv := some true}), (12, {bv := some true}), (15, {bv := some false})] (ac hb18 (ac hb19 (ac hb20 (ac hb21 (ac hb22 (ac hb23 az)))))) ?_
              exact Lf (Eq.trans (by kernel_rfl) H)
          · refine Rg V_ok 0 [(0, {bv := some true}), (3, {bv := some true}), (6, {bv := some true}), (9, {bv := some true}), (12, {bv := some false})] (ac hb18 (ac hb19 (ac hb20 (ac hb21 (ac hb22 az))))) ?_
            exact Lf (Eq.trans (by kernel_rfl) H)
        · refine Rg V_ok 0 [(0, {bv := some true}), (3, {bv := some true}), (6, {bv := some true}), (9, {bv := some false})] (ac hb18 (ac hb19 (ac hb20 (ac hb21 az)))) ?_
          exact Lf (Eq.trans (by kernel_rfl) H)
      · refine Rg V_ok 0 [(0, {bv := some true}), (3, {bv := some true}), (6, {bv := some false})] (ac hb18 (ac hb19 (ac hb20 az))) ?_
        exact Lf (Eq.trans (by kernel_rfl) H)
    · refine Rg V_ok 0 [(0, {bv := some true}), (3, {bv := some false})] (ac hb18 (ac hb19 az)) ?_
      exact Lf (Eq.trans (by kernel_rfl) H)
  · refine Rg V_ok 0 [(0, {bv := some false})] (ac hb18 az) ?_
    exact Lf (Eq.trans (by kernel_rfl) H)
noncomputable def j2 (a1 a2 : T26b3.T) (k : Nat) (p1 p2 p3 p4 p5 p6 p7 : Bool) : Option R :=
  if (a1.2.2.2.2.2.1 == a2.2.2.2.2.2.1) = true then
  if (a1.2.2.2.2.2.2.1 == a2.2.2.2.2.2.2.1) = true then
    j1 k p1 p2 p3 p4 p5 p6 p7 (a1.2.2.2.2.2.2.2.2.2.2.2.2 == a2.2.2.2.2.2.2.2.2.2.2.2.2)
  else
    j1 k p1 p2 p3 p4 p5 p6 p7 false
else
  j1 k p1 p2 p3 p4 p5 p6 p7 false
theorem j2_ok {r a1 a2} {k p1 p2 p3 p4 p5 p6 p7} (H : j2 a1 a2 k p1 p2 p3 p4 p5 p6 p7 = some r) : Gw P 0 (Q r) (Px c0 511 []) (s2 a1 a2 p1 p2 p3 p4 p5 p6 p7) := by
  unfold j2 at H
  rcases of_ite H with ⟨hb16, H⟩ | ⟨hb16, H⟩
  · rcases of_ite H with ⟨hb17, H⟩ | ⟨hb17, H⟩
    · refine Rg V_ok 0 [(4, {bv := some true}), (11, {bv := some true})] (ac hb16 (ac hb17 az)) ?_
      exact Jm (tn [5, 6, 7, 8, 9, 10, 11, 12] 0) (j1_ok H)
    · refine Rg V_ok 0 [(4, {bv := some true}), (11, {bv := some false})] (ac hb16 (ac hb17 az)) ?_
      exact Jm (tn [5, 6, 7, 8, 9, 10, 11, 12] 0) (j1_ok H)
  · refine Rg V_ok 0 [(4, {bv := some false})] (ac hb16 az) ?_
    exact Jm (tn [5, 6, 7, 8, 9, 10, 11, 12] 0) (j1_ok H)
noncomputable def f (k : Nat) (a1 a2 : T26b3.T) : Option R :=
  (f_ref21_Confs.f k a1.1 a2.1).bind fun y1 =>
    (f_ref21_peers.f k a1.2.2.2.2.2.2.2.2.1 a2.2.2.2.2.2.2.2.2.1).bind fun y3 =>
      (f_ref21_given.f k a1.2.2.2.2.2.2.2.2.2.1 a2.2.2.2.2.2.2.2.2.2.1).bind fun y5 =>
        (f_ref02_Ints.f k a1.2.2.2.2.2.2.2.1 a2.2.2.2.2.2.2.2.1).bind fun y7 =>
          (f_ref02_Ints.f k a1.2.2.2.2.2.2.2.2.2.2.1 a2.2.2.2.2.2.2.2.2.2.2.1).bind fun y9 =>
            (f_ref02_Ints.f k a1.2.2.2.2.2.2.2.2.2.2.2.1 a2.2.2.2.2.2.2.2.2.2.2.2.1).bind fun y11 =>
              if (a1.2.1 == a2.2.1) = true then
                if (a1.2.2.1 == a2.2.2.1) = true then
                  if (a1.2.2.2.1 == a2.2.2.2.1) = true then
                    j2 a1 a2 k y1.1 y3.1 y5.1 y7.1 y9.1 y11.1 (a1.2.2.2.2.1 == a2.2.2.2.2.1)
                  else
                    j2 a1 a2 k y1.1 y3.1 y5.1 y7.1 y9.1 y11.1 false
                else
                  j2 a1 a2 k y1.1 y3.1 y5.1 y7.1 y9.1 y11.1 false
              else
                j2 a1 a2 k y1.1 y3.1 y5.1 y7.1 y9.1 y11.1 false
noncomputable def S : Spec := ⟨ps, rs, .any, none, fun x r => ∃ k, f k x.1 x.2.1 = some r⟩
theorem rl {k a1 a2 r} (e : f k a1 a2 = some r) : S.rel (a1, a2, ()) r := ⟨k, e⟩
theorem f_ok {r k a1 a2} (H : f k a1 a2 = some r) : Gw P 0 (Q r) (Px c0 1 []) (⟨110, [(0, .cv (.agg (encC .any T26b3 a1))), (1, .cv (.agg (encC .any T26b3 a2)))], []⟩) := by
  unfold f at H
  refine Rg V_ok 2 [(0, hb 0), (1, hb 1)] az ?_
  obtain ⟨y1, e2, H⟩ := of_bind H
  refine Rg V_ok 0 [(4, hr f_ref21_Confs.S y1)] (ac (f_ref21_Confs.rl e2) az) ?_
  obtain ⟨y3, e4, H⟩ := of_bind H
  refine Rg V_ok 0 [(4, hr f_ref21_peers.S y3)] (ac (f_ref21_peers.rl e4) az) ?_
  obtain ⟨y5, e6, H⟩ := of_bind H
  refine Rg V_ok 0 [(4, hr f_ref21_given.S y5)] (ac (f_ref21_given.rl e6) az) ?_
  obtain ⟨y7, e8, H⟩ := of_bind H
  refine Rg V_ok 0 [(4, hr f_ref02_Ints.S y7)] (ac (f_ref02_Ints.rl e8) az) ?_
  obtain ⟨y9, e10, H⟩ := of_bind H
  refine Rg V_ok 0 [(4, hr f_ref02_Ints.S y9)] (ac (f_ref02_Ints.rl e10) az) ?_
  obtain ⟨y11, e12, H⟩ := of_bind H
  refine Rg V_ok 0 [(4, hr f_ref02_Ints.S y11)] (ac (f_ref02_Ints.rl e12) az) ?_
  rcases of_ite H with ⟨hb13, H⟩ | ⟨hb13, H⟩
  · rcases of_ite H with ⟨hb14, H⟩ | ⟨hb14, H⟩
    · rcases of_ite H with ⟨hb15, H⟩ | ⟨hb15, H⟩
      · refine Rg V_ok 0 [(4, {bv := some true}), (11, {bv := some true}), (18, {bv := some true})] (ac hb13 (ac hb14 (ac hb15 az))) ?_
        exact Jm (tn [2, 3, 5, 6, 7, 8, 9, 10, 11] 2) (j2_ok H)
      · refine Rg V_ok 0 [(4, {bv := some true}), (11, {bv := some true}), (18, {bv := some false})] (ac hb13 (ac hb14 (ac hb15 az))) ?_
        exact Jm (tn [2, 3, 5, 6, 7, 8, 9, 10, 11] 2) (j2_ok H)
    · refine Rg V_ok 0 [(4, {bv := some true}), (11, {bv := some false})] (ac hb13 (ac hb14 az)) ?_
      exact Jm (tn [2, 3, 5, 6, 7, 8, 9, 10, 11] 2) (j2_ok H)
  · refine Rg V_ok 0 [(4, {bv := some false})] (ac hb13 az) ?_
    exact Jm (tn [2, 3, 5, 6, 7, 8, 9, 10, 11] 2) (j2_ok H)
theorem fits : Fits P 13 S := fits_of V_ok Go.Proofs.Tryd.func13 (by kernel_rfl) (by decide) (by decide) rfl (fun x r ⟨k, H⟩ => of_G (f_ok H))
end f_ref21_Same
/-! ### function 4, wayfinder/wayfinderlaw21.ControlAcks -/
namespace f_law21_ControlAcks
noncomputable def c0 : Code := (Go.Proofs.Tryd.f4.body).getD .skip
abbrev ps : Sg := [(true, T26b3), (false, (.int .i64)), (false, (.int .i64)), (false, (.int .i64)), (false, (.int .i64))]
abbrev rs : Sg := [(false, .bool)]
noncomputable def V : Env := { tt := tt, Γ := slk [(8, f_law21_awake.S), (9, f_law21_Few.S), (10, f_frame_Seal.S), (11, f_control_Live.S), (12, f_control_Heard.S), (13, f_ref21_Same.S), (14, f_sess_Done.S)] }
theorem V_ok : EnvOk P V := { ck := tt_ck, fits := slk_cons f_law21_awake.fits (slk_cons f_law21_Few.fits (slk_cons f_frame_Seal.fits (slk_cons f_control_Live.fits (slk_cons f_control_Heard.fits (slk_cons f_ref21_Same.fits (slk_cons f_sess_Done.fits (slk_nil))))))), mixed := mixed }
abbrev R := Tup rs
noncomputable abbrev Q (r : R) : Exit → St → Prop := Qr tt Go.Proofs.Tryd.f4.results ⟨ps, rs, .any, none, fun _ _ => True⟩ r
noncomputable def s1 (a1 : T26b3.T) (a2 a3 a4 a5 : Int) (p5 : Bool) (p6 : List Int) (p7 : Bool) : St := ⟨143, [(1, .cv (.one (.i a2))), (2, .cv (.one (.i a3))), (3, .cv (.one (.i a4))), (4, .cv (.one (.i a5))), (5, .cv (.one (.ptr 0 0))), (11, .cv (.one (.bool p5))), (13, .cv (.one (.sl (.int .u8) p6 .any))), (61, .cv (.one (.bool p7)))], [(.box 13, (encC .any T26b3 a1))]⟩
noncomputable def s2 (a1 : T26b3.T) (a2 a3 a4 a5 : Int) (p5 : List Int) (p6 : Bool) (p8 : T23b6.T) : St := ⟨143, [(1, .cv (.one (.i a2))), (2, .cv (.one (.i a3))), (3, .cv (.one (.i a4))), (4, .cv (.one (.i a5))), (5, .cv (.one (.ptr 0 0))), (13, .cv (.one (.sl (.int .u8) p5 .any))), (17, .cv (.one (.ptr 1 0))), (77, .cv (.one (.bool p6)))], [(.box 13, (encC .any T26b3 a1)), (.box 5, (encC .any T23b6 p8))]⟩
noncomputable def s3 (a1 : T26b3.T) (a2 a3 a4 a5 : Int) (p5 : Bool) (p7 : T23b6.T) (p8 : T26b3.T) : St := ⟨143, [(1, .cv (.one (.i a2))), (2, .cv (.one (.i a3))), (3, .cv (.one (.i a4))), (4, .cv (.one (.i a5))), (5, .cv (.one (.ptr 0 0))), (17, .cv (.one (.ptr 1 0))), (18, .cv (.one (.ptr 2 0))), (105, .cv (.one (.bool p5)))], [(.box 13, (encC .any T26b3 a1)), (.box 5, (encC .any T23b6 p7)), (.box 13, (encC .any T26b3 p8))]⟩
noncomputable def j3 (a1 : T26b3.T) (a2 a3 a4 a5 : Int) (k : Nat → Nat) (p5 : Bool) (p7 : T23b6.T) (p8 : T26b3.T) : Option R :=
  if p5 = true then
  (f_ref21_Same.f (k 13) a1 p8).bind fun y19 =>
    some (y19.1, ())
else
  if (decide (a2 < (p8.2.2.2.2.2.2.2.2.1.length : Int))) = true then
    if 0 ≤ a2 then
      if a2 < (p8.2.2.2.2.2.2.2.2.1.length : Int) then
        if ((((att T23b6 p8.2.2.2.2.2.2.2.2.1 a2).2).1) == a5) = true then
          (f_sess_Done.f (k 14) p7.2.2 a3 a4).bind fun y21 =>
            some ((((((((att T23b6 p8.2.2.2.2.2.2.2.2.1 a2).2).2).2).2).length : Int) == (y21.1.2.2.length : Int)), ())
        else
          some (false, ())
      else none
    else none
  else
    some (false, ())
theorem j3_ok {r a1 a2 a3 a4 a5} {k p5 p7 p8} (H : j3 a1 a2 a3 a4 a5 k p5 p7 p8 = some r) : Gw P 0 (Q r) (Px c0 3583 []) (s3 a1 a2 a3 a4 a5 p5 p7 p8) := by
  unfold j3 at H
  rcases of_ite H with ⟨hb18, H⟩ | ⟨hb18, H⟩
  · refine C1 hb18 ?_
    obtain ⟨y19, e20, H⟩ := of_bind H
    refine Rg V_ok 0 [(2, hr f_ref21_Same.S y19)] (ac (f_ref21_Same.rl e20) az) ?_
    refine Rg V_ok 0 [] az ?_
    exact Lf (Eq.trans (by kernel_rfl) H)
  · refine C0 hb18 ?_
    rcases of_ite H with ⟨hb22, H⟩ | ⟨hb22, H⟩
    · obtain ⟨n23, H⟩ := of_if H
      obtain ⟨n24, H⟩ := of_if H
      rcases of_ite H with ⟨hb25, H⟩ | ⟨hb25, H⟩
      · obtain ⟨y21, e26, H⟩ := of_bind H
        refine Rg V_ok 0 [(4, {bv := some true}), (14, {bv := some true}), (28, hr f_sess_Done.S y21)] (ac hb22 (ac n23 (ac n24 (ac hb25 (ac n23 (ac n24 (ac (f_sess_Done.rl e26) az))))))) ?_
        exact Lf (Eq.trans (by kernel_rfl) H)
      · refine Rg V_ok 0 [(4, {bv := some true}), (14, {bv := some false})] (ac hb22 (ac n23 (ac n24 (ac hb25 az)))) ?_
        exact Lf (Eq.trans (by kernel_rfl) H)
    · refine Rg V_ok 0 [(4, {bv := some false})] (ac hb22 az) ?_
      exact Lf (Eq.trans (by kernel_rfl) H)
noncomputable def j2 (a1 : T26b3.T) (a2 a3 a4 a5 : Int) (k : Nat → Nat) (p5 : List Int) (p6 : Bool) (p8 : T23b6.T) : Option R :=
  if p6 = true then
  some (true, ())
else
  (f_control_Heard.f (k 12) a1 a2 p5).bind fun y15 =>
    if (a3 != p8.1) = true then
      j3 a1 a2 a3 a4 a5 k true p8 y15.1
    else
      if (decide (a4 ≥ p8.2.2.2.1)) = true then
        j3 a1 a2 a3 a4 a5 k true p8 y15.1
      else
        j3 a1 a2 a3 a4 a5 k (decide (a4 < (IntKind.i64.wrap ((IntKind.i64.wrap (p8.2.2.2.1 - 1)) - (p8.2.2.2.2.length : Int))))) p8 y15.1
theorem j2_ok {r a1 a2 a3 a4 a5} {k p5 p6 p8} (H : j2 a1 a2 a3 a4 a5 k p5 p6 p8 = some r) : Gw P 0 (Q r) (Px c0 895 []) (s2 a1 a2 a3 a4 a5 p5 p6 p8) := by
  unfold j2 at H
  rcases of_ite H with ⟨hb14, H⟩ | ⟨hb14, H⟩
  · refine C1 hb14 ?_
    refine Rg V_ok 0 [] az ?_
    exact Lf (Eq.trans (by kernel_rfl) H)
  · refine C0 hb14 ?_
    obtain ⟨y15, e16, H⟩ := of_bind H
    refine Rg V_ok 1 [(3, hr f_control_Heard.S y15), (4, hb 2)] (ac (f_control_Heard.rl e16) az) ?_
    rcases of_ite H with ⟨hb17, H⟩ | ⟨hb17, H⟩
    · refine Rg V_ok 0 [(3, {bv := some true})] (ac hb17 az) ?_
      exact Jm (tn [1, 2, 3, 4, 5, 17, 18, 105] 3) (j3_ok H)
    · rcases of_ite H with ⟨hb27, H⟩ | ⟨hb27, H⟩
      · refine Rg V_ok 0 [(3, {bv := some false}), (10, {bv := some true})] (ac hb17 (ac hb27 az)) ?_
        exact Jm (tn [1, 2, 3, 4, 5, 17, 18, 105] 3) (j3_ok H)
      · refine Rg V_ok 0 [(3, {bv := some false}), (10, {bv := some false})] (ac hb17 (ac hb27 az)) ?_
        exact Jm (tn [1, 2, 3, 4, 5, 17, 18, 105] 3) (j3_ok H)
noncomputable def j1 (a1 : T26b3.T) (a2 a3 a4 a5 : Int) (k : Nat → Nat) (p5 : Bool) (p6 : List Int) (p7 : Bool) : Option R :=
  if p7 = true then
  some (p5, ())
else
  if 0 ≤ a2 then
    if a2 < (a1.2.2.2.2.2.2.2.2.1.length : Int) then
      if (decide ((((((att T23b6 a1.2.2.2.2.2.2.2.2.1 a2).2).2).2).1) < (1 : Int))) = true then
        j2 a1 a2 a3 a4 a5 k p6 true (att T23b6 a1.2.2.2.2.2.2.2.2.1 a2)
      else
        j2 a1 a2 a3 a4 a5 k p6 (decide ((((((att T23b6 a1.2.2.2.2.2.2.2.2.1 a2).2).2).2).1) > (1000 : Int))) (att T23b6 a1.2.2.2.2.2.2.2.2.1 a2)
    else none
  else none
theorem j1_ok {r a1 a2 a3 a4 a5} {k p5 p6 p7} (H : j1 a1 a2 a3 a4 a5 k p5 p6 p7 = some r) : Gw P 0 (Q r) (Px c0 223 []) (s1 a1 a2 a3 a4 a5 p5 p6 p7) := by
  unfold j1 at H
  rcases of_ite H with ⟨hb10, H⟩ | ⟨hb10, H⟩
  · refine C1 hb10 ?_
    refine Rg V_ok 0 [] az ?_
    exact Lf (Eq.trans (by kernel_rfl) H)
  · refine C0 hb10 ?_
    obtain ⟨n11, H⟩ := of_if H
    obtain ⟨n12, H⟩ := of_if H
    refine Rg V_ok 1 [(5, hb 1)] (ac n11 (ac n12 az)) ?_
    rcases of_ite H with ⟨hb13, H⟩ | ⟨hb13, H⟩
    · refine Rg V_ok 0 [(3, {bv := some true})] (ac hb13 az) ?_
      exact Jm (tn [1, 2, 3, 4, 5, 13, 17, 77] 2) (j2_ok H)
    · refine Rg V_ok 0 [(3, {bv := some false})] (ac hb13 az) ?_
      exact Jm (tn [1, 2, 3, 4, 5, 13, 17, 77] 2) (j2_ok H)
noncomputable def f (k : Nat → Nat) (a1 : T26b3.T) (a2 a3 a4 a5 : Int) : Option R :=
  (f_law21_awake.f (k 8)).bind fun y1 =>
    (f_law21_Few.f (k 9) a1).bind fun y3 =>
      (f_frame_Seal.f (k 10) (1, (a3, (a4, (a5, ((0, 0), (0, (0, (0, 0))))))))).bind fun y5 =>
        (f_control_Live.f (k 11) a1 a2).bind fun y7 =>
          if (!y1.1) = true then
            j1 a1 a2 a3 a4 a5 k y1.1 y5.1 true
          else
            if (!y3.1) = true then
              j1 a1 a2 a3 a4 a5 k y1.1 y5.1 true
            else
              if (y5.2.1 != (0 : Int)) = true then
                j1 a1 a2 a3 a4 a5 k y1.1 y5.1 true
              else
                if (decide (a2 < (0 : Int))) = true then
                  j1 a1 a2 a3 a4 a5 k y1.1 y5.1 true
                else
                  if (decide (a2 ≥ (a1.2.2.2.2.2.2.2.2.1.length : Int))) = true then
                    j1 a1 a2 a3 a4 a5 k y1.1 y5.1 true
                  else
                    j1 a1 a2 a3 a4 a5 k y1.1 y5.1 (y7.2.1 == (0 : Int))
noncomputable def S : Spec := ⟨ps, rs, .any, none, fun x r => ∃ k, f k x.1 x.2.1 x.2.2.1 x.2.2.2.1 x.2.2.2.2.1 = some r⟩
theorem rl {k a1 a2 a3 a4 a5 r} (e : f k a1 a2 a3 a4 a5 = some r) : S.rel (a1, a2, a3, a4, a5, ()) r := ⟨k, e⟩
theorem f_ok {r k a1 a2 a3 a4 a5} (H : f k a1 a2 a3 a4 a5 = some r) : Gw P 0 (Q r) (Px c0 1 []) (⟨143, [(0, .cv (.agg (encC .any T26b3 a1))), (1, .cv (.one (.i a2))), (2, .cv (.one (.i a3))), (3, .cv (.one (.i a4))), (4, .cv (.one (.i a5)))], []⟩) := by
  unfold f at H
  refine Rg V_ok 1 [(0, hb 0)] az ?_
  obtain ⟨y1, e2, H⟩ := of_bind H
  refine Rg V_ok 0 [(0, hr f_law21_awake.S y1)] (ac (f_law21_awake.rl e2) az) ?_
  obtain ⟨y3, e4, H⟩ := of_bind H
  refine Rg V_ok 0 [(1, hr f_law21_Few.S y3)] (ac (f_law21_Few.rl e4) az) ?_
  obtain ⟨y5, e6, H⟩ := of_bind H
  refine Rg V_ok 0 [(4, hr f_frame_Seal.S y5)] (ac (f_frame_Seal.rl e6) az) ?_
  obtain ⟨y7, e8, H⟩ := of_bind H
  refine Rg V_ok 0 [(2, hr f_control_Live.S y7)] (ac (f_control_Live.rl e8) az) ?_
  rcases of_ite H with ⟨hb9, H⟩ | ⟨hb9, H⟩
  · refine Rg V_ok 0 [(1, {bv := some true})] (ac hb9 az) ?_
    exact Jm (tn [1, 2, 3, 4, 5, 11, 13, 61] 1) (j1_ok H)
  · rcases of_ite H with ⟨hb28, H⟩ | ⟨hb28, H⟩
    · refine Rg V_ok 0 [(1, {bv := some false}), (5, {bv := some true})] (ac hb9 (ac hb28 az)) ?_
      exact Jm (tn [1, 2, 3, 4, 5, 11, 13, 61] 1) (j1_ok H)
    · rcases of_ite H with ⟨hb29, H⟩ | ⟨hb29, H⟩
      · refine Rg V_ok 0 [(1, {bv := some false}), (5, {bv := some false}), (9, {bv := some true})] (ac hb9 (ac hb28 (ac hb29 az))) ?_
        exact Jm (tn [1, 2, 3, 4, 5, 11, 13, 61] 1) (j1_ok H)
      · rcases of_ite H with ⟨hb30, H⟩ | ⟨hb30, H⟩
        · refine Rg V_ok 0 [(1, {bv := some false}), (5, {bv := some false}), (9, {bv := some false}), (13, {bv := some true})] (ac hb9 (ac hb28 (ac hb29 (ac hb30 az)))) ?_
          exact Jm (tn [1, 2, 3, 4, 5, 11, 13, 61] 1) (j1_ok H)
        · rcases of_ite H with ⟨hb31, H⟩ | ⟨hb31, H⟩
          · refine Rg V_ok 0 [(1, {bv := some false}), (5, {bv := some false}), (9, {bv := some false}), (13, {bv := some false}), (20, {bv := some true})] (ac hb9 (ac hb28 (ac hb29 (ac hb30 (ac hb31 az))))) ?_
            exact Jm (tn [1, 2, 3, 4, 5, 11, 13, 61] 1) (j1_ok H)
          · refine Rg V_ok 0 [(1, {bv := some false}), (5, {bv := some false}), (9, {bv := some false}), (13, {bv := some false}), (20, {bv := some false})] (ac hb9 (ac hb28 (ac hb29 (ac hb30 (ac hb31 az))))) ?_
            exact Jm (tn [1, 2, 3, 4, 5, 11, 13, 61] 1) (j1_ok H)
theorem fits : Fits P 4 S := fits_of V_ok Go.Proofs.Tryd.func4 (by kernel_rfl) (by decide) (by decide) rfl (fun x r ⟨k, H⟩ => of_G (f_ok H))
end f_law21_ControlAcks
end Go.Proofs.YtkhjemahenkdiaaDoor.V
