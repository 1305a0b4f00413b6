/- Functions of the program, as Lean functions, and that the code answers so. Printed by vgen.py. -/
import Derived.Test.YtajddhechcneoaaVF0
namespace Go.Proofs.Ytajddhechcneoaa.V
open Go Go.RowKit
set_option linter.unusedVariables false
set_option linter.unusedSimpArgs false
set_option maxRecDepth 100000
set_option maxHeartbeats 4000000
/-! ### function 61, (*wayfinder/control.controller).two, where it is called -/
namespace i_control_controller_two_e61
noncomputable def c0 : Code := (Go.Proofs.Try.f61.body).getD .skip
noncomputable def V : Env := { tt := tt, Γ := slk [(79, f_slices_Contains_int.S)] }
theorem V_ok : EnvOk P V := { ck := tt_ck, fits := slk_cons f_slices_Contains_int.fits (slk_nil), mixed := mixed }
abbrev R := (Bool) × Unit
noncomputable def s0 (x1 : T26b3.T) : St := ⟨10, [(0, .cv (.one (.ptr 0 0)))], [(.box 13, (encC .any T26b3 x1)), (.box 1, [.ptr 0 0])]⟩
noncomputable def out (x1 : T26b3.T) (r : R) : St := ⟨10, [(2, .cv (.one (.bool r.1)))], [(.box 13, (encC .any T26b3 x1)), (.box 1, [.ptr 0 0])]⟩
abbrev Q (x1 : T26b3.T) (r : R) := CallQ 2 (out x1 r)
noncomputable def f (k : Nat) (x1 : T26b3.T) : Option R :=
  (f_slices_Contains_int.f k [1, 2, 3] x1.2.2.2.2.2.1).bind fun y1 =>
    some (y1.1, ())
theorem f_ok {r k x1} (H : f k x1 = some r) : Gw P 2 (Q x1 r) (Px c0 1 []) (s0 x1) := by
  unfold f at H
  refine Rg V_ok 0 [] az ?_
  obtain ⟨y1, e2, H⟩ := of_bind H
  refine Rg V_ok 0 [(6, hr f_slices_Contains_int.S y1)] (ac (f_slices_Contains_int.rl e2) az) ?_
  obtain rfl := Option.some.inj H
  exact Lq (tn [2] 2)
theorem ok {r k x1} (H : f k x1 = some r) : W P 2 c0 (s0 x1) (CallQ 2 (out x1 r)) := of_G (f_ok H)
theorem at_ : FnAt P 61 10 c0 Go.Proofs.Try.f61.results := fnAt Go.Proofs.Try.func61 (by kernel_rfl) (by decide) (by kernel_rfl) (by kernel_rfl)
end i_control_controller_two_e61
/-! ### function 60, (*wayfinder/control.controller).is$1, where it is called -/
namespace i_control_controller_is_1_797
noncomputable def c0 : Code := (Go.Proofs.Try.f60.body).getD .skip
noncomputable def V : Env := { tt := tt, Γ := slk [] }
theorem V_ok : EnvOk P V := { ck := tt_ck, fits := slk_nil, mixed := mixed }
abbrev R := (Bool) × Unit
noncomputable def s0 (x1 : Int) (x2 : T26b3.T) : St := ⟨16, [(0, .cv (.one (.i x1))), (1, .cv (.one (.ptr 1 0)))], [(.box 13, (encC .any T26b3 x2)), (.box 1, [.ptr 0 0])]⟩
noncomputable def out (x2 : T26b3.T) (r : R) : St := ⟨16, [(3, .cv (.one (.bool r.1)))], [(.box 13, (encC .any T26b3 x2)), (.box 1, [.ptr 0 0])]⟩
abbrev Q (x2 : T26b3.T) (r : R) := CallQ 2 (out x2 r)
noncomputable def f (k : Nat) (x1 : Int) (x2 : T26b3.T) : Option R :=
  if (decide (x1 < (0 : Int))) = true then
    some (true, ())
  else
    some ((decide (x1 ≥ (x2.1.length : Int))), ())
theorem f_ok {r k x1 x2} (H : f k x1 x2 = some r) : Gw P 2 (Q x2 r) (Px c0 1 []) (s0 x1 x2) := by
  unfold f at H
  refine Rg V_ok 0 [] az ?_
  rcases of_ite H with ⟨hb1, H⟩ | ⟨hb1, H⟩
  · refine Rg V_ok 0 [(1, {bv := some true})] (ac hb1 az) ?_
    obtain rfl := Option.some.inj H
    exact Lq (tn [3] 2)
  · refine Rg V_ok 0 [(1, {bv := some false})] (ac hb1 az) ?_
    obtain rfl := Option.some.inj H
    exact Lq (tn [3] 2)
theorem ok {r k x1 x2} (H : f k x1 x2 = some r) : W P 2 c0 (s0 x1 x2) (CallQ 2 (out x2 r)) := of_G (f_ok H)
theorem at_ : FnAt P 60 16 c0 Go.Proofs.Try.f60.results := fnAt Go.Proofs.Try.func60 (by kernel_rfl) (by decide) (by kernel_rfl) (by kernel_rfl)
end i_control_controller_is_1_797
/-! ### function 80, slices.IndexFunc[[]int,int], where it is called -/
namespace i_slices_IndexFunc_int_a51
noncomputable def c0 : Code := (Go.Proofs.Try.f80.body).getD .skip
noncomputable def V : Env := { tt := tt, Γ := slk [] }
theorem V_ok : EnvOk P V := { ck := tt_ck, fits := slk_nil, mixed := mixed }
abbrev R := (Int) × Unit
noncomputable def s0 (x1 : List Int) (x2 : T26b3.T) : St := ⟨19, [(0, .cv (.one (.sl (.int .i64) x1 .any))), (1, .cv (.one (.fn 60 [] [(1, 0)])))], [(.box 13, (encC .any T26b3 x2)), (.box 1, [.ptr 0 0])]⟩
noncomputable def out (x2 : T26b3.T) (r : R) : St := ⟨19, [(4, .cv (.one (.i r.1)))], [(.box 13, (encC .any T26b3 x2)), (.box 1, [.ptr 0 0])]⟩
abbrev Q (x2 : T26b3.T) (r : R) := CallQ 2 (out x2 r)
noncomputable def s1 (x1 : List Int) (x2 : T26b3.T) (p2 p3 : Int) : St := ⟨19, [(0, .cv (.one (.sl (.int .i64) x1 .any))), (1, .cv (.one (.fn 60 [] [(1, 0)]))), (7, .cv (.one (.i p2))), (8, .cv (.one (.i p3)))], [(.box 13, (encC .any T26b3 x2)), (.box 1, [.ptr 0 0])]⟩
noncomputable def b1 (x1 : List Int) (x2 : T26b3.T) (L1 : Int → Int → Option R) (k : Nat) (p2 p3 : Int) : Option R :=
  if (decide (p3 < p2)) = true then
  if 0 ≤ p3 then
    if p3 < (x1.length : Int) then
      (i_control_controller_is_1_797.f k (att (.int .i64) x1 p3) x2).bind fun y4 =>
        if y4.1 = true then
          some (p3, ())
        else
          L1 p2 (IntKind.i64.wrap (p3 + 1))
    else none
  else none
else
  some ((-1), ())
theorem b1_ok {r x1 x2} {L1 : Int → Int → Option R} {m1 : Nat} (hL1 : ∀ p2 p3, L1 p2 p3 = some r → Gw P 2 (Q x2 r) (Pb c0 21 [] m1) (s1 x1 x2 p2 p3)) {k p2 p3} (H : b1 x1 x2 L1 k p2 p3 = some r) : Gw P 2 (Q x2 r) (Px c0 37 [m1]) (s1 x1 x2 p2 p3) := by
  unfold b1 at H
  refine Rg V_ok 0 [] az ?_
  rcases of_ite H with ⟨hb1, H⟩ | ⟨hb1, H⟩
  · refine C1 hb1 ?_
    refine Rg V_ok 0 [] az ?_
    refine GT (tn [0, 1, 5, 7, 8] 2) (RI ?_)
    obtain ⟨n2, H⟩ := of_if H
    obtain ⟨n3, H⟩ := of_if H
    refine EV V_ok 0 [] 5 (ac n2 (ac n3 az)) ?_
    obtain ⟨y4, e5, H⟩ := of_bind H
    refine CL V_ok i_control_controller_is_1_797.at_ (i_control_controller_is_1_797.ok e5) ?_
    refine RN ?_
    rcases of_ite H with ⟨hb6, H⟩ | ⟨hb6, H⟩
    · refine C1 hb6 ?_
      refine Rg V_ok 0 [] az ?_
      obtain rfl := Option.some.inj H
      exact Lq (tn [4] 2)
    · refine C0 hb6 ?_
      refine Rg V_ok 0 [] az ?_
      exact Jm (tn [0, 1, 7, 8] 2) (hL1 p2 (IntKind.i64.wrap (p3 + 1)) H)
  · refine C0 hb1 ?_
    refine Rg V_ok 0 [] az ?_
    obtain rfl := Option.some.inj H
    exact Lq (tn [4] 2)
noncomputable def l1 (x1 : List Int) (x2 : T26b3.T) (k : Nat) : Nat → Int → Int → Option R
  | 0, _, _ => none
  | m + 1, p2, p3 => b1 x1 x2 (l1 x1 x2 k m) k p2 p3
theorem l1_ok {r x1 x2} (k : Nat) : ∀ (m1 : Nat) (p2 : Int) (p3 : Int), l1 x1 x2 k m1 p2 p3 = some r → Gw P 2 (Q x2 r) (Pb c0 21 [] m1) (s1 x1 x2 p2 p3)
  | 0, _, _, H => by cases H
  | m1 + 1, p2, p3, H => SU (by kernel_rfl) (b1_ok (l1_ok k m1) H)
noncomputable def f (k : Nat) (x1 : List Int) (x2 : T26b3.T) : Option R :=
  l1 x1 x2 k k (x1.length : Int) 0
theorem f_ok {r k x1 x2} (H : f k x1 x2 = some r) : Gw P 2 (Q x2 r) (Px c0 1 []) (s0 x1 x2) := by
  unfold f at H
  refine Rg V_ok 0 [] az ?_
  refine Rg V_ok 0 [] az ?_
  exact LP k (Jm (tn [0, 1, 7, 8] 2) (l1_ok k k (x1.length : Int) 0 H))
theorem ok {r k x1 x2} (H : f k x1 x2 = some r) : W P 2 c0 (s0 x1 x2) (CallQ 2 (out x2 r)) := of_G (f_ok H)
theorem at_ : FnAt P 80 19 c0 Go.Proofs.Try.f80.results := fnAt Go.Proofs.Try.func80 (by kernel_rfl) (by decide) (by kernel_rfl) (by kernel_rfl)
end i_slices_IndexFunc_int_a51
/-! ### function 62, slices.ContainsFunc[[]int,int], where it is called -/
namespace i_slices_ContainsFunc_int_a51
noncomputable def c0 : Code := (Go.Proofs.Try.f62.body).getD .skip
noncomputable def V : Env := { tt := tt, Γ := slk [] }
theorem V_ok : EnvOk P V := { ck := tt_ck, fits := slk_nil, mixed := mixed }
abbrev R := (Bool) × Unit
noncomputable def s0 (x1 : List Int) (x2 : T26b3.T) : St := ⟨9, [(0, .cv (.one (.sl (.int .i64) x1 .any))), (1, .cv (.one (.fn 60 [] [(1, 0)])))], [(.box 13, (encC .any T26b3 x2)), (.box 1, [.ptr 0 0])]⟩
noncomputable def out (x2 : T26b3.T) (r : R) : St := ⟨9, [(4, .cv (.one (.bool r.1)))], [(.box 13, (encC .any T26b3 x2)), (.box 1, [.ptr 0 0])]⟩
abbrev Q (x2 : T26b3.T) (r : R) := CallQ 2 (out x2 r)
noncomputable def f (k : Nat) (x1 : List Int) (x2 : T26b3.T) : Option R :=
  (i_slices_IndexFunc_int_a51.f k x1 x2).bind fun y1 =>
    some ((decide (y1.1 ≥ (0 : Int))), ())
theorem f_ok {r k x1 x2} (H : f k x1 x2 = some r) : Gw P 2 (Q x2 r) (Px c0 1 []) (s0 x1 x2) := by
  unfold f at H
  refine Rg V_ok 0 [] az ?_
  refine GT (tn [0, 1] 2) (RI ?_)
  refine EV V_ok 0 [] 2 az ?_
  obtain ⟨y1, e2, H⟩ := of_bind H
  refine CL V_ok i_slices_IndexFunc_int_a51.at_ (i_slices_IndexFunc_int_a51.ok e2) ?_
  refine EV V_ok 0 [] 2 az ?_
  refine RN ?_
  obtain rfl := Option.some.inj H
  exact Lq (tn [4] 2)
theorem ok {r k x1 x2} (H : f k x1 x2 = some r) : W P 2 c0 (s0 x1 x2) (CallQ 2 (out x2 r)) := of_G (f_ok H)
theorem at_ : FnAt P 62 9 c0 Go.Proofs.Try.f62.results := fnAt Go.Proofs.Try.func62 (by kernel_rfl) (by decide) (by kernel_rfl) (by kernel_rfl)
end i_slices_ContainsFunc_int_a51
/-! ### function 45, (*wayfinder/control.controller).is, where it is called -/
namespace i_control_controller_is_e28
noncomputable def c0 : Code := (Go.Proofs.Try.f45.body).getD .skip
noncomputable def V : Env := { tt := tt, Γ := slk [] }
theorem V_ok : EnvOk P V := { ck := tt_ck, fits := slk_nil, mixed := mixed }
abbrev R := (Bool) × Unit
noncomputable def s0 (x1 : T26b3.T) : St := ⟨57, [(0, .cv (.one (.ptr 0 0)))], [(.box 13, (encC .any T26b3 x1))]⟩
noncomputable def out (x1 : T26b3.T) (r : R) : St := ⟨57, [(2, .cv (.one (.bool r.1)))], [(.box 13, (encC .any T26b3 x1))]⟩
abbrev Q (x1 : T26b3.T) (r : R) := CallQ 1 (out x1 r)
noncomputable def s1 (x1 : T26b3.T) (p1 : Bool) : St := ⟨57, [(1, .cv (.one (.ptr 1 0))), (3, .cv (.one (.fn 60 [] [(1, 0)]))), (4, .cv (.one (.bool p1)))], [(.box 13, (encC .any T26b3 x1)), (.box 1, [.ptr 0 0])]⟩
noncomputable def j1 (x1 : T26b3.T) (k : Nat) (p1 : Bool) : Option R :=
  if p1 = true then
  (i_control_controller_is_1_797.f k x1.2.1 x1).bind fun y6 =>
    if (!y6.1) = true then
      (i_slices_ContainsFunc_int_a51.f k x1.2.2.2.2.2.2.2.1 x1).bind fun y9 =>
        if (!y9.1) = true then
          some ((decide ((x1.2.2.2.2.2.2.2.2.1.length : Int) ≤ (100 : Int))), ())
        else
          some (false, ())
    else
      some (false, ())
else
  some (false, ())
theorem j1_ok {r x1} {k p1} (H : j1 x1 k p1 = some r) : Gw P 1 (Q x1 r) (Px c0 15 []) (s1 x1 p1) := by
  unfold j1 at H
  refine GT (tn [1, 3, 4] 2) (RI ?_)
  refine EV V_ok 0 [] 2 az ?_
  rcases of_ite H with ⟨hb5, H⟩ | ⟨hb5, H⟩
  · refine FXO 28 hb5 ?_
    refine EV V_ok 0 [] 6 az ?_
    obtain ⟨y6, e7, H⟩ := of_bind H
    refine CL V_ok i_control_controller_is_1_797.at_ (i_control_controller_is_1_797.ok e7) ?_
    refine EV V_ok 0 [] 3 az ?_
    rcases of_ite H with ⟨hb8, H⟩ | ⟨hb8, H⟩
    · refine FXO 38 hb8 ?_
      refine EV V_ok 0 [] 6 az ?_
      obtain ⟨y9, e10, H⟩ := of_bind H
      refine CL V_ok i_slices_ContainsFunc_int_a51.at_ (i_slices_ContainsFunc_int_a51.ok e10) ?_
      refine EV V_ok 0 [] 3 az ?_
      rcases of_ite H with ⟨hb11, H⟩ | ⟨hb11, H⟩
      · refine FXO 48 hb11 ?_
        refine EV V_ok 0 [] 9 az ?_
        refine RN ?_
        obtain rfl := Option.some.inj H
        exact Lq (tn [2] 1)
      · refine FXO 48 hb11 ?_
        refine EV V_ok 0 [] 9 az ?_
        refine RN ?_
        obtain rfl := Option.some.inj H
        exact Lq (tn [2] 1)
    · refine FXO 38 hb8 ?_
      refine EV V_ok 0 [] 10 az ?_
      refine EV V_ok 0 [] 9 az ?_
      refine RN ?_
      obtain rfl := Option.some.inj H
      exact Lq (tn [2] 1)
  · refine FXO 28 hb5 ?_
    refine EV V_ok 0 [] 10 az ?_
    refine EV V_ok 0 [] 10 az ?_
    refine EV V_ok 0 [] 9 az ?_
    refine RN ?_
    obtain rfl := Option.some.inj H
    exact Lq (tn [2] 1)
noncomputable def f (k : Nat) (x1 : T26b3.T) : Option R :=
  if (x1.2.2.1 == (-1 : Int)) = true then
    (i_control_controller_two_e61.f k x1).bind fun y2 =>
      if (!y2.1) = true then
        j1 x1 k true
      else
        (i_control_controller_is_1_797.f k x1.2.2.1 x1).bind fun y12 =>
          j1 x1 k (!y12.1)
  else
    (i_control_controller_is_1_797.f k x1.2.2.1 x1).bind fun y14 =>
      j1 x1 k (!y14.1)
theorem f_ok {r k x1} (H : f k x1 = some r) : Gw P 1 (Q x1 r) (Px c0 1 []) (s0 x1) := by
  unfold f at H
  refine Rg V_ok 1 [(0, hb 1)] az ?_
  refine Rg V_ok 0 [] az ?_
  refine GT (tn [1, 3] 2) (RI ?_)
  refine EV V_ok 0 [] 7 az ?_
  rcases of_ite H with ⟨hb1, H⟩ | ⟨hb1, H⟩
  · refine FXO 12 hb1 ?_
    refine EV V_ok 0 [] 1 az ?_
    obtain ⟨y2, e3, H⟩ := of_bind H
    refine CL V_ok i_control_controller_two_e61.at_ (i_control_controller_two_e61.ok e3) ?_
    refine EV V_ok 0 [] 3 az ?_
    rcases of_ite H with ⟨hb4, H⟩ | ⟨hb4, H⟩
    · refine FXO 17 hb4 ?_
      refine EV V_ok 0 [] 10 az ?_
      refine RN ?_
      exact Jm (tn [1, 3, 4] 2) (j1_ok H)
    · refine FXO 17 hb4 ?_
      refine EV V_ok 0 [] 6 az ?_
      obtain ⟨y12, e13, H⟩ := of_bind H
      refine CL V_ok i_control_controller_is_1_797.at_ (i_control_controller_is_1_797.ok e13) ?_
      refine EV V_ok 0 [] 3 az ?_
      refine RN ?_
      exact Jm (tn [1, 3, 4] 2) (j1_ok H)
  · refine FXO 12 hb1 ?_
    refine EV V_ok 0 [] 5 az ?_
    refine EV V_ok 0 [] 6 az ?_
    obtain ⟨y14, e15, H⟩ := of_bind H
    refine CL V_ok i_control_controller_is_1_797.at_ (i_control_controller_is_1_797.ok e15) ?_
    refine EV V_ok 0 [] 3 az ?_
    refine RN ?_
    exact Jm (tn [1, 3, 4] 2) (j1_ok H)
theorem ok {r k x1} (H : f k x1 = some r) : W P 1 c0 (s0 x1) (CallQ 1 (out x1 r)) := of_G (f_ok H)
theorem at_ : FnAt P 45 57 c0 Go.Proofs.Try.f45.results := fnAt Go.Proofs.Try.func45 (by kernel_rfl) (by decide) (by kernel_rfl) (by kernel_rfl)
end i_control_controller_is_e28
/-! ### function 61, (*wayfinder/control.controller).two, where it is called -/
namespace i_control_controller_two_e28
noncomputable def c0 : Code := (Go.Proofs.Try.f61.body).getD .skip
noncomputable def V : Env := { tt := tt, Γ := slk [(79, f_slices_Contains_int.S)] }
theorem V_ok : EnvOk P V := { ck := tt_ck, fits := slk_cons f_slices_Contains_int.fits (slk_nil), mixed := mixed }
abbrev R := (Bool) × Unit
noncomputable def s0 (x1 : T26b3.T) : St := ⟨10, [(0, .cv (.one (.ptr 0 0)))], [(.box 13, (encC .any T26b3 x1))]⟩
noncomputable def out (x1 : T26b3.T) (r : R) : St := ⟨10, [(2, .cv (.one (.bool r.1)))], [(.box 13, (encC .any T26b3 x1))]⟩
abbrev Q (x1 : T26b3.T) (r : R) := CallQ 1 (out x1 r)
noncomputable def f (k : Nat) (x1 : T26b3.T) : Option R :=
  (f_slices_Contains_int.f k [1, 2, 3] x1.2.2.2.2.2.1).bind fun y1 =>
    some (y1.1, ())
theorem f_ok {r k x1} (H : f k x1 = some r) : Gw P 1 (Q x1 r) (Px c0 1 []) (s0 x1) := by
  unfold f at H
  refine Rg V_ok 0 [] az ?_
  obtain ⟨y1, e2, H⟩ := of_bind H
  refine Rg V_ok 0 [(6, hr f_slices_Contains_int.S y1)] (ac (f_slices_Contains_int.rl e2) az) ?_
  obtain rfl := Option.some.inj H
  exact Lq (tn [2] 1)
theorem ok {r k x1} (H : f k x1 = some r) : W P 1 c0 (s0 x1) (CallQ 1 (out x1 r)) := of_G (f_ok H)
theorem at_ : FnAt P 61 10 c0 Go.Proofs.Try.f61.results := fnAt Go.Proofs.Try.func61 (by kernel_rfl) (by decide) (by kernel_rfl) (by kernel_rfl)
end i_control_controller_two_e28
/-! ### function 64, (*wayfinder/control.controller).live$1, where it is called -/
namespace i_control_controller_live_1_5ba
noncomputable def c0 : Code := (Go.Proofs.Try.f64.body).getD .skip
noncomputable def V : Env := { tt := tt, Γ := slk [] }
theorem V_ok : EnvOk P V := { ck := tt_ck, fits := slk_nil, mixed := mixed }
abbrev R := (Int) × Unit
noncomputable def s0 (x1 x2 : T814c.T) (x3 : T26b3.T) (x4 : List T814c.T) : St := ⟨17, [(0, .cv (.agg [.i x1.1, .sl T1383 x1.2 .any])), (1, .cv (.agg [.i x2.1, .sl T1383 x2.2 .any]))], [(.box 13, (encC .any T26b3 x3)), (.buf 76 T814c x4, [])]⟩
noncomputable def out (x3 : T26b3.T) (x4 : List T814c.T) (r : R) : St := ⟨17, [(4, .cv (.one (.i r.1)))], [(.box 13, (encC .any T26b3 x3)), (.buf 76 T814c x4, [])]⟩
abbrev Q (x3 : T26b3.T) (x4 : List T814c.T) (r : R) := CallQ 2 (out x3 x4 r)
noncomputable def f (k : Nat) (x1 x2 : T814c.T) (x3 : T26b3.T) (x4 : List T814c.T) : Option R :=
  if (decide (x1.1 < x2.1)) = true then
    some ((-1), ())
  else
    if (decide (x1.1 > x2.1)) = true then
      some ((1 : Int), ())
    else
      some ((0 : Int), ())
theorem f_ok {r k x1 x2 x3 x4} (H : f k x1 x2 x3 x4 = some r) : Gw P 2 (Q x3 x4 r) (Px c0 1 []) (s0 x1 x2 x3 x4) := by
  unfold f at H
  refine Rg V_ok 2 [(0, hb 2), (1, hb 3)] az ?_
  refine Rg V_ok 0 [] az ?_
  rcases of_ite H with ⟨hb1, H⟩ | ⟨hb1, H⟩
  · refine C1 hb1 ?_
    refine Rg V_ok 0 [] az ?_
    obtain rfl := Option.some.inj H
    exact Lq (tn [4] 2)
  · refine C0 hb1 ?_
    refine Rg V_ok 0 [] az ?_
    rcases of_ite H with ⟨hb2, H⟩ | ⟨hb2, H⟩
    · refine C1 hb2 ?_
      refine Rg V_ok 0 [] az ?_
      obtain rfl := Option.some.inj H
      exact Lq (tn [4] 2)
    · refine C0 hb2 ?_
      refine Rg V_ok 0 [] az ?_
      obtain rfl := Option.some.inj H
      exact Lq (tn [4] 2)
theorem ok {r k x1 x2 x3 x4} (H : f k x1 x2 x3 x4 = some r) : W P 2 c0 (s0 x1 x2 x3 x4) (CallQ 2 (out x3 x4 r)) := of_G (f_ok H)
theorem at_ : FnAt P 64 17 c0 Go.Proofs.Try.f64.results := fnAt Go.Proofs.Try.func64 (by kernel_rfl) (by decide) (by kernel_rfl) (by kernel_rfl)
end i_control_controller_live_1_5ba
/-! ### function 92, slices.insertionSortCmpFunc[wayfinder/api.Ver], where it is called -/
namespace i_slices_insertionSortCmpFunc_Ver_2e0
noncomputable def c0 : Code := (Go.Proofs.Try.f92.body).getD .skip
noncomputable def V : Env := { tt := tt, Γ := slk [] }
theorem V_ok : EnvOk P V := { ck := tt_ck, fits := slk_nil, mixed := mixed }
abbrev R := (List T814c.T) × Unit
noncomputable def s0 (x1 x2 : Int) (x3 : T26b3.T) (x4 : List T814c.T) : St := ⟨53, [(0, .cv (.one (.own 1))), (1, .cv (.one (.i x1))), (2, .cv (.one (.i x2))), (3, .cv (.one (.fn 64 [] [])))], [(.box 13, (encC .any T26b3 x3)), (.buf 76 T814c x4, [])]⟩
noncomputable def out (x3 : T26b3.T) (r : R) : St := ⟨53, [], [(.box 13, (encC .any T26b3 x3)), (.buf 76 T814c r.1, [])]⟩
abbrev Q (x3 : T26b3.T) (r : R) := CallQ 2 (out x3 r)
noncomputable def s1 (x1 x2 : Int) (x3 : T26b3.T) (p3 : Int) (p5 : List T814c.T) : St := ⟨53, [(0, .cv (.one (.own 1))), (1, .cv (.one (.i x1))), (2, .cv (.one (.i x2))), (3, .cv (.one (.fn 64 [] []))), (8, .cv (.one (.i p3)))], [(.box 13, (encC .any T26b3 x3)), (.buf 76 T814c p5, [])]⟩
noncomputable def s2 (x1 x2 : Int) (x3 : T26b3.T) (p3 p4 : Int) (p6 : List T814c.T) : St := ⟨53, [(0, .cv (.one (.own 1))), (1, .cv (.one (.i x1))), (2, .cv (.one (.i x2))), (3, .cv (.one (.fn 64 [] []))), (8, .cv (.one (.i p3))), (9, .cv (.one (.i p4)))], [(.box 13, (encC .any T26b3 x3)), (.buf 76 T814c p6, [])]⟩
noncomputable def s3 (x1 x2 : Int) (x3 : T26b3.T) (p3 p4 : Int) (p5 : Bool) (p7 : List T814c.T) : St := ⟨53, [(0, .cv (.one (.own 1))), (1, .cv (.one (.i x1))), (2, .cv (.one (.i x2))), (3, .cv (.one (.fn 64 [] []))), (8, .cv (.one (.i p3))), (9, .cv (.one (.i p4))), (34, .cv (.one (.bool p5)))], [(.box 13, (encC .any T26b3 x3)), (.buf 76 T814c p7, [])]⟩
noncomputable def j3 (x1 x2 : Int) (x3 : T26b3.T) (L1 : Int → List T814c.T → Option R) (L2 : Int → Int → List T814c.T → Option R) (k : Nat) (p3 p4 : Int) (p5 : Bool) (p7 : List T814c.T) : Option R :=
  if p5 = true then
  if 0 ≤ (IntKind.i64.wrap (p4 - 1)) then
    if (IntKind.i64.wrap (p4 - 1)) < (p7.length : Int) then
      if 0 ≤ p4 then
        if p4 < (p7.length : Int) then
          if (IntKind.i64.wrap (p4 - 1)) < ((p7.set p4.toNat (att T814c p7 (IntKind.i64.wrap (p4 - 1)))).length : Int) then
            L2 p3 (IntKind.i64.wrap (p4 - 1)) ((p7.set p4.toNat (att T814c p7 (IntKind.i64.wrap (p4 - 1)))).set (IntKind.i64.wrap (p4 - 1)).toNat (att T814c p7 p4))
          else none
        else none
      else none
    else none
  else none
else
  L1 (IntKind.i64.wrap (p3 + 1)) p7
theorem j3_ok {r x1 x2 x3} {L1 : Int → List T814c.T → Option R} {m1 : Nat} (hL1 : ∀ p3 p5, L1 p3 p5 = some r → Gw P 2 (Q x3 r) (Pb c0 5 [] m1) (s1 x1 x2 x3 p3 p5)) {L2 : Int → Int → List T814c.T → Option R} {m2 : Nat} (hL2 : ∀ p3 p4 p6, L2 p3 p4 p6 = some r → Gw P 2 (Q x3 r) (Pb c0 329 [m1] m2) (s2 x1 x2 x3 p3 p4 p6)) {k p3 p4 p5 p7} (H : j3 x1 x2 x3 L1 L2 k p3 p4 p5 p7 = some r) : Gw P 2 (Q x3 r) (Px c0 3145 [m1, m2]) (s3 x1 x2 x3 p3 p4 p5 p7) := by
  unfold j3 at H
  rcases of_ite H with ⟨hb9, H⟩ | ⟨hb9, H⟩
  · refine C1 hb9 ?_
    obtain ⟨n10, H⟩ := of_if H
    obtain ⟨n11, H⟩ := of_if H
    obtain ⟨n12, H⟩ := of_if H
    obtain ⟨n13, H⟩ := of_if H
    obtain ⟨n14, H⟩ := of_if H
    refine Rg V_ok 0 [] (ac n10 (ac n11 (ac n12 (ac n13 (ac n12 (ac n13 (ac n10 (ac n14 az)))))))) ?_
    refine Rg V_ok 0 [] az ?_
    exact Jm (tn [0, 1, 2, 3, 8, 9] 2) (hL2 p3 (IntKind.i64.wrap (p4 - 1)) ((p7.set p4.toNat (att T814c p7 (IntKind.i64.wrap (p4 - 1)))).set (IntKind.i64.wrap (p4 - 1)).toNat (att T814c p7 p4)) H)
  · refine C0 hb9 ?_
    refine Rg V_ok 0 [] az ?_
    exact Jm (tn [0, 1, 2, 3, 8] 2) (hL1 (IntKind.i64.wrap (p3 + 1)) p7 H)
noncomputable def b2 (x1 x2 : Int) (x3 : T26b3.T) (L1 : Int → List T814c.T → Option R) (L2 : Int → Int → List T814c.T → Option R) (k : Nat) (p3 p4 : Int) (p6 : List T814c.T) : Option R :=
  if (decide (p4 > x1)) = true then
  if 0 ≤ p4 then
    if p4 < (p6.length : Int) then
      if 0 ≤ (IntKind.i64.wrap (p4 - 1)) then
        if (IntKind.i64.wrap (p4 - 1)) < (p6.length : Int) then
          (i_control_controller_live_1_5ba.f k (att T814c p6 p4) (att T814c p6 (IntKind.i64.wrap (p4 - 1))) x3 p6).bind fun y7 =>
            j3 x1 x2 x3 L1 L2 k p3 p4 (decide (y7.1 < (0 : Int))) p6
        else none
      else none
    else none
  else none
else
  j3 x1 x2 x3 L1 L2 k p3 p4 false p6
theorem b2_ok {r x1 x2 x3} {L1 : Int → List T814c.T → Option R} {m1 : Nat} (hL1 : ∀ p3 p5, L1 p3 p5 = some r → Gw P 2 (Q x3 r) (Pb c0 5 [] m1) (s1 x1 x2 x3 p3 p5)) {L2 : Int → Int → List T814c.T → Option R} {m2 : Nat} (hL2 : ∀ p3 p4 p6, L2 p3 p4 p6 = some r → Gw P 2 (Q x3 r) (Pb c0 329 [m1] m2) (s2 x1 x2 x3 p3 p4 p6)) {k p3 p4 p6} (H : b2 x1 x2 x3 L1 L2 k p3 p4 p6 = some r) : Gw P 2 (Q x3 r) (Px c0 585 [m1, m2]) (s2 x1 x2 x3 p3 p4 p6) := by
  unfold b2 at H
  rcases of_ite H with ⟨hb2, H⟩ | ⟨hb2, H⟩
  · obtain ⟨n3, H⟩ := of_if H
    obtain ⟨n4, H⟩ := of_if H
    obtain ⟨n5, H⟩ := of_if H
    obtain ⟨n6, H⟩ := of_if H
    obtain ⟨y7, e8, H⟩ := of_bind H
    let x : Nx := (Px c0 2121 [m1, m2])
    let t0 : St := ⟨53, [(0, .cv (.one (.own 1))), (1, .cv (.one (.i x1))), (2, .cv (.one (.i x2))), (3, .cv (.one (.fn 64 [] []))), (8, .cv (.one (.i p3))), (9, .cv (.one (.i p4)))], [(.box 13, (encC .any T26b3 x3)), (.buf 76 T814c p6, [])]⟩
    refine Jm (x' := x) (τ := t0) (tn [0, 1, 2, 3, 8, 9] 2) ?_
    let Φ := phiX P 2 (Q x3 r) x
    let t1 : St := stpS V x 0 [] 0 (tn [0, 1, 2, 3, 8, 9, 18] 2) t0
    let t2 : St := stpS V x 0 [] 1 (tn [0, 1, 2, 3, 8, 9, 18, 19] 2) t1
    let t3 : St := stpS V x 0 [] 2 (tn [0, 1, 2, 3, 8, 9, 20] 2) t2
    let t4 : St := stpS V x 0 [(3, {bv := some true})] 3 (tn [0, 1, 2, 3, 8, 9, 21] 2) t3
    let t5 : St := stpS V x 0 [] 4 (tn [0, 1, 2, 3, 8, 9, 21, 22] 2) t4
    let t6 : St := stpS V x 0 [] 5 (tn [0, 1, 2, 3, 8, 9, 21, 22, 23] 2) t5
    let t7 : St := stpS V x 0 [] 6 (tn [0, 1, 2, 3, 8, 9, 21, 22, 23, 24] 2) t6
    let t8 : St := stpS V x 0 [] 9 (tn [0, 1, 2, 3, 8, 9, 21, 22, 23, 24, 27] 2) t7
    let t9 : St := stpS V x 0 [] 10 (tn [0, 1, 2, 3, 8, 9, 21, 22, 23, 24, 27, 28] 2) t8
    let t10 : St := stpS V x 0 [] 7 (tn [0, 1, 2, 3, 8, 9, 21, 22, 25, 27, 28] 2) t9
    let t11 : St := stpS V x 0 [] 11 (tn [0, 1, 2, 3, 8, 9, 21, 22, 23, 24, 27, 29] 2) t9
    let t12 : St := stpS V x 0 [] 8 (tn [0, 1, 2, 3, 8, 9, 21, 22, 26, 27, 28] 2) t10
    let t13 : St := stpS V x 0 [] 11 (tn [0, 1, 2, 3, 8, 9, 21, 22, 25, 27, 29] 2) t10
    let t14 : St := stpS V x 0 [] 12 (tn [0, 1, 2, 3, 8, 9, 21, 22, 23, 24, 30] 2) t11
    let t15 : St := stpS V x 0 [] 11 (tn [0, 1, 2, 3, 8, 9, 21, 22, 26, 27, 29] 2) t12
    let t16 : St := stpS V x 0 [] 12 (tn [0, 1, 2, 3, 8, 9, 21, 22, 25, 30] 2) t13
    let t17 : St := stpS V x 0 [] 13 (tn [0, 1, 2, 3, 8, 9, 21, 22, 23, 24, 31] 2) t14
    let t18 : St := stpS V x 0 [] 12 (tn [0, 1, 2, 3, 8, 9, 21, 22, 26, 30] 2) t15
    let t19 : St := stpS V x 0 [] 13 (tn [0, 1, 2, 3, 8, 9, 21, 22, 25, 31] 2) t16
    let t20 : St := stpS V x 0 [] 13 (tn [0, 1, 2, 3, 8, 9, 21, 22, 26, 31] 2) t18
    let t21 : St := clT V.tt x 14 Go.Proofs.Try.f64.results (tn [0, 1, 2, 3, 8, 9, 21, 32] 2) t20 (i_control_controller_live_1_5ba.out x3 p6 y7)
    let t22 : St := stpS V x 0 [] 15 (tn [0, 1, 2, 3, 8, 9, 21, 33] 2) t21
    let t23 : St := stpS V x 0 [] 16 (tn [0, 1, 2, 3, 8, 9, 34] 2) t22
    have w23 : WA P 2 (opsX x) 0 (bs 17 131071) Φ t23 := by
      refine WA_nil (by kernel_rfl) (RAn (by kernel_rfl) ?_)
      exact Jm (tn [0, 1, 2, 3, 8, 9, 34] 2) (j3_ok hL1 hL2 H)
    have w22 : WA P 2 (opsX x) 1 (bs 17 65535) Φ t22 := WAs (an (WE V_ok 0 [] 16 (tn [0, 1, 2, 3, 8, 9, 34] 2) az w23) aN)
    have w21 : WA P 2 (opsX x) 2 (bs 17 32767) Φ t21 := WAs (an (WE V_ok 0 [] 15 (tn [0, 1, 2, 3, 8, 9, 21, 33] 2) az w22) aN)
    have w20 : WA P 2 (opsX x) 3 (bs 17 16383) Φ t20 := WAs (an (WC V_ok 14 (tn [0, 1, 2, 3, 8, 9, 21, 32] 2) i_control_controller_live_1_5ba.at_ (i_control_controller_live_1_5ba.ok e8) w21) aN)
    have w19 : WA P 2 (opsX x) 4 (bs 17 16127) Φ t19 := WAs (an (WE V_ok 0 [] 8 (tn [0, 1, 2, 3, 8, 9, 21, 22, 26, 31] 2) az w20) aN)
    have w18 : WA P 2 (opsX x) 4 (bs 17 8191) Φ t18 := WAs (an (WE V_ok 0 [] 13 (tn [0, 1, 2, 3, 8, 9, 21, 22, 26, 31] 2) az w20) aN)
    have w17 : WA P 2 (opsX x) 5 (bs 17 15999) Φ t17 := WAs (an (WE V_ok 0 [] 7 (tn [0, 1, 2, 3, 8, 9, 21, 22, 25, 31] 2) (ac n3 (ac n4 az)) w19) aN)
    have w16 : WA P 2 (opsX x) 5 (bs 17 7935) Φ t16 := WAs (an (WE V_ok 0 [] 8 (tn [0, 1, 2, 3, 8, 9, 21, 22, 26, 30] 2) az w18) (an (WE V_ok 0 [] 13 (tn [0, 1, 2, 3, 8, 9, 21, 22, 25, 31] 2) az w19) aN))
    have w15 : WA P 2 (opsX x) 5 (bs 17 4095) Φ t15 := WAs (an (WE V_ok 0 [] 12 (tn [0, 1, 2, 3, 8, 9, 21, 22, 26, 30] 2) (ac n5 (ac n6 az)) w18) aN)
    have w14 : WA P 2 (opsX x) 6 (bs 17 7807) Φ t14 := WAs (an (WE V_ok 0 [] 7 (tn [0, 1, 2, 3, 8, 9, 21, 22, 25, 30] 2) (ac n3 (ac n4 az)) w16) (an (WE V_ok 0 [] 13 (tn [0, 1, 2, 3, 8, 9, 21, 22, 23, 24, 31] 2) az w17) aN))
    have w13 : WA P 2 (opsX x) 6 (bs 17 3839) Φ t13 := WAs (an (WE V_ok 0 [] 8 (tn [0, 1, 2, 3, 8, 9, 21, 22, 26, 27, 29] 2) az w15) (an (WE V_ok 0 [] 12 (tn [0, 1, 2, 3, 8, 9, 21, 22, 25, 30] 2) (ac n5 (ac n6 az)) w16) aN))
    have w12 : WA P 2 (opsX x) 6 (bs 17 2047) Φ t12 := WAs (an (WE V_ok 0 [] 11 (tn [0, 1, 2, 3, 8, 9, 21, 22, 26, 27, 29] 2) az w15) aN)
    have w11 : WA P 2 (opsX x) 7 (bs 17 3711) Φ t11 := WAs (an (WE V_ok 0 [] 7 (tn [0, 1, 2, 3, 8, 9, 21, 22, 25, 27, 29] 2) (ac n3 (ac n4 az)) w13) (an (WE V_ok 0 [] 12 (tn [0, 1, 2, 3, 8, 9, 21, 22, 23, 24, 30] 2) (ac n5 (ac n6 az)) w14) aN))
    have w10 : WA P 2 (opsX x) 7 (bs 17 1791) Φ t10 := WAs (an (WE V_ok 0 [] 8 (tn [0, 1, 2, 3, 8, 9, 21, 22, 26, 27, 28] 2) az w12) (an (WE V_ok 0 [] 11 (tn [0, 1, 2, 3, 8, 9, 21, 22, 25, 27, 29] 2) az w13) aN))
    have w9 : WA P 2 (opsX x) 8 (bs 17 1663) Φ t9 := WAs (an (WE V_ok 0 [] 7 (tn [0, 1, 2, 3, 8, 9, 21, 22, 25, 27, 28] 2) (ac n3 (ac n4 az)) w10) (an (WE V_ok 0 [] 11 (tn [0, 1, 2, 3, 8, 9, 21, 22, 23, 24, 27, 29] 2) az w11) aN))
    have w8 : WA P 2 (opsX x) 9 (bs 17 639) Φ t8 := WT V_ok [] 10 (tn [0, 1, 2, 3, 8, 9, 21, 22, 23, 24, 27, 28] 2) az w9
    have w7 : WA P 2 (opsX x) 10 (bs 17 127) Φ t7 := WT V_ok [] 9 (tn [0, 1, 2, 3, 8, 9, 21, 22, 23, 24, 27] 2) az w8
    have w6 : WA P 2 (opsX x) 11 (bs 17 63) Φ t6 := WT V_ok [] 6 (tn [0, 1, 2, 3, 8, 9, 21, 22, 23, 24] 2) az w7
    have w5 : WA P 2 (opsX x) 12 (bs 17 31) Φ t5 := WT V_ok [] 5 (tn [0, 1, 2, 3, 8, 9, 21, 22, 23] 2) az w6
    have w4 : WA P 2 (opsX x) 13 (bs 17 15) Φ t4 := WT V_ok [] 4 (tn [0, 1, 2, 3, 8, 9, 21, 22] 2) az w5
    have w3 : WA P 2 (opsX x) 14 (bs 17 7) Φ t3 := WT V_ok [(3, {bv := some true})] 3 (tn [0, 1, 2, 3, 8, 9, 21] 2) (ac hb2 az) w4
    have w2 : WA P 2 (opsX x) 15 (bs 17 3) Φ t2 := WAs (an (WE V_ok 0 [] 2 (tn [0, 1, 2, 3, 8, 9, 20] 2) az w3) aN)
    have w1 : WA P 2 (opsX x) 16 (bs 17 1) Φ t1 := WT V_ok [] 1 (tn [0, 1, 2, 3, 8, 9, 18, 19] 2) az w2
    have w0 : WA P 2 (opsX x) 17 (bs 17 0) Φ t0 := WT V_ok [] 0 (tn [0, 1, 2, 3, 8, 9, 18] 2) az w1
    exact RA V_ok 17 (by kernel_rfl) (by kernel_rfl) (by kernel_rfl) w0
  · let x : Nx := (Px c0 2121 [m1, m2])
    let t0 : St := ⟨53, [(0, .cv (.one (.own 1))), (1, .cv (.one (.i x1))), (2, .cv (.one (.i x2))), (3, .cv (.one (.fn 64 [] []))), (8, .cv (.one (.i p3))), (9, .cv (.one (.i p4)))], [(.box 13, (encC .any T26b3 x3)), (.buf 76 T814c p6, [])]⟩
    refine Jm (x' := x) (τ := t0) (tn [0, 1, 2, 3, 8, 9] 2) ?_
    let Φ := phiX P 2 (Q x3 r) x
    let t1 : St := stpS V x 0 [] 0 (tn [0, 1, 2, 3, 8, 9, 18] 2) t0
    let t2 : St := stpS V x 0 [] 1 (tn [0, 1, 2, 3, 8, 9, 18, 19] 2) t1
    let t3 : St := stpS V x 0 [] 2 (tn [0, 1, 2, 3, 8, 9, 20] 2) t2
    let t4 : St := stpS V x 0 [(3, {bv := some false})] 3 (tn [0, 1, 2, 3, 8, 9, 21] 2) t3
    let t5 : St := stpS V x 0 [] 4 (tn [0, 1, 2, 3, 8, 9, 21, 22] 2) t4
    let t6 : St := stpS V x 0 [] 5 (tn [0, 1, 2, 3, 8, 9, 21, 22, 23] 2) t5
    let t7 : St := stpS V x 0 [] 6 (tn [0, 1, 2, 3, 8, 9, 21, 22, 23, 24] 2) t6
    let t8 : St := stpS V x 0 [] 9 (tn [0, 1, 2, 3, 8, 9, 21, 22, 23, 24, 27] 2) t7
    let t9 : St := stpS V x 0 [] 10 (tn [0, 1, 2, 3, 8, 9, 21, 22, 23, 24, 27, 28] 2) t8
    let t10 : St := stpS V x 0 [] 7 (tn [0, 1, 2, 3, 8, 9, 21, 22, 25, 27, 28] 2) t9
    let t11 : St := stpS V x 0 [] 11 (tn [0, 1, 2, 3, 8, 9, 21, 22, 23, 24, 27, 29] 2) t9
    let t12 : St := stpS V x 0 [] 8 (tn [0, 1, 2, 3, 8, 9, 21, 22, 26, 27, 28] 2) t10
    let t13 : St := stpS V x 0 [] 11 (tn [0, 1, 2, 3, 8, 9, 21, 22, 25, 27, 29] 2) t10
    let t14 : St := stpS V x 0 [] 12 (tn [0, 1, 2, 3, 8, 9, 21, 22, 23, 24, 30] 2) t11
    let t15 : St := stpS V x 0 [] 11 (tn [0, 1, 2, 3, 8, 9, 21, 22, 26, 27, 29] 2) t12
    let t16 : St := stpS V x 0 [] 12 (tn [0, 1, 2, 3, 8, 9, 21, 22, 25, 30] 2) t13
    let t17 : St := stpS V x 0 [] 13 (tn [0, 1, 2, 3, 8, 9, 21, 22, 23, 24, 31] 2) t14
    let t18 : St := stpS V x 0 [] 12 (tn [0, 1, 2, 3, 8, 9, 21, 22, 26, 30] 2) t15
    let t19 : St := stpS V x 0 [] 13 (tn [0, 1, 2, 3, 8, 9, 21, 22, 25, 31] 2) t16
    let t20 : St := stpS V x 0 [] 13 (tn [0, 1, 2, 3, 8, 9, 21, 22, 26, 31] 2) t18
    let t21 : St := stpS V x 0 [] 14 (tn [0, 1, 2, 3, 8, 9, 21, 32] 2) t20
    let t22 : St := stpS V x 0 [] 15 (tn [0, 1, 2, 3, 8, 9, 21, 33] 2) t21
    let t23 : St := stpS V x 0 [] 16 (tn [0, 1, 2, 3, 8, 9, 34] 2) t22
    have w23 : WA P 2 (opsX x) 0 (bs 17 131071) Φ t23 := by
      refine WA_nil (by kernel_rfl) (RAn (by kernel_rfl) ?_)
      exact Jm (tn [0, 1, 2, 3, 8, 9, 34] 2) (j3_ok hL1 hL2 H)
    have w22 : WA P 2 (opsX x) 1 (bs 17 65535) Φ t22 := WAs (an (WE V_ok 0 [] 16 (tn [0, 1, 2, 3, 8, 9, 34] 2) az w23) aN)
    have w21 : WA P 2 (opsX x) 2 (bs 17 32767) Φ t21 := WAs (an (WE V_ok 0 [] 15 (tn [0, 1, 2, 3, 8, 9, 21, 33] 2) az w22) aN)
    have w20 : WA P 2 (opsX x) 3 (bs 17 16383) Φ t20 := WAs (an (WE V_ok 0 [] 14 (tn [0, 1, 2, 3, 8, 9, 21, 32] 2) az w21) aN)
    have w19 : WA P 2 (opsX x) 4 (bs 17 16127) Φ t19 := WAs (an (WE V_ok 0 [] 8 (tn [0, 1, 2, 3, 8, 9, 21, 22, 26, 31] 2) az w20) aN)
    have w18 : WA P 2 (opsX x) 4 (bs 17 8191) Φ t18 := WAs (an (WE V_ok 0 [] 13 (tn [0, 1, 2, 3, 8, 9, 21, 22, 26, 31] 2) az w20) aN)
    have w17 : WA P 2 (opsX x) 5 (bs 17 15999) Φ t17 := WAs (an (WE V_ok 0 [] 7 (tn [0, 1, 2, 3, 8, 9, 21, 22, 25, 31] 2) az w19) aN)
    have w16 : WA P 2 (opsX x) 5 (bs 17 7935) Φ t16 := WAs (an (WE V_ok 0 [] 8 (tn [0, 1, 2, 3, 8, 9, 21, 22, 26, 30] 2) az w18) (an (WE V_ok 0 [] 13 (tn [0, 1, 2, 3, 8, 9, 21, 22, 25, 31] 2) az w19) aN))
    have w15 : WA P 2 (opsX x) 5 (bs 17 4095) Φ t15 := WAs (an (WE V_ok 0 [] 12 (tn [0, 1, 2, 3, 8, 9, 21, 22, 26, 30] 2) az w18) aN)
    have w14 : WA P 2 (opsX x) 6 (bs 17 7807) Φ t14 := WAs (an (WE V_ok 0 [] 7 (tn [0, 1, 2, 3, 8, 9, 21, 22, 25, 30] 2) az w16) (an (WE V_ok 0 [] 13 (tn [0, 1, 2, 3, 8, 9, 21, 22, 23, 24, 31] 2) az w17) aN))
    have w13 : WA P 2 (opsX x) 6 (bs 17 3839) Φ t13 := WAs (an (WE V_ok 0 [] 8 (tn [0, 1, 2, 3, 8, 9, 21, 22, 26, 27, 29] 2) az w15) (an (WE V_ok 0 [] 12 (tn [0, 1, 2, 3, 8, 9, 21, 22, 25, 30] 2) az w16) aN))
    have w12 : WA P 2 (opsX x) 6 (bs 17 2047) Φ t12 := WAs (an (WE V_ok 0 [] 11 (tn [0, 1, 2, 3, 8, 9, 21, 22, 26, 27, 29] 2) az w15) aN)
    have w11 : WA P 2 (opsX x) 7 (bs 17 3711) Φ t11 := WAs (an (WE V_ok 0 [] 7 (tn [0, 1, 2, 3, 8, 9, 21, 22, 25, 27, 29] 2) az w13) (an (WE V_ok 0 [] 12 (tn [0, 1, 2, 3, 8, 9, 21, 22, 23, 24, 30] 2) az w14) aN))
    have w10 : WA P 2 (opsX x) 7 (bs 17 1791) Φ t10 := WAs (an (WE V_ok 0 [] 8 (tn [0, 1, 2, 3, 8, 9, 21, 22, 26, 27, 28] 2) az w12) (an (WE V_ok 0 [] 11 (tn [0, 1, 2, 3, 8, 9, 21, 22, 25, 27, 29] 2) az w13) aN))
    have w9 : WA P 2 (opsX x) 8 (bs 17 1663) Φ t9 := WAs (an (WE V_ok 0 [] 7 (tn [0, 1, 2, 3, 8, 9, 21, 22, 25, 27, 28] 2) az w10) (an (WE V_ok 0 [] 11 (tn [0, 1, 2, 3, 8, 9, 21, 22, 23, 24, 27, 29] 2) az w11) aN))
    have w8 : WA P 2 (opsX x) 9 (bs 17 639) Φ t8 := WT V_ok [] 10 (tn [0, 1, 2, 3, 8, 9, 21, 22, 23, 24, 27, 28] 2) az w9
    have w7 : WA P 2 (opsX x) 10 (bs 17 127) Φ t7 := WT V_ok [] 9 (tn [0, 1, 2, 3, 8, 9, 21, 22, 23, 24, 27] 2) az w8
    have w6 : WA P 2 (opsX x) 11 (bs 17 63) Φ t6 := WT V_ok [] 6 (tn [0, 1, 2, 3, 8, 9, 21, 22, 23, 24] 2) az w7
    have w5 : WA P 2 (opsX x) 12 (bs 17 31) Φ t5 := WT V_ok [] 5 (tn [0, 1, 2, 3, 8, 9, 21, 22, 23] 2) az w6
    have w4 : WA P 2 (opsX x) 13 (bs 17 15) Φ t4 := WT V_ok [] 4 (tn [0, 1, 2, 3, 8, 9, 21, 22] 2) az w5
    have w3 : WA P 2 (opsX x) 14 (bs 17 7) Φ t3 := WT V_ok [(3, {bv := some false})] 3 (tn [0, 1, 2, 3, 8, 9, 21] 2) (ac hb2 az) w4
    have w2 : WA P 2 (opsX x) 15 (bs 17 3) Φ t2 := WAs (an (WE V_ok 0 [] 2 (tn [0, 1, 2, 3, 8, 9, 20] 2) az w3) aN)
    have w1 : WA P 2 (opsX x) 16 (bs 17 1) Φ t1 := WT V_ok [] 1 (tn [0, 1, 2, 3, 8, 9, 18, 19] 2) az w2
    have w0 : WA P 2 (opsX x) 17 (bs 17 0) Φ t0 := WT V_ok [] 0 (tn [0, 1, 2, 3, 8, 9, 18] 2) az w1
    exact RA V_ok 17 (by kernel_rfl) (by kernel_rfl) (by kernel_rfl) w0
noncomputable def l2 (x1 x2 : Int) (x3 : T26b3.T) (L1 : Int → List T814c.T → Option R) (k : Nat) : Nat → Int → Int → List T814c.T → Option R
  | 0, _, _, _ => none
  | m + 1, p3, p4, p6 => b2 x1 x2 x3 L1 (l2 x1 x2 x3 L1 k m) k p3 p4 p6
theorem l2_ok {r x1 x2 x3} {L1 : Int → List T814c.T → Option R} {m1 : Nat} (hL1 : ∀ p3 p5, L1 p3 p5 = some r → Gw P 2 (Q x3 r) (Pb c0 5 [] m1) (s1 x1 x2 x3 p3 p5)) (k : Nat) : ∀ (m2 : Nat) (p3 p4 : Int) (p6 : List T814c.T), l2 x1 x2 x3 L1 k m2 p3 p4 p6 = some r → Gw P 2 (Q x3 r) (Pb c0 329 [m1] m2) (s2 x1 x2 x3 p3 p4 p6)
  | 0, _, _, _, H => by cases H
  | m2 + 1, p3, p4, p6, H => SU (by kernel_rfl) (b2_ok hL1 (l2_ok hL1 k m2) H)
noncomputable def b1 (x1 x2 : Int) (x3 : T26b3.T) (L1 : Int → List T814c.T → Option R) (k : Nat) (p3 : Int) (p5 : List T814c.T) : Option R :=
  if (decide (p3 < x2)) = true then
  l2 x1 x2 x3 L1 k k p3 p3 p5
else
  some (p5, ())
theorem b1_ok {r x1 x2 x3} {L1 : Int → List T814c.T → Option R} {m1 : Nat} (hL1 : ∀ p3 p5, L1 p3 p5 = some r → Gw P 2 (Q x3 r) (Pb c0 5 [] m1) (s1 x1 x2 x3 p3 p5)) {k p3 p5} (H : b1 x1 x2 x3 L1 k p3 p5 = some r) : Gw P 2 (Q x3 r) (Px c0 9 [m1]) (s1 x1 x2 x3 p3 p5) := by
  unfold b1 at H
  refine Rg V_ok 0 [] az ?_
  rcases of_ite H with ⟨hb1, H⟩ | ⟨hb1, H⟩
  · refine C1 hb1 ?_
    refine Rg V_ok 0 [] az ?_
    exact LP k (Jm (tn [0, 1, 2, 3, 8, 9] 2) (l2_ok hL1 k k p3 p3 p5 H))
  · refine C0 hb1 ?_
    obtain rfl := Option.some.inj H
    exact Lq (tn [] 2)
noncomputable def l1 (x1 x2 : Int) (x3 : T26b3.T) (k : Nat) : Nat → Int → List T814c.T → Option R
  | 0, _, _ => none
  | m + 1, p3, p5 => b1 x1 x2 x3 (l1 x1 x2 x3 k m) k p3 p5
theorem l1_ok {r x1 x2 x3} (k : Nat) : ∀ (m1 : Nat) (p3 : Int) (p5 : List T814c.T), l1 x1 x2 x3 k m1 p3 p5 = some r → Gw P 2 (Q x3 r) (Pb c0 5 [] m1) (s1 x1 x2 x3 p3 p5)
  | 0, _, _, H => by cases H
  | m1 + 1, p3, p5, H => SU (by kernel_rfl) (b1_ok (l1_ok k m1) H)
noncomputable def f (k : Nat) (x1 x2 : Int) (x3 : T26b3.T) (x4 : List T814c.T) : Option R :=
  l1 x1 x2 x3 k k (IntKind.i64.wrap (x1 + 1)) x4
theorem f_ok {r k x1 x2 x3 x4} (H : f k x1 x2 x3 x4 = some r) : Gw P 2 (Q x3 r) (Px c0 1 []) (s0 x1 x2 x3 x4) := by
  unfold f at H
  refine Rg V_ok 0 [] az ?_
  exact LP k (Jm (tn [0, 1, 2, 3, 8] 2) (l1_ok k k (IntKind.i64.wrap (x1 + 1)) x4 H))
theorem ok {r k x1 x2 x3 x4} (H : f k x1 x2 x3 x4 = some r) : W P 2 c0 (s0 x1 x2 x3 x4) (CallQ 2 (out x3 r)) := of_G (f_ok H)
theorem at_ : FnAt P 92 53 c0 Go.Proofs.Try.f92.results := fnAt Go.Proofs.Try.func92 (by kernel_rfl) (by decide) (by kernel_rfl) (by kernel_rfl)
end i_slices_insertionSortCmpFunc_Ver_2e0
/-! ### function 81, slices.stableCmpFunc[wayfinder/api.Ver], where it is called -/
namespace i_slices_stableCmpFunc_Ver_2ec
noncomputable def c0 : Code := (Go.Proofs.Try.f81.body).getD .skip
noncomputable def V : Env := { tt := tt, Γ := slk [] }
theorem V_ok : EnvOk P V := { ck := tt_ck, fits := slk_nil, mixed := mixed }
abbrev R := (List T814c.T) × Unit
noncomputable def s0 (x1 : Int) (x2 : T26b3.T) (x3 : List T814c.T) : St := ⟨63, [(0, .cv (.one (.own 1))), (1, .cv (.one (.i x1))), (2, .cv (.one (.fn 64 [] [])))], [(.box 13, (encC .any T26b3 x2)), (.buf 76 T814c x3, [])]⟩
noncomputable def out (x2 : T26b3.T) (r : R) : St := ⟨63, [], [(.box 13, (encC .any T26b3 x2)), (.buf 76 T814c r.1, [])]⟩
abbrev Q (x2 : T26b3.T) (r : R) := CallQ 2 (out x2 r)
noncomputable def s1 (x1 : Int) (x2 : T26b3.T) (p2 p3 p4 : Int) (p6 : List T814c.T) : St := ⟨63, [(0, .cv (.one (.own 1))), (1, .cv (.one (.i x1))), (2, .cv (.one (.fn 64 [] []))), (6, .cv (.one (.i p2))), (7, .cv (.one (.i p3))), (8, .cv (.one (.i p4)))], [(.box 13, (encC .any T26b3 x2)), (.buf 76 T814c p6, [])]⟩
noncomputable def s2 (x1 : Int) (x2 : T26b3.T) (p2 : Int) (p4 : List T814c.T) : St := ⟨63, [(0, .cv (.one (.own 1))), (1, .cv (.one (.i x1))), (2, .cv (.one (.fn 64 [] []))), (6, .cv (.one (.i p2)))], [(.box 13, (encC .any T26b3 x2)), (.buf 76 T814c p4, [])]⟩
noncomputable def s3 (x1 : Int) (x2 : T26b3.T) (p2 p3 p4 : Int) (p6 : List T814c.T) : St := ⟨63, [(0, .cv (.one (.own 1))), (1, .cv (.one (.i x1))), (2, .cv (.one (.fn 64 [] []))), (6, .cv (.one (.i p2))), (7, .cv (.one (.i p3))), (8, .cv (.one (.i p4)))], [(.box 13, (encC .any T26b3 x2)), (.buf 76 T814c p6, [])]⟩
noncomputable def b3 (x1 : Int) (x2 : T26b3.T) (L2 : Int → List T814c.T → Option R) (L3 : Int → Int → Int → List T814c.T → Option R) (k : Nat) (p2 p3 p4 : Int) (p6 : List T814c.T) : Option R :=
  if (decide (p4 ≤ x1)) = true then
  none
else
  if (decide ((IntKind.i64.wrap (p3 + p2)) < x1)) = true then
    none
  else
    L2 (IntKind.i64.wrap (p2 * 2)) p6
theorem b3_ok {r x1 x2} {L2 : Int → List T814c.T → Option R} {m2 : Nat} (hL2 : ∀ p2 p4, L2 p2 p4 = some r → Gw P 2 (Q x2 r) (Pb c0 47 [] m2) (s2 x1 x2 p2 p4)) {L3 : Int → Int → Int → List T814c.T → Option R} {m3 : Nat} (hL3 : ∀ p2 p3 p4 p6, L3 p2 p3 p4 p6 = some r → Gw P 2 (Q x2 r) (Pb c0 2383 [m2] m3) (s3 x1 x2 p2 p3 p4 p6)) {k p2 p3 p4 p6} (H : b3 x1 x2 L2 L3 k p2 p3 p4 p6 = some r) : Gw P 2 (Q x2 r) (Px c0 4431 [m2, m3]) (s3 x1 x2 p2 p3 p4 p6) := by
  unfold b3 at H
  refine Rg V_ok 0 [] az ?_
  rcases of_ite H with ⟨hb7, H⟩ | ⟨hb7, H⟩
  · refine C1 hb7 ?_
    cases H
  · refine C0 hb7 ?_
    refine Rg V_ok 0 [] az ?_
    refine Rg V_ok 0 [] az ?_
    rcases of_ite H with ⟨hb8, H⟩ | ⟨hb8, H⟩
    · refine C1 hb8 ?_
      cases H
    · refine C0 hb8 ?_
      refine Rg V_ok 0 [] az ?_
      exact Jm (tn [0, 1, 2, 6] 2) (hL2 (IntKind.i64.wrap (p2 * 2)) p6 H)
noncomputable def l3 (x1 : Int) (x2 : T26b3.T) (L2 : Int → List T814c.T → Option R) (k : Nat) : Nat → Int → Int → Int → List T814c.T → Option R
  | 0, _, _, _, _ => none
  | m + 1, p2, p3, p4, p6 => b3 x1 x2 L2 (l3 x1 x2 L2 k m) k p2 p3 p4 p6
theorem l3_ok {r x1 x2} {L2 : Int → List T814c.T → Option R} {m2 : Nat} (hL2 : ∀ p2 p4, L2 p2 p4 = some r → Gw P 2 (Q x2 r) (Pb c0 47 [] m2) (s2 x1 x2 p2 p4)) (k : Nat) : ∀ (m3 : Nat) (p2 p3 p4 : Int) (p6 : List T814c.T), l3 x1 x2 L2 k m3 p2 p3 p4 p6 = some r → Gw P 2 (Q x2 r) (Pb c0 2383 [m2] m3) (s3 x1 x2 p2 p3 p4 p6)
  | 0, _, _, _, _, H => by cases H
  | m3 + 1, p2, p3, p4, p6, H => SU (by kernel_rfl) (b3_ok hL2 (l3_ok hL2 k m3) H)
noncomputable def b2 (x1 : Int) (x2 : T26b3.T) (L2 : Int → List T814c.T → Option R) (k : Nat) (p2 : Int) (p4 : List T814c.T) : Option R :=
  if (decide (p2 < x1)) = true then
  l3 x1 x2 L2 k k p2 0 (IntKind.i64.wrap (2 * p2)) p4
else
  some (p4, ())
theorem b2_ok {r x1 x2} {L2 : Int → List T814c.T → Option R} {m2 : Nat} (hL2 : ∀ p2 p4, L2 p2 p4 = some r → Gw P 2 (Q x2 r) (Pb c0 47 [] m2) (s2 x1 x2 p2 p4)) {k p2 p4} (H : b2 x1 x2 L2 k p2 p4 = some r) : Gw P 2 (Q x2 r) (Px c0 79 [m2]) (s2 x1 x2 p2 p4) := by
  unfold b2 at H
  refine Rg V_ok 0 [] az ?_
  rcases of_ite H with ⟨hb6, H⟩ | ⟨hb6, H⟩
  · refine C1 hb6 ?_
    refine Rg V_ok 0 [] az ?_
    exact LP k (Jm (tn [0, 1, 2, 6, 7, 8] 2) (l3_ok hL2 k k p2 0 (IntKind.i64.wrap (2 * p2)) p4 H))
  · refine C0 hb6 ?_
    obtain rfl := Option.some.inj H
    exact Lq (tn [] 2)
noncomputable def l2 (x1 : Int) (x2 : T26b3.T) (k : Nat) : Nat → Int → List T814c.T → Option R
  | 0, _, _ => none
  | m + 1, p2, p4 => b2 x1 x2 (l2 x1 x2 k m) k p2 p4
theorem l2_ok {r x1 x2} (k : Nat) : ∀ (m2 : Nat) (p2 : Int) (p4 : List T814c.T), l2 x1 x2 k m2 p2 p4 = some r → Gw P 2 (Q x2 r) (Pb c0 47 [] m2) (s2 x1 x2 p2 p4)
  | 0, _, _, H => by cases H
  | m2 + 1, p2, p4, H => SU (by kernel_rfl) (b2_ok (l2_ok k m2) H)
noncomputable def b1 (x1 : Int) (x2 : T26b3.T) (L1 : Int → Int → Int → List T814c.T → Option R) (k : Nat) (p2 p3 p4 : Int) (p6 : List T814c.T) : Option R :=
  if (decide (p4 ≤ x1)) = true then
  (i_slices_insertionSortCmpFunc_Ver_2e0.f k p3 p4 x2 p6).bind fun y2 =>
    L1 p2 p4 (IntKind.i64.wrap (p4 + p2)) y2.1
else
  (i_slices_insertionSortCmpFunc_Ver_2e0.f k p3 x1 x2 p6).bind fun y4 =>
    l2 x1 x2 k k p2 y4.1
theorem b1_ok {r x1 x2} {L1 : Int → Int → Int → List T814c.T → Option R} {m1 : Nat} (hL1 : ∀ p2 p3 p4 p6, L1 p2 p3 p4 p6 = some r → Gw P 2 (Q x2 r) (Pb c0 19 [] m1) (s1 x1 x2 p2 p3 p4 p6)) {k p2 p3 p4 p6} (H : b1 x1 x2 L1 k p2 p3 p4 p6 = some r) : Gw P 2 (Q x2 r) (Px c0 35 [m1]) (s1 x1 x2 p2 p3 p4 p6) := by
  unfold b1 at H
  refine Rg V_ok 0 [] az ?_
  rcases of_ite H with ⟨hb1, H⟩ | ⟨hb1, H⟩
  · refine C1 hb1 ?_
    refine GT (tn [0, 1, 2, 6, 7, 8] 2) (RI ?_)
    refine EV V_ok 0 [] 4 az ?_
    obtain ⟨y2, e3, H⟩ := of_bind H
    refine CL V_ok i_slices_insertionSortCmpFunc_Ver_2e0.at_ (i_slices_insertionSortCmpFunc_Ver_2e0.ok e3) ?_
    refine RN ?_
    refine Rg V_ok 0 [] az ?_
    refine Rg V_ok 0 [] az ?_
    exact Jm (tn [0, 1, 2, 6, 7, 8] 2) (hL1 p2 p4 (IntKind.i64.wrap (p4 + p2)) y2.1 H)
  · refine C0 hb1 ?_
    refine GT (tn [0, 1, 2, 6, 7] 2) (RI ?_)
    refine EV V_ok 0 [] 4 az ?_
    obtain ⟨y4, e5, H⟩ := of_bind H
    refine CL V_ok i_slices_insertionSortCmpFunc_Ver_2e0.at_ (i_slices_insertionSortCmpFunc_Ver_2e0.ok e5) ?_
    refine RN ?_
    exact LP k (Jm (tn [0, 1, 2, 6] 2) (l2_ok k k p2 y4.1 H))
noncomputable def l1 (x1 : Int) (x2 : T26b3.T) (k : Nat) : Nat → Int → Int → Int → List T814c.T → Option R
  | 0, _, _, _, _ => none
  | m + 1, p2, p3, p4, p6 => b1 x1 x2 (l1 x1 x2 k m) k p2 p3 p4 p6
theorem l1_ok {r x1 x2} (k : Nat) : ∀ (m1 : Nat) (p2 p3 p4 : Int) (p6 : List T814c.T), l1 x1 x2 k m1 p2 p3 p4 p6 = some r → Gw P 2 (Q x2 r) (Pb c0 19 [] m1) (s1 x1 x2 p2 p3 p4 p6)
  | 0, _, _, _, _, H => by cases H
  | m1 + 1, p2, p3, p4, p6, H => SU (by kernel_rfl) (b1_ok (l1_ok k m1) H)
noncomputable def f (k : Nat) (x1 : Int) (x2 : T26b3.T) (x3 : List T814c.T) : Option R :=
  l1 x1 x2 k k 20 0 20 x3
theorem f_ok {r k x1 x2 x3} (H : f k x1 x2 x3 = some r) : Gw P 2 (Q x2 r) (Px c0 1 []) (s0 x1 x2 x3) := by
  unfold f at H
  refine Rg V_ok 0 [] az ?_
  refine Rg V_ok 0 [] az ?_
  exact LP k (Jm (tn [0, 1, 2, 6, 7, 8] 2) (l1_ok k k 20 0 20 x3 H))
theorem ok {r k x1 x2 x3} (H : f k x1 x2 x3 = some r) : W P 2 c0 (s0 x1 x2 x3) (CallQ 2 (out x2 r)) := of_G (f_ok H)
theorem at_ : FnAt P 81 63 c0 Go.Proofs.Try.f81.results := fnAt Go.Proofs.Try.func81 (by kernel_rfl) (by decide) (by kernel_rfl) (by kernel_rfl)
end i_slices_stableCmpFunc_Ver_2ec
/-! ### function 63, slices.SortStableFunc[[]wayfinder/api.Ver,wayfinder/api.Ver], where it is called -/
namespace i_slices_SortStableFunc_Ver_885
noncomputable def c0 : Code := (Go.Proofs.Try.f63.body).getD .skip
noncomputable def V : Env := { tt := tt, Γ := slk [] }
theorem V_ok : EnvOk P V := { ck := tt_ck, fits := slk_nil, mixed := mixed }
abbrev R := (List T814c.T) × Unit
noncomputable def s0 (x1 : T26b3.T) (x2 : List T814c.T) : St := ⟨9, [(0, .cv (.one (.own 1))), (1, .cv (.one (.fn 64 [] [])))], [(.box 13, (encC .any T26b3 x1)), (.buf 76 T814c x2, [])]⟩
noncomputable def out (x1 : T26b3.T) (r : R) : St := ⟨9, [], [(.box 13, (encC .any T26b3 x1)), (.buf 76 T814c r.1, [])]⟩
abbrev Q (x1 : T26b3.T) (r : R) := CallQ 2 (out x1 r)
noncomputable def f (k : Nat) (x1 : T26b3.T) (x2 : List T814c.T) : Option R :=
  (i_slices_stableCmpFunc_Ver_2ec.f k (x2.length : Int) x1 x2).bind fun y1 =>
    some (y1.1, ())
theorem f_ok {r k x1 x2} (H : f k x1 x2 = some r) : Gw P 2 (Q x1 r) (Px c0 1 []) (s0 x1 x2) := by
  unfold f at H
  refine GT (tn [0, 1] 2) (RI ?_)
  refine EV V_ok 0 [] 4 az ?_
  obtain ⟨y1, e2, H⟩ := of_bind H
  refine CL V_ok i_slices_stableCmpFunc_Ver_2ec.at_ (i_slices_stableCmpFunc_Ver_2ec.ok e2) ?_
  refine RN ?_
  obtain rfl := Option.some.inj H
  exact Lq (tn [] 2)
theorem ok {r k x1 x2} (H : f k x1 x2 = some r) : W P 2 c0 (s0 x1 x2) (CallQ 2 (out x1 r)) := of_G (f_ok H)
theorem at_ : FnAt P 63 9 c0 Go.Proofs.Try.f63.results := fnAt Go.Proofs.Try.func63 (by kernel_rfl) (by decide) (by kernel_rfl) (by kernel_rfl)
end i_slices_SortStableFunc_Ver_885
/-! ### function 65, (*wayfinder/control.controller).flips, where it is called -/
namespace i_control_controller_flips_ebc
noncomputable def c0 : Code := (Go.Proofs.Try.f65.body).getD .skip
noncomputable def V : Env := { tt := tt, Γ := slk [] }
theorem V_ok : EnvOk P V := { ck := tt_ck, fits := slk_nil, mixed := mixed }
abbrev R := (Bool) × Unit
noncomputable def s0 (x1 : T26b3.T) (x2 : List T814c.T) : St := ⟨17, [(0, .cv (.one (.ptr 0 0)))], [(.box 13, (encC .any T26b3 x1)), (.buf 76 T814c x2, [])]⟩
noncomputable def out (x1 : T26b3.T) (x2 : List T814c.T) (r : R) : St := ⟨17, [(2, .cv (.one (.bool r.1)))], [(.box 13, (encC .any T26b3 x1)), (.buf 76 T814c x2, [])]⟩
abbrev Q (x1 : T26b3.T) (x2 : List T814c.T) (r : R) := CallQ 2 (out x1 x2 r)
noncomputable def f (k : Nat) (x1 : T26b3.T) (x2 : List T814c.T) : Option R :=
  if (x1.2.2.2.2.2.1 == (2 : Int)) = true then
    some (true, ())
  else
    some ((x1.2.2.2.2.2.1 == (3 : Int)), ())
theorem f_ok {r k x1 x2} (H : f k x1 x2 = some r) : Gw P 2 (Q x1 x2 r) (Px c0 1 []) (s0 x1 x2) := by
  unfold f at H
  refine Rg V_ok 0 [] az ?_
  rcases of_ite H with ⟨hb1, H⟩ | ⟨hb1, H⟩
  · refine Rg V_ok 0 [(5, {bv := some true})] (ac hb1 az) ?_
    obtain rfl := Option.some.inj H
    exact Lq (tn [2] 2)
  · refine Rg V_ok 0 [(5, {bv := some false})] (ac hb1 az) ?_
    obtain rfl := Option.some.inj H
    exact Lq (tn [2] 2)
theorem ok {r k x1 x2} (H : f k x1 x2 = some r) : W P 2 c0 (s0 x1 x2) (CallQ 2 (out x1 x2 r)) := of_G (f_ok H)
theorem at_ : FnAt P 65 17 c0 Go.Proofs.Try.f65.results := fnAt Go.Proofs.Try.func65 (by kernel_rfl) (by decide) (by kernel_rfl) (by kernel_rfl)
end i_control_controller_flips_ebc
/-! ### function 65, (*wayfinder/control.controller).flips, where it is called -/
namespace i_control_controller_flips_e28
noncomputable def c0 : Code := (Go.Proofs.Try.f65.body).getD .skip
noncomputable def V : Env := { tt := tt, Γ := slk [] }
theorem V_ok : EnvOk P V := { ck := tt_ck, fits := slk_nil, mixed := mixed }
abbrev R := (Bool) × Unit
noncomputable def s0 (x1 : T26b3.T) : St := ⟨17, [(0, .cv (.one (.ptr 0 0)))], [(.box 13, (encC .any T26b3 x1))]⟩
noncomputable def out (x1 : T26b3.T) (r : R) : St := ⟨17, [(2, .cv (.one (.bool r.1)))], [(.box 13, (encC .any T26b3 x1))]⟩
abbrev Q (x1 : T26b3.T) (r : R) := CallQ 1 (out x1 r)
noncomputable def f (k : Nat) (x1 : T26b3.T) : Option R :=
  if (x1.2.2.2.2.2.1 == (2 : Int)) = true then
    some (true, ())
  else
    some ((x1.2.2.2.2.2.1 == (3 : Int)), ())
theorem f_ok {r k x1} (H : f k x1 = some r) : Gw P 1 (Q x1 r) (Px c0 1 []) (s0 x1) := by
  unfold f at H
  refine Rg V_ok 0 [] az ?_
  rcases of_ite H with ⟨hb1, H⟩ | ⟨hb1, H⟩
  · refine Rg V_ok 0 [(5, {bv := some true})] (ac hb1 az) ?_
    obtain rfl := Option.some.inj H
    exact Lq (tn [2] 1)
  · refine Rg V_ok 0 [(5, {bv := some false})] (ac hb1 az) ?_
    obtain rfl := Option.some.inj H
    exact Lq (tn [2] 1)
theorem ok {r k x1} (H : f k x1 = some r) : W P 1 c0 (s0 x1) (CallQ 1 (out x1 r)) := of_G (f_ok H)
theorem at_ : FnAt P 65 17 c0 Go.Proofs.Try.f65.results := fnAt Go.Proofs.Try.func65 (by kernel_rfl) (by decide) (by kernel_rfl) (by kernel_rfl)
end i_control_controller_flips_e28
/-! ### function 46, (*wayfinder/control.controller).live, where it is called -/
namespace i_control_controller_live_258
noncomputable def c0 : Code := (Go.Proofs.Try.f46.body).getD .skip
noncomputable def V : Env := { tt := tt, Γ := slk [(54, f_conf_At.S)] }
theorem V_ok : EnvOk P V := { ck := tt_ck, fits := slk_cons f_conf_At.fits (slk_nil), mixed := mixed }
abbrev R := (List T814c.T) × (Int) × Unit
noncomputable def s0 (x1 : Int) (x2 : T26b3.T) : St := ⟨70, [(0, .cv (.one (.ptr 0 0))), (1, .cv (.one (.i x1)))], [(.box 13, (encC .any T26b3 x2))]⟩
noncomputable def out (x2 : T26b3.T) (r : R) : St := ⟨70, [(4, .cv (.one (.sl T814c r.1 .any))), (5, .cv (.one (.i r.2.1)))], [(.box 13, (encC .any T26b3 x2))]⟩
abbrev Q (x2 : T26b3.T) (r : R) := CallQ 1 (out x2 r)
noncomputable def s2 (x2 : T26b3.T) (p1 : Int) (p3 : List T814c.T) : St := ⟨70, [(0, .cv (.one (.ptr 0 0))), (6, .cv (.one (.own 1))), (7, .cv (.one (.i p1)))], [(.box 13, (encC .any T26b3 x2)), (.buf 76 T814c p3, [])]⟩
noncomputable def s4 (x2 : T26b3.T) (p1 : Int) (p2 : Bool) (p4 : List T814c.T) : St := ⟨70, [(0, .cv (.one (.ptr 0 0))), (6, .cv (.one (.own 1))), (7, .cv (.one (.i p1))), (62, .cv (.one (.bool p2)))], [(.box 13, (encC .any T26b3 x2)), (.buf 76 T814c p4, [])]⟩
noncomputable def s6 (x2 : T26b3.T) (p2 : List T814c.T) : St := ⟨70, [(0, .cv (.one (.ptr 0 0))), (6, .cv (.one (.own 1)))], [(.box 13, (encC .any T26b3 x2)), (.buf 76 T814c p2, [])]⟩
noncomputable def s1 (x2 : T26b3.T) (p1 : Int) (p3 : List T814c.T) : St := ⟨70, [(6, .cv (.one (.own 1))), (7, .cv (.one (.i p1)))], [(.box 13, (encC .any T26b3 x2)), (.buf 76 T814c p3, [])]⟩
noncomputable def j1 (x2 : T26b3.T) (k : Nat) (p1 : Int) (p3 : List T814c.T) : Option R :=
  some (p3, (p1, ()))
theorem j1_ok {r x2} {k p1 p3} (H : j1 x2 k p1 p3 = some r) : Gw P 1 (Q x2 r) (Px c0 31 []) (s1 x2 p1 p3) := by
  unfold j1 at H
  refine Rg V_ok 0 [] az ?_
  obtain rfl := Option.some.inj H
  exact Lq {fz := [1], gr := 0, ad := [], live := [4, 5], src := [some 0]}
noncomputable def j6 (x2 : T26b3.T) (k : Nat) (p2 : List T814c.T) : Option R :=
  j1 x2 k x2.2.2.2.2.1 p2
theorem j6_ok {r x2} {k p2} (H : j6 x2 k p2 = some r) : Gw P 1 (Q x2 r) (Px c0 87 []) (s6 x2 p2) := by
  unfold j6 at H
  refine Rg V_ok 0 [] az ?_
  exact Jm (tn [6, 7] 2) (j1_ok H)
noncomputable def j4 (x2 : T26b3.T) (k : Nat) (p1 : Int) (p2 : Bool) (p4 : List T814c.T) : Option R :=
  if p2 = true then
  j6 x2 k p4
else
  j1 x2 k p1 p4
theorem j4_ok {r x2} {k p1 p2 p4} (H : j4 x2 k p1 p2 p4 = some r) : Gw P 1 (Q x2 r) (Px c0 55 []) (s4 x2 p1 p2 p4) := by
  unfold j4 at H
  rcases of_ite H with ⟨hb16, H⟩ | ⟨hb16, H⟩
  · refine C1 hb16 ?_
    exact Jm (tn [0, 6] 2) (j6_ok H)
  · refine C0 hb16 ?_
    exact Jm (tn [6, 7] 2) (j1_ok H)
noncomputable def j2 (x2 : T26b3.T) (k : Nat) (p1 : Int) (p3 : List T814c.T) : Option R :=
  (i_control_controller_flips_ebc.f k x2 p3).bind fun y14 =>
  j4 x2 k p1 y14.1 p3
theorem j2_ok {r x2} {k p1 p3} (H : j2 x2 k p1 p3 = some r) : Gw P 1 (Q x2 r) (Px c0 15 []) (s2 x2 p1 p3) := by
  unfold j2 at H
  refine GT (tn [0, 6, 7] 2) (RI ?_)
  refine EV V_ok 0 [] 1 az ?_
  obtain ⟨y14, e15, H⟩ := of_bind H
  refine CL V_ok i_control_controller_flips_ebc.at_ (i_control_controller_flips_ebc.ok e15) ?_
  refine RN ?_
  exact Jm (tn [0, 6, 7, 62] 2) (j4_ok H)
noncomputable def s3 (x2 : T26b3.T) (p1 : List T814c.T) (p2 : Int) : St := ⟨70, [(0, .cv (.one (.ptr 0 0))), (6, .cv (.one (.sl T814c p1 .full))), (7, .cv (.one (.i p2)))], [(.box 13, (encC .any T26b3 x2))]⟩
noncomputable def s5 (x2 : T26b3.T) (p1 : List T814c.T) (p2 : Int) (p3 : Bool) : St := ⟨70, [(0, .cv (.one (.ptr 0 0))), (6, .cv (.one (.sl T814c p1 .full))), (7, .cv (.one (.i p2))), (62, .cv (.one (.bool p3)))], [(.box 13, (encC .any T26b3 x2))]⟩
noncomputable def s7 (x2 : T26b3.T) (p1 : List T814c.T) : St := ⟨70, [(0, .cv (.one (.ptr 0 0))), (6, .cv (.one (.sl T814c p1 .full)))], [(.box 13, (encC .any T26b3 x2))]⟩
noncomputable def s8 (x2 : T26b3.T) (p1 : List T814c.T) (p2 : Int) : St := ⟨70, [(6, .cv (.one (.sl T814c p1 .full))), (7, .cv (.one (.i p2)))], [(.box 13, (encC .any T26b3 x2))]⟩
noncomputable def j8 (x2 : T26b3.T) (k : Nat) (p1 : List T814c.T) (p2 : Int) : Option R :=
  some (p1, (p2, ()))
theorem j8_ok {r x2} {k p1 p2} (H : j8 x2 k p1 p2 = some r) : Gw P 1 (Q x2 r) (Px c0 31 []) (s8 x2 p1 p2) := by
  unfold j8 at H
  refine Rg V_ok 0 [] az ?_
  obtain rfl := Option.some.inj H
  exact Lq {fz := [], gr := 0, ad := [.tmp 4 (.any)], live := [4, 5], src := [some 0]}
noncomputable def j7 (x2 : T26b3.T) (k : Nat) (p1 : List T814c.T) : Option R :=
  j8 x2 k p1 x2.2.2.2.2.1
theorem j7_ok {r x2} {k p1} (H : j7 x2 k p1 = some r) : Gw P 1 (Q x2 r) (Px c0 87 []) (s7 x2 p1) := by
  unfold j7 at H
  refine Rg V_ok 0 [] az ?_
  exact Jm (tn [6, 7] 1) (j8_ok H)
noncomputable def j5 (x2 : T26b3.T) (k : Nat) (p1 : List T814c.T) (p2 : Int) (p3 : Bool) : Option R :=
  if p3 = true then
  j7 x2 k p1
else
  j8 x2 k p1 p2
theorem j5_ok {r x2} {k p1 p2 p3} (H : j5 x2 k p1 p2 p3 = some r) : Gw P 1 (Q x2 r) (Px c0 55 []) (s5 x2 p1 p2 p3) := by
  unfold j5 at H
  rcases of_ite H with ⟨hb19, H⟩ | ⟨hb19, H⟩
  · refine C1 hb19 ?_
    exact Jm (tn [0, 6] 1) (j7_ok H)
  · refine C0 hb19 ?_
    exact Jm (tn [6, 7] 1) (j8_ok H)
noncomputable def j3 (x2 : T26b3.T) (k : Nat) (p1 : List T814c.T) (p2 : Int) : Option R :=
  (i_control_controller_flips_e28.f k x2).bind fun y17 =>
  j5 x2 k p1 p2 y17.1
theorem j3_ok {r x2} {k p1 p2} (H : j3 x2 k p1 p2 = some r) : Gw P 1 (Q x2 r) (Px c0 15 []) (s3 x2 p1 p2) := by
  unfold j3 at H
  refine GT (tn [0, 6, 7] 1) (RI ?_)
  refine EV V_ok 0 [] 1 az ?_
  obtain ⟨y17, e18, H⟩ := of_bind H
  refine CL V_ok i_control_controller_flips_e28.at_ (i_control_controller_flips_e28.ok e18) ?_
  refine RN ?_
  exact Jm (tn [0, 6, 7, 62] 1) (j5_ok H)
noncomputable def f (k : Nat) (x1 : Int) (x2 : T26b3.T) : Option R :=
  if 0 ≤ x2.2.1 then
    if x2.2.1 < (x2.1.length : Int) then
      (f_conf_At.f k (att (.slice (.slice T1383)) x2.1 x2.2.1) x1).bind fun y1 =>
        (i_control_controller_two_e28.f k x2).bind fun y5 =>
          if y5.1 = true then
            if 0 ≤ x2.2.2.1 then
              if x2.2.2.1 < (x2.1.length : Int) then
                (f_conf_At.f k (att (.slice (.slice T1383)) x2.1 x2.2.2.1) x1).bind fun y8 =>
                  (i_slices_SortStableFunc_Ver_885.f k x2 [(x2.2.2.2.1, y1.1), (x2.2.2.2.2.1, y8.1)]).bind fun y12 =>
                    j2 x2 k x2.2.2.2.1 y12.1
              else none
            else none
          else
            j3 x2 k [(x2.2.2.2.1, y1.1)] x2.2.2.2.1
    else none
  else none
theorem f_ok {r k x1 x2} (H : f k x1 x2 = some r) : Gw P 1 (Q x2 r) (Px c0 1 []) (s0 x1 x2) := by
  unfold f at H
  refine Rg V_ok 0 [] az ?_
  obtain ⟨n2, H⟩ := of_if H
  obtain ⟨n3, H⟩ := of_if H
  obtain ⟨y1, e4, H⟩ := of_bind H
  refine Rg V_ok 0 [(18, hr f_conf_At.S y1)] (ac n2 (ac n3 (ac (f_conf_At.rl e4) az))) ?_
  refine GT (tn [0, 1, 6, 7] 1) (RI ?_)
  refine EV V_ok 0 [] 1 az ?_
  obtain ⟨y5, e6, H⟩ := of_bind H
  refine CL V_ok i_control_controller_two_e28.at_ (i_control_controller_two_e28.ok e6) ?_
  refine RN ?_
  rcases of_ite H with ⟨hb7, H⟩ | ⟨hb7, H⟩
  · refine C1 hb7 ?_
    obtain ⟨n9, H⟩ := of_if H
    obtain ⟨n10, H⟩ := of_if H
    obtain ⟨y8, e11, H⟩ := of_bind H
    refine Rg V_ok 1 [(19, hr f_conf_At.S y8), (22, hb 1)] (ac n9 (ac n10 (ac (f_conf_At.rl e11) (ac (show (1 + 1) * 32 ≤ 140737488355328 by decide) (ac (show 1 = 0 ∨ 0 < 1 by decide) az))))) ?_
    refine GT (tn [0, 6, 7] 2) (RI ?_)
    refine EV V_ok 0 [] 1 az ?_
    obtain ⟨y12, e13, H⟩ := of_bind H
    refine CL V_ok i_slices_SortStableFunc_Ver_885.at_ (i_slices_SortStableFunc_Ver_885.ok e13) ?_
    refine RN ?_
    exact Jm (tn [0, 6, 7] 2) (j2_ok H)
  · refine C0 hb7 ?_
    exact Jm (tn [0, 6, 7] 1) (j3_ok H)
theorem ok {r k x1 x2} (H : f k x1 x2 = some r) : W P 1 c0 (s0 x1 x2) (CallQ 1 (out x2 r)) := of_G (f_ok H)
theorem at_ : FnAt P 46 70 c0 Go.Proofs.Try.f46.results := fnAt Go.Proofs.Try.func46 (by kernel_rfl) (by decide) (by kernel_rfl) (by kernel_rfl)
end i_control_controller_live_258
/-! ### function 30, wayfinder/control.Live -/
namespace f_control_Live
noncomputable def c0 : Code := (Go.Proofs.Try.f30.body).getD .skip
abbrev ps : Sg := [(true, T26b3), (false, (.int .i64))]
abbrev rs : Sg := [(false, (.slice T814c)), (false, (.int .i64))]
noncomputable def V : Env := { tt := tt, Γ := slk [] }
theorem V_ok : EnvOk P V := { ck := tt_ck, fits := slk_nil, mixed := mixed }
abbrev R := Tup rs
noncomputable abbrev Q (r : R) : Exit → St → Prop := Qr tt Go.Proofs.Try.f30.results ⟨ps, rs, .any, none, fun _ _ => True⟩ r
noncomputable def f (k : Nat) (a1 : T26b3.T) (a2 : Int) : Option R :=
  (i_control_controller_is_e28.f k a1).bind fun y1 =>
    if y1.1 = true then
      (i_control_controller_live_258.f k a2 a1).bind fun y4 =>
        some (y4.1, (y4.2.1, ()))
    else
      some ([], ((0 : Int), ()))
noncomputable def S : Spec := ⟨ps, rs, .any, none, fun x r => ∃ k, f k x.1 x.2.1 = some r⟩
theorem rl {k a1 a2 r} (e : f k a1 a2 = some r) : S.rel (a1, a2, ()) r := ⟨k, e⟩
theorem f_ok {r k a1 a2} (H : f k a1 a2 = some r) : Gw P 0 (Q r) (Px c0 1 []) (⟨17, [(0, .cv (.agg (encC .any T26b3 a1))), (1, .cv (.one (.i a2)))], []⟩) := by
  unfold f at H
  refine Rg V_ok 1 [(0, hb 0)] az ?_
  refine Rg V_ok 1 [(2, hb 1)] az ?_
  refine GT (tl [1, 6] [1]) (RI ?_)
  refine EV V_ok 0 [] 1 az ?_
  obtain ⟨y1, e2, H⟩ := of_bind H
  refine CL V_ok i_control_controller_is_e28.at_ (i_control_controller_is_e28.ok e2) ?_
  refine RN ?_
  rcases of_ite H with ⟨hb3, H⟩ | ⟨hb3, H⟩
  · refine C1 hb3 ?_
    refine GT (tn [1, 6] 1) (RI ?_)
    refine EV V_ok 0 [] 2 az ?_
    obtain ⟨y4, e5, H⟩ := of_bind H
    refine CL V_ok i_control_controller_live_258.at_ (i_control_controller_live_258.ok e5) ?_
    refine EV V_ok 0 [] 4 az ?_
    refine RN ?_
    exact Lf (Eq.trans (by kernel_rfl) H)
  · refine C0 hb3 ?_
    refine Rg V_ok 0 [] az ?_
    exact Lf (Eq.trans (by kernel_rfl) H)
theorem fits : Fits P 30 S := fits_of V_ok Go.Proofs.Try.func30 (by kernel_rfl) (by decide) (by decide) rfl (fun x r ⟨k, H⟩ => of_G (f_ok H))
end f_control_Live
/-! ### function 61, (*wayfinder/control.controller).two, where it is called -/
namespace i_control_controller_two_e61m
noncomputable def c0 : Code := (Go.Proofs.Try.f61.body).getD .skip
noncomputable def V : Env := { tt := tt, Γ := slk [(79, f_slices_Contains_int.S)] }
theorem V_ok : EnvOk P V := { ck := tt_ck, fits := slk_cons f_slices_Contains_int.fits (slk_nil), mixed := mixed }
abbrev R := (Bool) × Unit
noncomputable def s0 (x1 : T26b3.T) : St := ⟨10, [(0, .cv (.one (.ptr 0 0)))], [(.box 13, (encC .any T26b3 x1)), (.box 1, [.ptr 0 0])]⟩
noncomputable def out (x1 : T26b3.T) (r : R) : St := ⟨10, [(2, .cv (.one (.bool r.1)))], [(.box 13, (encC .any T26b3 x1)), (.box 1, [.ptr 0 0])]⟩
abbrev Q (x1 : T26b3.T) (r : R) := CallQ 2 (out x1 r)
noncomputable def f (k : Nat) (x1 : T26b3.T) : Option R :=
  (f_slices_Contains_int.f k [1, 2, 3] x1.2.2.2.2.2.1).bind fun y1 =>
    some (y1.1, ())
theorem f_ok {r k x1} (H : f k x1 = some r) : Gw P 2 (Q x1 r) (Px c0 1 []) (s0 x1) := by
  unfold f at H
  refine Rg V_ok 0 [] az ?_
  obtain ⟨y1, e2, H⟩ := of_bind H
  refine Rg V_ok 0 [(6, hr f_slices_Contains_int.S y1)] (ac (f_slices_Contains_int.rl e2) az) ?_
  obtain rfl := Option.some.inj H
  exact Lq (tn [2] 2)
theorem ok {r k x1} (H : f k x1 = some r) : W P 2 c0 (s0 x1) (CallQ 2 (out x1 r)) := of_G (f_ok H)
theorem at_ : FnAt P 61 10 c0 Go.Proofs.Try.f61.results := fnAt Go.Proofs.Try.func61 (by kernel_rfl) (by decide) (by kernel_rfl) (by kernel_rfl)
end i_control_controller_two_e61m
/-! ### function 60, (*wayfinder/control.controller).is$1, where it is called -/
namespace i_control_controller_is_1_797m
noncomputable def c0 : Code := (Go.Proofs.Try.f60.body).getD .skip
noncomputable def V : Env := { tt := tt, Γ := slk [] }
theorem V_ok : EnvOk P V := { ck := tt_ck, fits := slk_nil, mixed := mixed }
abbrev R := (Bool) × Unit
noncomputable def s0 (x1 : Int) (x2 : T26b3.T) : St := ⟨16, [(0, .cv (.one (.i x1))), (1, .cv (.one (.ptr 1 0)))], [(.box 13, (encC .any T26b3 x2)), (.box 1, [.ptr 0 0])]⟩
noncomputable def out (x2 : T26b3.T) (r : R) : St := ⟨16, [(3, .cv (.one (.bool r.1)))], [(.box 13, (encC .any T26b3 x2)), (.box 1, [.ptr 0 0])]⟩
abbrev Q (x2 : T26b3.T) (r : R) := CallQ 2 (out x2 r)
noncomputable def f (k : Nat) (x1 : Int) (x2 : T26b3.T) : Option R :=
  if (decide (x1 < (0 : Int))) = true then
    some (true, ())
  else
    some ((decide (x1 ≥ (x2.1.length : Int))), ())
theorem f_ok {r k x1 x2} (H : f k x1 x2 = some r) : Gw P 2 (Q x2 r) (Px c0 1 []) (s0 x1 x2) := by
  unfold f at H
  refine Rg V_ok 0 [] az ?_
  rcases of_ite H with ⟨hb1, H⟩ | ⟨hb1, H⟩
  · refine Rg V_ok 0 [(1, {bv := some true})] (ac hb1 az) ?_
    obtain rfl := Option.some.inj H
    exact Lq (tn [3] 2)
  · refine Rg V_ok 0 [(1, {bv := some false})] (ac hb1 az) ?_
    obtain rfl := Option.some.inj H
    exact Lq (tn [3] 2)
theorem ok {r k x1 x2} (H : f k x1 x2 = some r) : W P 2 c0 (s0 x1 x2) (CallQ 2 (out x2 r)) := of_G (f_ok H)
theorem at_ : FnAt P 60 16 c0 Go.Proofs.Try.f60.results := fnAt Go.Proofs.Try.func60 (by kernel_rfl) (by decide) (by kernel_rfl) (by kernel_rfl)
end i_control_controller_is_1_797m
/-! ### function 80, slices.IndexFunc[[]int,int], where it is called -/
namespace i_slices_IndexFunc_int_a51m
noncomputable def c0 : Code := (Go.Proofs.Try.f80.body).getD .skip
noncomputable def V : Env := { tt := tt, Γ := slk [] }
theorem V_ok : EnvOk P V := { ck := tt_ck, fits := slk_nil, mixed := mixed }
abbrev R := (Int) × Unit
noncomputable def s0 (x1 : List Int) (x2 : T26b3.T) : St := ⟨19, [(0, .cv (.one (.sl (.int .i64) x1 .any))), (1, .cv (.one (.fn 60 [] [(1, 0)])))], [(.box 13, (encC .any T26b3 x2)), (.box 1, [.ptr 0 0])]⟩
noncomputable def out (x2 : T26b3.T) (r : R) : St := ⟨19, [(4, .cv (.one (.i r.1)))], [(.box 13, (encC .any T26b3 x2)), (.box 1, [.ptr 0 0])]⟩
abbrev Q (x2 : T26b3.T) (r : R) := CallQ 2 (out x2 r)
noncomputable def s1 (x1 : List Int) (x2 : T26b3.T) (p2 p3 : Int) : St := ⟨19, [(0, .cv (.one (.sl (.int .i64) x1 .any))), (1, .cv (.one (.fn 60 [] [(1, 0)]))), (7, .cv (.one (.i p2))), (8, .cv (.one (.i p3)))], [(.box 13, (encC .any T26b3 x2)), (.box 1, [.ptr 0 0])]⟩
noncomputable def b1 (x1 : List Int) (x2 : T26b3.T) (L1 : Int → Int → Option R) (k : Nat) (p2 p3 : Int) : Option R :=
  if (decide (p3 < p2)) = true then
  if 0 ≤ p3 then
    if p3 < (x1.length : Int) then
      (i_control_controller_is_1_797m.f k (att (.int .i64) x1 p3) x2).bind fun y4 =>
        if y4.1 = true then
          some (p3, ())
        else
          L1 p2 (IntKind.i64.wrap (p3 + 1))
    else none
  else none
else
  some ((-1), ())
theorem b1_ok {r x1 x2} {L1 : Int → Int → Option R} {m1 : Nat} (hL1 : ∀ p2 p3, L1 p2 p3 = some r → Gw P 2 (Q x2 r) (Pb c0 21 [] m1) (s1 x1 x2 p2 p3)) {k p2 p3} (H : b1 x1 x2 L1 k p2 p3 = some r) : Gw P 2 (Q x2 r) (Px c0 37 [m1]) (s1 x1 x2 p2 p3) := by
  unfold b1 at H
  refine Rg V_ok 0 [] az ?_
  rcases of_ite H with ⟨hb1, H⟩ | ⟨hb1, H⟩
  · refine C1 hb1 ?_
    refine Rg V_ok 0 [] az ?_
    refine GT (tn [0, 1, 5, 7, 8] 2) (RI ?_)
    obtain ⟨n2, H⟩ := of_if H
    obtain ⟨n3, H⟩ := of_if H
    refine EV V_ok 0 [] 5 (ac n2 (ac n3 az)) ?_
    obtain ⟨y4, e5, H⟩ := of_bind H
    refine CL V_ok i_control_controller_is_1_797m.at_ (i_control_controller_is_1_797m.ok e5) ?_
    refine RN ?_
    rcases of_ite H with ⟨hb6, H⟩ | ⟨hb6, H⟩
    · refine C1 hb6 ?_
      refine Rg V_ok 0 [] az ?_
      obtain rfl := Option.some.inj H
      exact Lq (tn [4] 2)
    · refine C0 hb6 ?_
      refine Rg V_ok 0 [] az ?_
      exact Jm (tn [0, 1, 7, 8] 2) (hL1 p2 (IntKind.i64.wrap (p3 + 1)) H)
  · refine C0 hb1 ?_
    refine Rg V_ok 0 [] az ?_
    obtain rfl := Option.some.inj H
    exact Lq (tn [4] 2)
noncomputable def l1 (x1 : List Int) (x2 : T26b3.T) (k : Nat) : Nat → Int → Int → Option R
  | 0, _, _ => none
  | m + 1, p2, p3 => b1 x1 x2 (l1 x1 x2 k m) k p2 p3
theorem l1_ok {r x1 x2} (k : Nat) : ∀ (m1 : Nat) (p2 : Int) (p3 : Int), l1 x1 x2 k m1 p2 p3 = some r → Gw P 2 (Q x2 r) (Pb c0 21 [] m1) (s1 x1 x2 p2 p3)
  | 0, _, _, H => by cases H
  | m1 + 1, p2, p3, H => SU (by kernel_rfl) (b1_ok (l1_ok k m1) H)
noncomputable def f (k : Nat) (x1 : List Int) (x2 : T26b3.T) : Option R :=
  l1 x1 x2 k k (x1.length : Int) 0
theorem f_ok {r k x1 x2} (H : f k x1 x2 = some r) : Gw P 2 (Q x2 r) (Px c0 1 []) (s0 x1 x2) := by
  unfold f at H
  refine Rg V_ok 0 [] az ?_
  refine Rg V_ok 0 [] az ?_
  exact LP k (Jm (tn [0, 1, 7, 8] 2) (l1_ok k k (x1.length : Int) 0 H))
theorem ok {r k x1 x2} (H : f k x1 x2 = some r) : W P 2 c0 (s0 x1 x2) (CallQ 2 (out x2 r)) := of_G (f_ok H)
theorem at_ : FnAt P 80 19 c0 Go.Proofs.Try.f80.results := fnAt Go.Proofs.Try.func80 (by kernel_rfl) (by decide) (by kernel_rfl) (by kernel_rfl)
end i_slices_IndexFunc_int_a51m
/-! ### function 62, slices.ContainsFunc[[]int,int], where it is called -/
namespace i_slices_ContainsFunc_int_a51m
noncomputable def c0 : Code := (Go.Proofs.Try.f62.body).getD .skip
noncomputable def V : Env := { tt := tt, Γ := slk [] }
theorem V_ok : EnvOk P V := { ck := tt_ck, fits := slk_nil, mixed := mixed }
abbrev R := (Bool) × Unit
noncomputable def s0 (x1 : List Int) (x2 : T26b3.T) : St := ⟨9, [(0, .cv (.one (.sl (.int .i64) x1 .any))), (1, .cv (.one (.fn 60 [] [(1, 0)])))], [(.box 13, (encC .any T26b3 x2)), (.box 1, [.ptr 0 0])]⟩
noncomputable def out (x2 : T26b3.T) (r : R) : St := ⟨9, [(4, .cv (.one (.bool r.1)))], [(.box 13, (encC .any T26b3 x2)), (.box 1, [.ptr 0 0])]⟩
abbrev Q (x2 : T26b3.T) (r : R) := CallQ 2 (out x2 r)
noncomputable def f (k : Nat) (x1 : List Int) (x2 : T26b3.T) : Option R :=
  (i_slices_IndexFunc_int_a51m.f k x1 x2).bind fun y1 =>
    some ((decide (y1.1 ≥ (0 : Int))), ())
theorem f_ok {r k x1 x2} (H : f k x1 x2 = some r) : Gw P 2 (Q x2 r) (Px c0 1 []) (s0 x1 x2) := by
  unfold f at H
  refine Rg V_ok 0 [] az ?_
  refine GT (tn [0, 1] 2) (RI ?_)
  refine EV V_ok 0 [] 2 az ?_
  obtain ⟨y1, e2, H⟩ := of_bind H
  refine CL V_ok i_slices_IndexFunc_int_a51m.at_ (i_slices_IndexFunc_int_a51m.ok e2) ?_
  refine EV V_ok 0 [] 2 az ?_
  refine RN ?_
  obtain rfl := Option.some.inj H
  exact Lq (tn [4] 2)
theorem ok {r k x1 x2} (H : f k x1 x2 = some r) : W P 2 c0 (s0 x1 x2) (CallQ 2 (out x2 r)) := of_G (f_ok H)
theorem at_ : FnAt P 62 9 c0 Go.Proofs.Try.f62.results := fnAt Go.Proofs.Try.func62 (by kernel_rfl) (by decide) (by kernel_rfl) (by kernel_rfl)
end i_slices_ContainsFunc_int_a51m
/-! ### function 45, (*wayfinder/control.controller).is, where it is called -/
namespace i_control_controller_is_e28m
noncomputable def c0 : Code := (Go.Proofs.Try.f45.body).getD .skip
noncomputable def V : Env := { tt := tt, Γ := slk [] }
theorem V_ok : EnvOk P V := { ck := tt_ck, fits := slk_nil, mixed := mixed }
abbrev R := (Bool) × Unit
noncomputable def s0 (x1 : T26b3.T) : St := ⟨57, [(0, .cv (.one (.ptr 0 0)))], [(.box 13, (encC .any T26b3 x1))]⟩
noncomputable def out (x1 : T26b3.T) (r : R) : St := ⟨57, [(2, .cv (.one (.bool r.1)))], [(.box 13, (encC .any T26b3 x1))]⟩
abbrev Q (x1 : T26b3.T) (r : R) := CallQ 1 (out x1 r)
noncomputable def s1 (x1 : T26b3.T) (p1 : Bool) : St := ⟨57, [(1, .cv (.one (.ptr 1 0))), (3, .cv (.one (.fn 60 [] [(1, 0)]))), (4, .cv (.one (.bool p1)))], [(.box 13, (encC .any T26b3 x1)), (.box 1, [.ptr 0 0])]⟩
noncomputable def j1 (x1 : T26b3.T) (k : Nat) (p1 : Bool) : Option R :=
  if p1 = true then
  (i_control_controller_is_1_797m.f k x1.2.1 x1).bind fun y6 =>
    if (!y6.1) = true then
      (i_slices_ContainsFunc_int_a51m.f k x1.2.2.2.2.2.2.2.1 x1).bind fun y9 =>
        if (!y9.1) = true then
          some ((decide ((x1.2.2.2.2.2.2.2.2.1.length : Int) ≤ (100 : Int))), ())
        else
          some (false, ())
    else
      some (false, ())
else
  some (false, ())
theorem j1_ok {r x1} {k p1} (H : j1 x1 k p1 = some r) : Gw P 1 (Q x1 r) (Px c0 15 []) (s1 x1 p1) := by
  unfold j1 at H
  refine GT (tn [1, 3, 4] 2) (RI ?_)
  refine EV V_ok 0 [] 2 az ?_
  rcases of_ite H with ⟨hb5, H⟩ | ⟨hb5, H⟩
  · refine FXO 28 hb5 ?_
    refine EV V_ok 0 [] 6 az ?_
    obtain ⟨y6, e7, H⟩ := of_bind H
    refine CL V_ok i_control_controller_is_1_797m.at_ (i_control_controller_is_1_797m.ok e7) ?_
    refine EV V_ok 0 [] 3 az ?_
    rcases of_ite H with ⟨hb8, H⟩ | ⟨hb8, H⟩
    · refine FXO 38 hb8 ?_
      refine EV V_ok 0 [] 6 az ?_
      obtain ⟨y9, e10, H⟩ := of_bind H
      refine CL V_ok i_slices_ContainsFunc_int_a51m.at_ (i_slices_ContainsFunc_int_a51m.ok e10) ?_
      refine EV V_ok 0 [] 3 az ?_
      rcases of_ite H with ⟨hb11, H⟩ | ⟨hb11, H⟩
      · refine FXO 48 hb11 ?_
        refine EV V_ok 0 [] 9 az ?_
        refine RN ?_
        obtain rfl := Option.some.inj H
        exact Lq (tn [2] 1)
      · refine FXO 48 hb11 ?_
        refine EV V_ok 0 [] 9 az ?_
        refine RN ?_
        obtain rfl := Option.some.inj H
        exact Lq (tn [2] 1)
    · refine FXO 38 hb8 ?_
      refine EV V_ok 0 [] 10 az ?_
      refine EV V_ok 0 [] 9 az ?_
      refine RN ?_
      obtain rfl := Option.some.inj H
      exact Lq (tn [2] 1)
  · refine FXO 28 hb5 ?_
    refine EV V_ok 0 [] 10 az ?_
    refine EV V_ok 0 [] 10 az ?_
    refine EV V_ok 0 [] 9 az ?_
    refine RN ?_
    obtain rfl := Option.some.inj H
    exact Lq (tn [2] 1)
noncomputable def f (k : Nat) (x1 : T26b3.T) : Option R :=
  if (x1.2.2.1 == (-1 : Int)) = true then
    (i_control_controller_two_e61m.f k x1).bind fun y2 =>
      if (!y2.1) = true then
        j1 x1 k true
      else
        (i_control_controller_is_1_797m.f k x1.2.2.1 x1).bind fun y12 =>
          j1 x1 k (!y12.1)
  else
    (i_control_controller_is_1_797m.f k x1.2.2.1 x1).bind fun y14 =>
      j1 x1 k (!y14.1)
theorem f_ok {r k x1} (H : f k x1 = some r) : Gw P 1 (Q x1 r) (Px c0 1 []) (s0 x1) := by
  unfold f at H
  refine Rg V_ok 1 [(0, hb 1)] az ?_
  refine Rg V_ok 0 [] az ?_
  refine GT (tn [1, 3] 2) (RI ?_)
  refine EV V_ok 0 [] 7 az ?_
  rcases of_ite H with ⟨hb1, H⟩ | ⟨hb1, H⟩
  · refine FXO 12 hb1 ?_
    refine EV V_ok 0 [] 1 az ?_
    obtain ⟨y2, e3, H⟩ := of_bind H
    refine CL V_ok i_control_controller_two_e61m.at_ (i_control_controller_two_e61m.ok e3) ?_
    refine EV V_ok 0 [] 3 az ?_
    rcases of_ite H with ⟨hb4, H⟩ | ⟨hb4, H⟩
    · refine FXO 17 hb4 ?_
      refine EV V_ok 0 [] 10 az ?_
      refine RN ?_
      exact Jm (tn [1, 3, 4] 2) (j1_ok H)
    · refine FXO 17 hb4 ?_
      refine EV V_ok 0 [] 6 az ?_
      obtain ⟨y12, e13, H⟩ := of_bind H
      refine CL V_ok i_control_controller_is_1_797m.at_ (i_control_controller_is_1_797m.ok e13) ?_
      refine EV V_ok 0 [] 3 az ?_
      refine RN ?_
      exact Jm (tn [1, 3, 4] 2) (j1_ok H)
  · refine FXO 12 hb1 ?_
    refine EV V_ok 0 [] 5 az ?_
    refine EV V_ok 0 [] 6 az ?_
    obtain ⟨y14, e15, H⟩ := of_bind H
    refine CL V_ok i_control_controller_is_1_797m.at_ (i_control_controller_is_1_797m.ok e15) ?_
    refine EV V_ok 0 [] 3 az ?_
    refine RN ?_
    exact Jm (tn [1, 3, 4] 2) (j1_ok H)
theorem ok {r k x1} (H : f k x1 = some r) : W P 1 c0 (s0 x1) (CallQ 1 (out x1 r)) := of_G (f_ok H)
theorem at_ : FnAt P 45 57 c0 Go.Proofs.Try.f45.results := fnAt Go.Proofs.Try.func45 (by kernel_rfl) (by decide) (by kernel_rfl) (by kernel_rfl)
end i_control_controller_is_e28m
/-! ### function 61, (*wayfinder/control.controller).two, where it is called -/
namespace i_control_controller_two_ebc
noncomputable def c0 : Code := (Go.Proofs.Try.f61.body).getD .skip
noncomputable def V : Env := { tt := tt, Γ := slk [(79, f_slices_Contains_int.S)] }
theorem V_ok : EnvOk P V := { ck := tt_ck, fits := slk_cons f_slices_Contains_int.fits (slk_nil), mixed := mixed }
abbrev R := (Bool) × Unit
noncomputable def s0 (x1 : T26b3.T) (x2 : List T814c.T) : St := ⟨10, [(0, .cv (.one (.ptr 0 0)))], [(.box 13, (encC .any T26b3 x1)), (.buf 76 T814c x2, [])]⟩
noncomputable def out (x1 : T26b3.T) (x2 : List T814c.T) (r : R) : St := ⟨10, [(2, .cv (.one (.bool r.1)))], [(.box 13, (encC .any T26b3 x1)), (.buf 76 T814c x2, [])]⟩
abbrev Q (x1 : T26b3.T) (x2 : List T814c.T) (r : R) := CallQ 2 (out x1 x2 r)
noncomputable def f (k : Nat) (x1 : T26b3.T) (x2 : List T814c.T) : Option R :=
  (f_slices_Contains_int.f k [1, 2, 3] x1.2.2.2.2.2.1).bind fun y1 =>
    some (y1.1, ())
theorem f_ok {r k x1 x2} (H : f k x1 x2 = some r) : Gw P 2 (Q x1 x2 r) (Px c0 1 []) (s0 x1 x2) := by
  unfold f at H
  refine Rg V_ok 0 [] az ?_
  obtain ⟨y1, e2, H⟩ := of_bind H
  refine Rg V_ok 0 [(6, hr f_slices_Contains_int.S y1)] (ac (f_slices_Contains_int.rl e2) az) ?_
  obtain rfl := Option.some.inj H
  exact Lq (tn [2] 2)
theorem ok {r k x1 x2} (H : f k x1 x2 = some r) : W P 2 c0 (s0 x1 x2) (CallQ 2 (out x1 x2 r)) := of_G (f_ok H)
theorem at_ : FnAt P 61 10 c0 Go.Proofs.Try.f61.results := fnAt Go.Proofs.Try.func61 (by kernel_rfl) (by decide) (by kernel_rfl) (by kernel_rfl)
end i_control_controller_two_ebc
/-! ### function 64, (*wayfinder/control.controller).live$1, where it is called -/
namespace i_control_controller_live_1_5bam
noncomputable def c0 : Code := (Go.Proofs.Try.f64.body).getD .skip
noncomputable def V : Env := { tt := tt, Γ := slk [] }
theorem V_ok : EnvOk P V := { ck := tt_ck, fits := slk_nil, mixed := mixed }
abbrev R := (Int) × Unit
noncomputable def s0 (x1 x2 : T814c.T) (x3 : T26b3.T) (x4 : List T814c.T) : St := ⟨17, [(0, .cv (.agg [.i x1.1, .sl T1383 x1.2 .any])), (1, .cv (.agg [.i x2.1, .sl T1383 x2.2 .any]))], [(.box 13, (encC .any T26b3 x3)), (.buf 76 T814c x4, [])]⟩
noncomputable def out (x3 : T26b3.T) (x4 : List T814c.T) (r : R) : St := ⟨17, [(4, .cv (.one (.i r.1)))], [(.box 13, (encC .any T26b3 x3)), (.buf 76 T814c x4, [])]⟩
abbrev Q (x3 : T26b3.T) (x4 : List T814c.T) (r : R) := CallQ 2 (out x3 x4 r)
noncomputable def f (k : Nat) (x1 x2 : T814c.T) (x3 : T26b3.T) (x4 : List T814c.T) : Option R :=
  if (decide (x1.1 < x2.1)) = true then
    some ((-1), ())
  else
    if (decide (x1.1 > x2.1)) = true then
      some ((1 : Int), ())
    else
      some ((0 : Int), ())
theorem f_ok {r k x1 x2 x3 x4} (H : f k x1 x2 x3 x4 = some r) : Gw P 2 (Q x3 x4 r) (Px c0 1 []) (s0 x1 x2 x3 x4) := by
  unfold f at H
  refine Rg V_ok 2 [(0, hb 2), (1, hb 3)] az ?_
  refine Rg V_ok 0 [] az ?_
  rcases of_ite H with ⟨hb1, H⟩ | ⟨hb1, H⟩
  · refine C1 hb1 ?_
    refine Rg V_ok 0 [] az ?_
    obtain rfl := Option.some.inj H
    exact Lq (tn [4] 2)
  · refine C0 hb1 ?_
    refine Rg V_ok 0 [] az ?_
    rcases of_ite H with ⟨hb2, H⟩ | ⟨hb2, H⟩
    · refine C1 hb2 ?_
      refine Rg V_ok 0 [] az ?_
      obtain rfl := Option.some.inj H
      exact Lq (tn [4] 2)
    · refine C0 hb2 ?_
      refine Rg V_ok 0 [] az ?_
      obtain rfl := Option.some.inj H
      exact Lq (tn [4] 2)
theorem ok {r k x1 x2 x3 x4} (H : f k x1 x2 x3 x4 = some r) : W P 2 c0 (s0 x1 x2 x3 x4) (CallQ 2 (out x3 x4 r)) := of_G (f_ok H)
theorem at_ : FnAt P 64 17 c0 Go.Proofs.Try.f64.results := fnAt Go.Proofs.Try.func64 (by kernel_rfl) (by decide) (by kernel_rfl) (by kernel_rfl)
end i_control_controller_live_1_5bam
/-! ### function 92, slices.insertionSortCmpFunc[wayfinder/api.Ver], where it is called -/
namespace i_slices_insertionSortCmpFunc_Ver_2e0m
noncomputable def c0 : Code := (Go.Proofs.Try.f92.body).getD .skip
noncomputable def V : Env := { tt := tt, Γ := slk [] }
theorem V_ok : EnvOk P V := { ck := tt_ck, fits := slk_nil, mixed := mixed }
abbrev R := (List T814c.T) × Unit
noncomputable def s0 (x1 x2 : Int) (x3 : T26b3.T) (x4 : List T814c.T) : St := ⟨53, [(0, .cv (.one (.own 1))), (1, .cv (.one (.i x1))), (2, .cv (.one (.i x2))), (3, .cv (.one (.fn 64 [] [])))], [(.box 13, (encC .any T26b3 x3)), (.buf 76 T814c x4, [])]⟩
noncomputable def out (x3 : T26b3.T) (r : R) : St := ⟨53, [], [(.box 13, (encC .any T26b3 x3)), (.buf 76 T814c r.1, [])]⟩
abbrev Q (x3 : T26b3.T) (r : R) := CallQ 2 (out x3 r)
noncomputable def s1 (x1 x2 : Int) (x3 : T26b3.T) (p3 : Int) (p5 : List T814c.T) : St := ⟨53, [(0, .cv (.one (.own 1))), (1, .cv (.one (.i x1))), (2, .cv (.one (.i x2))), (3, .cv (.one (.fn 64 [] []))), (8, .cv (.one (.i p3)))], [(.box 13, (encC .any T26b3 x3)), (.buf 76 T814c p5, [])]⟩
noncomputable def s2 (x1 x2 : Int) (x3 : T26b3.T) (p3 p4 : Int) (p6 : List T814c.T) : St := ⟨53, [(0, .cv (.one (.own 1))), (1, .cv (.one (.i x1))), (2, .cv (.one (.i x2))), (3, .cv (.one (.fn 64 [] []))), (8, .cv (.one (.i p3))), (9, .cv (.one (.i p4)))], [(.box 13, (encC .any T26b3 x3)), (.buf 76 T814c p6, [])]⟩
noncomputable def s3 (x1 x2 : Int) (x3 : T26b3.T) (p3 p4 : Int) (p5 : Bool) (p7 : List T814c.T) : St := ⟨53, [(0, .cv (.one (.own 1))), (1, .cv (.one (.i x1))), (2, .cv (.one (.i x2))), (3, .cv (.one (.fn 64 [] []))), (8, .cv (.one (.i p3))), (9, .cv (.one (.i p4))), (34, .cv (.one (.bool p5)))], [(.box 13, (encC .any T26b3 x3)), (.buf 76 T814c p7, [])]⟩
noncomputable def j3 (x1 x2 : Int) (x3 : T26b3.T) (L1 : Int → List T814c.T → Option R) (L2 : Int → Int → List T814c.T → Option R) (k : Nat) (p3 p4 : Int) (p5 : Bool) (p7 : List T814c.T) : Option R :=
  if p5 = true then
  if 0 ≤ (IntKind.i64.wrap (p4 - 1)) then
    if (IntKind.i64.wrap (p4 - 1)) < (p7.length : Int) then
      if 0 ≤ p4 then
        if p4 < (p7.length : Int) then
          if (IntKind.i64.wrap (p4 - 1)) < ((p7.set p4.toNat (att T814c p7 (IntKind.i64.wrap (p4 - 1)))).length : Int) then
            L2 p3 (IntKind.i64.wrap (p4 - 1)) ((p7.set p4.toNat (att T814c p7 (IntKind.i64.wrap (p4 - 1)))).set (IntKind.i64.wrap (p4 - 1)).toNat (att T814c p7 p4))
          else none
        else none
      else none
    else none
  else none
else
  L1 (IntKind.i64.wrap (p3 + 1)) p7
theorem j3_ok {r x1 x2 x3} {L1 : Int → List T814c.T → Option R} {m1 : Nat} (hL1 : ∀ p3 p5, L1 p3 p5 = some r → Gw P 2 (Q x3 r) (Pb c0 5 [] m1) (s1 x1 x2 x3 p3 p5)) {L2 : Int → Int → List T814c.T → Option R} {m2 : Nat} (hL2 : ∀ p3 p4 p6, L2 p3 p4 p6 = some r → Gw P 2 (Q x3 r) (Pb c0 329 [m1] m2) (s2 x1 x2 x3 p3 p4 p6)) {k p3 p4 p5 p7} (H : j3 x1 x2 x3 L1 L2 k p3 p4 p5 p7 = some r) : Gw P 2 (Q x3 r) (Px c0 3145 [m1, m2]) (s3 x1 x2 x3 p3 p4 p5 p7) := by
  unfold j3 at H
  rcases of_ite H with ⟨hb9, H⟩ | ⟨hb9, H⟩
  · refine C1 hb9 ?_
    obtain ⟨n10, H⟩ := of_if H
    obtain ⟨n11, H⟩ := of_if H
    obtain ⟨n12, H⟩ := of_if H
    obtain ⟨n13, H⟩ := of_if H
    obtain ⟨n14, H⟩ := of_if H
    refine Rg V_ok 0 [] (ac n10 (ac n11 (ac n12 (ac n13 (ac n12 (ac n13 (ac n10 (ac n14 az)))))))) ?_
    refine Rg V_ok 0 [] az ?_
    exact Jm (tn [0, 1, 2, 3, 8, 9] 2) (hL2 p3 (IntKind.i64.wrap (p4 - 1)) ((p7.set p4.toNat (att T814c p7 (IntKind.i64.wrap (p4 - 1)))).set (IntKind.i64.wrap (p4 - 1)).toNat (att T814c p7 p4)) H)
  · refine C0 hb9 ?_
    refine Rg V_ok 0 [] az ?_
    exact Jm (tn [0, 1, 2, 3, 8] 2) (hL1 (IntKind.i64.wrap (p3 + 1)) p7 H)
noncomputable def b2 (x1 x2 : Int) (x3 : T26b3.T) (L1 : Int → List T814c.T → Option R) (L2 : Int → Int → List T814c.T → Option R) (k : Nat) (p3 p4 : Int) (p6 : List T814c.T) : Option R :=
  if (decide (p4 > x1)) = true then
  if 0 ≤ p4 then
    if p4 < (p6.length : Int) then
      if 0 ≤ (IntKind.i64.wrap (p4 - 1)) then
        if (IntKind.i64.wrap (p4 - 1)) < (p6.length : Int) then
          (i_control_controller_live_1_5bam.f k (att T814c p6 p4) (att T814c p6 (IntKind.i64.wrap (p4 - 1))) x3 p6).bind fun y7 =>
            j3 x1 x2 x3 L1 L2 k p3 p4 (decide (y7.1 < (0 : Int))) p6
        else none
      else none
    else none
  else none
else
  j3 x1 x2 x3 L1 L2 k p3 p4 false p6
theorem b2_ok {r x1 x2 x3} {L1 : Int → List T814c.T → Option R} {m1 : Nat} (hL1 : ∀ p3 p5, L1 p3 p5 = some r → Gw P 2 (Q x3 r) (Pb c0 5 [] m1) (s1 x1 x2 x3 p3 p5)) {L2 : Int → Int → List T814c.T → Option R} {m2 : Nat} (hL2 : ∀ p3 p4 p6, L2 p3 p4 p6 = some r → Gw P 2 (Q x3 r) (Pb c0 329 [m1] m2) (s2 x1 x2 x3 p3 p4 p6)) {k p3 p4 p6} (H : b2 x1 x2 x3 L1 L2 k p3 p4 p6 = some r) : Gw P 2 (Q x3 r) (Px c0 585 [m1, m2]) (s2 x1 x2 x3 p3 p4 p6) := by
  unfold b2 at H
  rcases of_ite H with ⟨hb2, H⟩ | ⟨hb2, H⟩
  · obtain ⟨n3, H⟩ := of_if H
    obtain ⟨n4, H⟩ := of_if H
    obtain ⟨n5, H⟩ := of_if H
    obtain ⟨n6, H⟩ := of_if H
    obtain ⟨y7, e8, H⟩ := of_bind H
    let x : Nx := (Px c0 2121 [m1, m2])
    let t0 : St := ⟨53, [(0, .cv (.one (.own 1))), (1, .cv (.one (.i x1))), (2, .cv (.one (.i x2))), (3, .cv (.one (.fn 64 [] []))), (8, .cv (.one (.i p3))), (9, .cv (.one (.i p4)))], [(.box 13, (encC .any T26b3 x3)), (.buf 76 T814c p6, [])]⟩
    refine Jm (x' := x) (τ := t0) (tn [0, 1, 2, 3, 8, 9] 2) ?_
    let Φ := phiX P 2 (Q x3 r) x
    let t1 : St := stpS V x 0 [] 0 (tn [0, 1, 2, 3, 8, 9, 18] 2) t0
    let t2 : St := stpS V x 0 [] 1 (tn [0, 1, 2, 3, 8, 9, 18, 19] 2) t1
    let t3 : St := stpS V x 0 [] 2 (tn [0, 1, 2, 3, 8, 9, 20] 2) t2
    let t4 : St := stpS V x 0 [(3, {bv := some true})] 3 (tn [0, 1, 2, 3, 8, 9, 21] 2) t3
    let t5 : St := stpS V x 0 [] 4 (tn [0, 1, 2, 3, 8, 9, 21, 22] 2) t4
    let t6 : St := stpS V x 0 [] 5 (tn [0, 1, 2, 3, 8, 9, 21, 22, 23] 2) t5
    let t7 : St := stpS V x 0 [] 6 (tn [0, 1, 2, 3, 8, 9, 21, 22, 23, 24] 2) t6
    let t8 : St := stpS V x 0 [] 9 (tn [0, 1, 2, 3, 8, 9, 21, 22, 23, 24, 27] 2) t7
    let t9 : St := stpS V x 0 [] 10 (tn [0, 1, 2, 3, 8, 9, 21, 22, 23, 24, 27, 28] 2) t8
    let t10 : St := stpS V x 0 [] 7 (tn [0, 1, 2, 3, 8, 9, 21, 22, 25, 27, 28] 2) t9
    let t11 : St := stpS V x 0 [] 11 (tn [0, 1, 2, 3, 8, 9, 21, 22, 23, 24, 27, 29] 2) t9
    let t12 : St := stpS V x 0 [] 8 (tn [0, 1, 2, 3, 8, 9, 21, 22, 26, 27, 28] 2) t10
    let t13 : St := stpS V x 0 [] 11 (tn [0, 1, 2, 3, 8, 9, 21, 22, 25, 27, 29] 2) t10
    let t14 : St := stpS V x 0 [] 12 (tn [0, 1, 2, 3, 8, 9, 21, 22, 23, 24, 30] 2) t11
    let t15 : St := stpS V x 0 [] 11 (tn [0, 1, 2, 3, 8, 9, 21, 22, 26, 27, 29] 2) t12
    let t16 : St := stpS V x 0 [] 12 (tn [0, 1, 2, 3, 8, 9, 21, 22, 25, 30] 2) t13
    let t17 : St := stpS V x 0 [] 13 (tn [0, 1, 2, 3, 8, 9, 21, 22, 23, 24, 31] 2) t14
    let t18 : St := stpS V x 0 [] 12 (tn [0, 1, 2, 3, 8, 9, 21, 22, 26, 30] 2) t15
    let t19 : St := stpS V x 0 [] 13 (tn [0, 1, 2, 3, 8, 9, 21, 22, 25, 31] 2) t16
    let t20 : St := stpS V x 0 [] 13 (tn [0, 1, 2, 3, 8, 9, 21, 22, 26, 31] 2) t18
    let t21 : St := clT V.tt x 14 Go.Proofs.Try.f64.results (tn [0, 1, 2, 3, 8, 9, 21, 32] 2) t20 (i_control_controller_live_1_5bam.out x3 p6 y7)
    let t22 : St := stpS V x 0 [] 15 (tn [0, 1, 2, 3, 8, 9, 21, 33] 2) t21
    let t23 : St := stpS V x 0 [] 16 (tn [0, 1, 2, 3, 8, 9, 34] 2) t22
    have w23 : WA P 2 (opsX x) 0 (bs 17 131071) Φ t23 := by
      refine WA_nil (by kernel_rfl) (RAn (by kernel_rfl) ?_)
      exact Jm (tn [0, 1, 2, 3, 8, 9, 34] 2) (j3_ok hL1 hL2 H)
    have w22 : WA P 2 (opsX x) 1 (bs 17 65535) Φ t22 := WAs (an (WE V_ok 0 [] 16 (tn [0, 1, 2, 3, 8, 9, 34] 2) az w23) aN)
    have w21 : WA P 2 (opsX x) 2 (bs 17 32767) Φ t21 := WAs (an (WE V_ok 0 [] 15 (tn [0, 1, 2, 3, 8, 9, 21, 33] 2) az w22) aN)
    have w20 : WA P 2 (opsX x) 3 (bs 17 16383) Φ t20 := WAs (an (WC V_ok 14 (tn [0, 1, 2, 3, 8, 9, 21, 32] 2) i_control_controller_live_1_5bam.at_ (i_control_controller_live_1_5bam.ok e8) w21) aN)
    have w19 : WA P 2 (opsX x) 4 (bs 17 16127) Φ t19 := WAs (an (WE V_ok 0 [] 8 (tn [0, 1, 2, 3, 8, 9, 21, 22, 26, 31] 2) az w20) aN)
    have w18 : WA P 2 (opsX x) 4 (bs 17 8191) Φ t18 := WAs (an (WE V_ok 0 [] 13 (tn [0, 1, 2, 3, 8, 9, 21, 22, 26, 31] 2) az w20) aN)
    have w17 : WA P 2 (opsX x) 5 (bs 17 15999) Φ t17 := WAs (an (WE V_ok 0 [] 7 (tn [0, 1, 2, 3, 8, 9, 21, 22, 25, 31] 2) (ac n3 (ac n4 az)) w19) aN)
    have w16 : WA P 2 (opsX x) 5 (bs 17 7935) Φ t16 := WAs (an (WE V_ok 0 [] 8 (tn [0, 1, 2, 3, 8, 9, 21, 22, 26, 30] 2) az w18) (an (WE V_ok 0 [] 13 (tn [0, 1, 2, 3, 8, 9, 21, 22, 25, 31] 2) az w19) aN))
    have w15 : WA P 2 (opsX x) 5 (bs 17 4095) Φ t15 := WAs (an (WE V_ok 0 [] 12 (tn [0, 1, 2, 3, 8, 9, 21, 22, 26, 30] 2) (ac n5 (ac n6 az)) w18) aN)
    have w14 : WA P 2 (opsX x) 6 (bs 17 7807) Φ t14 := WAs (an (WE V_ok 0 [] 7 (tn [0, 1, 2, 3, 8, 9, 21, 22, 25, 30] 2) (ac n3 (ac n4 az)) w16) (an (WE V_ok 0 [] 13 (tn [0, 1, 2, 3, 8, 9, 21, 22, 23, 24, 31] 2) az w17) aN))
    have w13 : WA P 2 (opsX x) 6 (bs 17 3839) Φ t13 := WAs (an (WE V_ok 0 [] 8 (tn [0, 1, 2, 3, 8, 9, 21, 22, 26, 27, 29] 2) az w15) (an (WE V_ok 0 [] 12 (tn [0, 1, 2, 3, 8, 9, 21, 22, 25, 30] 2) (ac n5 (ac n6 az)) w16) aN))
    have w12 : WA P 2 (opsX x) 6 (bs 17 2047) Φ t12 := WAs (an (WE V_ok 0 [] 11 (tn [0, 1, 2, 3, 8, 9, 21, 22, 26, 27, 29] 2) az w15) aN)
    have w11 : WA P 2 (opsX x) 7 (bs 17 3711) Φ t11 := WAs (an (WE V_ok 0 [] 7 (tn [0, 1, 2, 3, 8, 9, 21, 22, 25, 27, 29] 2) (ac n3 (ac n4 az)) w13) (an (WE V_ok 0 [] 12 (tn [0, 1, 2, 3, 8, 9, 21, 22, 23, 24, 30] 2) (ac n5 (ac n6 az)) w14) aN))
    have w10 : WA P 2 (opsX x) 7 (bs 17 1791) Φ t10 := WAs (an (WE V_ok 0 [] 8 (tn [0, 1, 2, 3, 8, 9, 21, 22, 26, 27, 28] 2) az w12) (an (WE V_ok 0 [] 11 (tn [0, 1, 2, 3, 8, 9, 21, 22, 25, 27, 29] 2) az w13) aN))
    have w9 : WA P 2 (opsX x) 8 (bs 17 1663) Φ t9 := WAs (an (WE V_ok 0 [] 7 (tn [0, 1, 2, 3, 8, 9, 21, 22, 25, 27, 28] 2) (ac n3 (ac n4 az)) w10) (an (WE V_ok 0 [] 11 (tn [0, 1, 2, 3, 8, 9, 21, 22, 23, 24, 27, 29] 2) az w11) aN))
    have w8 : WA P 2 (opsX x) 9 (bs 17 639) Φ t8 := WT V_ok [] 10 (tn [0, 1, 2, 3, 8, 9, 21, 22, 23, 24, 27, 28] 2) az w9
    have w7 : WA P 2 (opsX x) 10 (bs 17 127) Φ t7 := WT V_ok [] 9 (tn [0, 1, 2, 3, 8, 9, 21, 22, 23, 24, 27] 2) az w8
    have w6 : WA P 2 (opsX x) 11 (bs 17 63) Φ t6 := WT V_ok [] 6 (tn [0, 1, 2, 3, 8, 9, 21, 22, 23, 24] 2) az w7
    have w5 : WA P 2 (opsX x) 12 (bs 17 31) Φ t5 := WT V_ok [] 5 (tn [0, 1, 2, 3, 8, 9, 21, 22, 23] 2) az w6
    have w4 : WA P 2 (opsX x) 13 (bs 17 15) Φ t4 := WT V_ok [] 4 (tn [0, 1, 2, 3, 8, 9, 21, 22] 2) az w5
    have w3 : WA P 2 (opsX x) 14 (bs 17 7) Φ t3 := WT V_ok [(3, {bv := some true})] 3 (tn [0, 1, 2, 3, 8, 9, 21] 2) (ac hb2 az) w4
    have w2 : WA P 2 (opsX x) 15 (bs 17 3) Φ t2 := WAs (an (WE V_ok 0 [] 2 (tn [0, 1, 2, 3, 8, 9, 20] 2) az w3) aN)
    have w1 : WA P 2 (opsX x) 16 (bs 17 1) Φ t1 := WT V_ok [] 1 (tn [0, 1, 2, 3, 8, 9, 18, 19] 2) az w2
    have w0 : WA P 2 (opsX x) 17 (bs 17 0) Φ t0 := WT V_ok [] 0 (tn [0, 1, 2, 3, 8, 9, 18] 2) az w1
    exact RA V_ok 17 (by kernel_rfl) (by kernel_rfl) (by kernel_rfl) w0
  · let x : Nx := (Px c0 2121 [m1, m2])
    let t0 : St := ⟨53, [(0, .cv (.one (.own 1))), (1, .cv (.one (.i x1))), (2, .cv (.one (.i x2))), (3, .cv (.one (.fn 64 [] []))), (8, .cv (.one (.i p3))), (9, .cv (.one (.i p4)))], [(.box 13, (encC .any T26b3 x3)), (.buf 76 T814c p6, [])]⟩
    refine Jm (x' := x) (τ := t0) (tn [0, 1, 2, 3, 8, 9] 2) ?_
    let Φ := phiX P 2 (Q x3 r) x
    let t1 : St := stpS V x 0 [] 0 (tn [0, 1, 2, 3, 8, 9, 18] 2) t0
    let t2 : St := stpS V x 0 [] 1 (tn [0, 1, 2, 3, 8, 9, 18, 19] 2) t1
    let t3 : St := stpS V x 0 [] 2 (tn [0, 1, 2, 3, 8, 9, 20] 2) t2
    let t4 : St := stpS V x 0 [(3, {bv := some false})] 3 (tn [0, 1, 2, 3, 8, 9, 21] 2) t3
    let t5 : St := stpS V x 0 [] 4 (tn [0, 1, 2, 3, 8, 9, 21, 22] 2) t4
    let t6 : St := stpS V x 0 [] 5 (tn [0, 1, 2, 3, 8, 9, 21, 22, 23] 2) t5
    let t7 : St := stpS V x 0 [] 6 (tn [0, 1, 2, 3, 8, 9, 21, 22, 23, 24] 2) t6
    let t8 : St := stpS V x 0 [] 9 (tn [0, 1, 2, 3, 8, 9, 21, 22, 23, 24, 27] 2) t7
    let t9 : St := stpS V x 0 [] 10 (tn [0, 1, 2, 3, 8, 9, 21, 22, 23, 24, 27, 28] 2) t8
    let t10 : St := stpS V x 0 [] 7 (tn [0, 1, 2, 3, 8, 9, 21, 22, 25, 27, 28] 2) t9
    let t11 : St := stpS V x 0 [] 11 (tn [0, 1, 2, 3, 8, 9, 21, 22, 23, 24, 27, 29] 2) t9
    let t12 : St := stpS V x 0 [] 8 (tn [0, 1, 2, 3, 8, 9, 21, 22, 26, 27, 28] 2) t10
    let t13 : St := stpS V x 0 [] 11 (tn [0, 1, 2, 3, 8, 9, 21, 22, 25, 27, 29] 2) t10
    let t14 : St := stpS V x 0 [] 12 (tn [0, 1, 2, 3, 8, 9, 21, 22, 23, 24, 30] 2) t11
    let t15 : St := stpS V x 0 [] 11 (tn [0, 1, 2, 3, 8, 9, 21, 22, 26, 27, 29] 2) t12
    let t16 : St := stpS V x 0 [] 12 (tn [0, 1, 2, 3, 8, 9, 21, 22, 25, 30] 2) t13
    let t17 : St := stpS V x 0 [] 13 (tn [0, 1, 2, 3, 8, 9, 21, 22, 23, 24, 31] 2) t14
    let t18 : St := stpS V x 0 [] 12 (tn [0, 1, 2, 3, 8, 9, 21, 22, 26, 30] 2) t15
    let t19 : St := stpS V x 0 [] 13 (tn [0, 1, 2, 3, 8, 9, 21, 22, 25, 31] 2) t16
    let t20 : St := stpS V x 0 [] 13 (tn [0, 1, 2, 3, 8, 9, 21, 22, 26, 31] 2) t18
    let t21 : St := stpS V x 0 [] 14 (tn [0, 1, 2, 3, 8, 9, 21, 32] 2) t20
    let t22 : St := stpS V x 0 [] 15 (tn [0, 1, 2, 3, 8, 9, 21, 33] 2) t21
    let t23 : St := stpS V x 0 [] 16 (tn [0, 1, 2, 3, 8, 9, 34] 2) t22
    have w23 : WA P 2 (opsX x) 0 (bs 17 131071) Φ t23 := by
      refine WA_nil (by kernel_rfl) (RAn (by kernel_rfl) ?_)
      exact Jm (tn [0, 1, 2, 3, 8, 9, 34] 2) (j3_ok hL1 hL2 H)
    have w22 : WA P 2 (opsX x) 1 (bs 17 65535) Φ t22 := WAs (an (WE V_ok 0 [] 16 (tn [0, 1, 2, 3, 8, 9, 34] 2) az w23) aN)
    have w21 : WA P 2 (opsX x) 2 (bs 17 32767) Φ t21 := WAs (an (WE V_ok 0 [] 15 (tn [0, 1, 2, 3, 8, 9, 21, 33] 2) az w22) aN)
    have w20 : WA P 2 (opsX x) 3 (bs 17 16383) Φ t20 := WAs (an (WE V_ok 0 [] 14 (tn [0, 1, 2, 3, 8, 9, 21, 32] 2) az w21) aN)
    have w19 : WA P 2 (opsX x) 4 (bs 17 16127) Φ t19 := WAs (an (WE V_ok 0 [] 8 (tn [0, 1, 2, 3, 8, 9, 21, 22, 26, 31] 2) az w20) aN)
    have w18 : WA P 2 (opsX x) 4 (bs 17 8191) Φ t18 := WAs (an (WE V_ok 0 [] 13 (tn [0, 1, 2, 3, 8, 9, 21, 22, 26, 31] 2) az w20) aN)
    have w17 : WA P 2 (opsX x) 5 (bs 17 15999) Φ t17 := WAs (an (WE V_ok 0 [] 7 (tn [0, 1, 2, 3, 8, 9, 21, 22, 25, 31] 2) az w19) aN)
    have w16 : WA P 2 (opsX x) 5 (bs 17 7935) Φ t16 := WAs (an (WE V_ok 0 [] 8 (tn [0, 1, 2, 3, 8, 9, 21, 22, 26, 30] 2) az w18) (an (WE V_ok 0 [] 13 (tn [0, 1, 2, 3, 8, 9, 21, 22, 25, 31] 2) az w19) aN))
    have w15 : WA P 2 (opsX x) 5 (bs 17 4095) Φ t15 := WAs (an (WE V_ok 0 [] 12 (tn [0, 1, 2, 3, 8, 9, 21, 22, 26, 30] 2) az w18) aN)
    have w14 : WA P 2 (opsX x) 6 (bs 17 7807) Φ t14 := WAs (an (WE V_ok 0 [] 7 (tn [0, 1, 2, 3, 8, 9, 21, 22, 25, 30] 2) az w16) (an (WE V_ok 0 [] 13 (tn [0, 1, 2, 3, 8, 9, 21, 22, 23, 24, 31] 2) az w17) aN))
    have w13 : WA P 2 (opsX x) 6 (bs 17 3839) Φ t13 := WAs (an (WE V_ok 0 [] 8 (tn [0, 1, 2, 3, 8, 9, 21, 22, 26, 27, 29] 2) az w15) (an (WE V_ok 0 [] 12 (tn [0, 1, 2, 3, 8, 9, 21, 22, 25, 30] 2) az w16) aN))
    have w12 : WA P 2 (opsX x) 6 (bs 17 2047) Φ t12 := WAs (an (WE V_ok 0 [] 11 (tn [0, 1, 2, 3, 8, 9, 21, 22, 26, 27, 29] 2) az w15) aN)
    have w11 : WA P 2 (opsX x) 7 (bs 17 3711) Φ t11 := WAs (an (WE V_ok 0 [] 7 (tn [0, 1, 2, 3, 8, 9, 21, 22, 25, 27, 29] 2) az w13) (an (WE V_ok 0 [] 12 (tn [0, 1, 2, 3, 8, 9, 21, 22, 23, 24, 30] 2) az w14) aN))
    have w10 : WA P 2 (opsX x) 7 (bs 17 1791) Φ t10 := WAs (an (WE V_ok 0 [] 8 (tn [0, 1, 2, 3, 8, 9, 21, 22, 26, 27, 28] 2) az w12) (an (WE V_ok 0 [] 11 (tn [0, 1, 2, 3, 8, 9, 21, 22, 25, 27, 29] 2) az w13) aN))
    have w9 : WA P 2 (opsX x) 8 (bs 17 1663) Φ t9 := WAs (an (WE V_ok 0 [] 7 (tn [0, 1, 2, 3, 8, 9, 21, 22, 25, 27, 28] 2) az w10) (an (WE V_ok 0 [] 11 (tn [0, 1, 2, 3, 8, 9, 21, 22, 23, 24, 27, 29] 2) az w11) aN))
    have w8 : WA P 2 (opsX x) 9 (bs 17 639) Φ t8 := WT V_ok [] 10 (tn [0, 1, 2, 3, 8, 9, 21, 22, 23, 24, 27, 28] 2) az w9
    have w7 : WA P 2 (opsX x) 10 (bs 17 127) Φ t7 := WT V_ok [] 9 (tn [0, 1, 2, 3, 8, 9, 21, 22, 23, 24, 27] 2) az w8
    have w6 : WA P 2 (opsX x) 11 (bs 17 63) Φ t6 := WT V_ok [] 6 (tn [0, 1, 2, 3, 8, 9, 21, 22, 23, 24] 2) az w7
    have w5 : WA P 2 (opsX x) 12 (bs 17 31) Φ t5 := WT V_ok [] 5 (tn [0, 1, 2, 3, 8, 9, 21, 22, 23] 2) az w6
    have w4 : WA P 2 (opsX x) 13 (bs 17 15) Φ t4 := WT V_ok [] 4 (tn [0, 1, 2, 3, 8, 9, 21, 22] 2) az w5
    have w3 : WA P 2 (opsX x) 14 (bs 17 7) Φ t3 := WT V_ok [(3, {bv := some false})] 3 (tn [0, 1, 2, 3, 8, 9, 21] 2) (ac hb2 az) w4
    have w2 : WA P 2 (opsX x) 15 (bs 17 3) Φ t2 := WAs (an (WE V_ok 0 [] 2 (tn [0, 1, 2, 3, 8, 9, 20] 2) az w3) aN)
    have w1 : WA P 2 (opsX x) 16 (bs 17 1) Φ t1 := WT V_ok [] 1 (tn [0, 1, 2, 3, 8, 9, 18, 19] 2) az w2
    have w0 : WA P 2 (opsX x) 17 (bs 17 0) Φ t0 := WT V_ok [] 0 (tn [0, 1, 2, 3, 8, 9, 18] 2) az w1
    exact RA V_ok 17 (by kernel_rfl) (by kernel_rfl) (by kernel_rfl) w0
noncomputable def l2 (x1 x2 : Int) (x3 : T26b3.T) (L1 : Int → List T814c.T → Option R) (k : Nat) : Nat → Int → Int → List T814c.T → Option R
  | 0, _, _, _ => none
  | m + 1, p3, p4, p6 => b2 x1 x2 x3 L1 (l2 x1 x2 x3 L1 k m) k p3 p4 p6
theorem l2_ok {r x1 x2 x3} {L1 : Int → List T814c.T → Option R} {m1 : Nat} (hL1 : ∀ p3 p5, L1 p3 p5 = some r → Gw P 2 (Q x3 r) (Pb c0 5 [] m1) (s1 x1 x2 x3 p3 p5)) (k : Nat) : ∀ (m2 : Nat) (p3 p4 : Int) (p6 : List T814c.T), l2 x1 x2 x3 L1 k m2 p3 p4 p6 = some r → Gw P 2 (Q x3 r) (Pb c0 329 [m1] m2) (s2 x1 x2 x3 p3 p4 p6)
  | 0, _, _, _, H => by cases H
  | m2 + 1, p3, p4, p6, H => SU (by kernel_rfl) (b2_ok hL1 (l2_ok hL1 k m2) H)
noncomputable def b1 (x1 x2 : Int) (x3 : T26b3.T) (L1 : Int → List T814c.T → Option R) (k : Nat) (p3 : Int) (p5 : List T814c.T) : Option R :=
  if (decide (p3 < x2)) = true then
  l2 x1 x2 x3 L1 k k p3 p3 p5
else
  some (p5, ())
theorem b1_ok {r x1 x2 x3} {L1 : Int → List T814c.T → Option R} {m1 : Nat} (hL1 : ∀ p3 p5, L1 p3 p5 = some r → Gw P 2 (Q x3 r) (Pb c0 5 [] m1) (s1 x1 x2 x3 p3 p5)) {k p3 p5} (H : b1 x1 x2 x3 L1 k p3 p5 = some r) : Gw P 2 (Q x3 r) (Px c0 9 [m1]) (s1 x1 x2 x3 p3 p5) := by
  unfold b1 at H
  refine Rg V_ok 0 [] az ?_
  rcases of_ite H with ⟨hb1, H⟩ | ⟨hb1, H⟩
  · refine C1 hb1 ?_
    refine Rg V_ok 0 [] az ?_
    exact LP k (Jm (tn [0, 1, 2, 3, 8, 9] 2) (l2_ok hL1 k k p3 p3 p5 H))
  · refine C0 hb1 ?_
    obtain rfl := Option.some.inj H
    exact Lq (tn [] 2)
noncomputable def l1 (x1 x2 : Int) (x3 : T26b3.T) (k : Nat) : Nat → Int → List T814c.T → Option R
  | 0, _, _ => none
  | m + 1, p3, p5 => b1 x1 x2 x3 (l1 x1 x2 x3 k m) k p3 p5
theorem l1_ok {r x1 x2 x3} (k : Nat) : ∀ (m1 : Nat) (p3 : Int) (p5 : List T814c.T), l1 x1 x2 x3 k m1 p3 p5 = some r → Gw P 2 (Q x3 r) (Pb c0 5 [] m1) (s1 x1 x2 x3 p3 p5)
  | 0, _, _, H => by cases H
  | m1 + 1, p3, p5, H => SU (by kernel_rfl) (b1_ok (l1_ok k m1) H)
noncomputable def f (k : Nat) (x1 x2 : Int) (x3 : T26b3.T) (x4 : List T814c.T) : Option R :=
  l1 x1 x2 x3 k k (IntKind.i64.wrap (x1 + 1)) x4
theorem f_ok {r k x1 x2 x3 x4} (H : f k x1 x2 x3 x4 = some r) : Gw P 2 (Q x3 r) (Px c0 1 []) (s0 x1 x2 x3 x4) := by
  unfold f at H
  refine Rg V_ok 0 [] az ?_
  exact LP k (Jm (tn [0, 1, 2, 3, 8] 2) (l1_ok k k (IntKind.i64.wrap (x1 + 1)) x4 H))
theorem ok {r k x1 x2 x3 x4} (H : f k x1 x2 x3 x4 = some r) : W P 2 c0 (s0 x1 x2 x3 x4) (CallQ 2 (out x3 r)) := of_G (f_ok H)
theorem at_ : FnAt P 92 53 c0 Go.Proofs.Try.f92.results := fnAt Go.Proofs.Try.func92 (by kernel_rfl) (by decide) (by kernel_rfl) (by kernel_rfl)
end i_slices_insertionSortCmpFunc_Ver_2e0m
/-! ### function 81, slices.stableCmpFunc[wayfinder/api.Ver], where it is called -/
namespace i_slices_stableCmpFunc_Ver_2ecm
noncomputable def c0 : Code := (Go.Proofs.Try.f81.body).getD .skip
noncomputable def V : Env := { tt := tt, Γ := slk [] }
theorem V_ok : EnvOk P V := { ck := tt_ck, fits := slk_nil, mixed := mixed }
abbrev R := (List T814c.T) × Unit
noncomputable def s0 (x1 : Int) (x2 : T26b3.T) (x3 : List T814c.T) : St := ⟨63, [(0, .cv (.one (.own 1))), (1, .cv (.one (.i x1))), (2, .cv (.one (.fn 64 [] [])))], [(.box 13, (encC .any T26b3 x2)), (.buf 76 T814c x3, [])]⟩
noncomputable def out (x2 : T26b3.T) (r : R) : St := ⟨63, [], [(.box 13, (encC .any T26b3 x2)), (.buf 76 T814c r.1, [])]⟩
abbrev Q (x2 : T26b3.T) (r : R) := CallQ 2 (out x2 r)
noncomputable def s1 (x1 : Int) (x2 : T26b3.T) (p2 p3 p4 : Int) (p6 : List T814c.T) : St := ⟨63, [(0, .cv (.one (.own 1))), (1, .cv (.one (.i x1))), (2, .cv (.one (.fn 64 [] []))), (6, .cv (.one (.i p2))), (7, .cv (.one (.i p3))), (8, .cv (.one (.i p4)))], [(.box 13, (encC .any T26b3 x2)), (.buf 76 T814c p6, [])]⟩
noncomputable def s2 (x1 : Int) (x2 : T26b3.T) (p2 : Int) (p4 : List T814c.T) : St := ⟨63, [(0, .cv (.one (.own 1))), (1, .cv (.one (.i x1))), (2, .cv (.one (.fn 64 [] []))), (6, .cv (.one (.i p2)))], [(.box 13, (encC .any T26b3 x2)), (.buf 76 T814c p4, [])]⟩
noncomputable def s3 (x1 : Int) (x2 : T26b3.T) (p2 p3 p4 : Int) (p6 : List T814c.T) : St := ⟨63, [(0, .cv (.one (.own 1))), (1, .cv (.one (.i x1))), (2, .cv (.one (.fn 64 [] []))), (6, .cv (.one (.i p2))), (7, .cv (.one (.i p3))), (8, .cv (.one (.i p4)))], [(.box 13, (encC .any T26b3 x2)), (.buf 76 T814c p6, [])]⟩
noncomputable def b3 (x1 : Int) (x2 : T26b3.T) (L2 : Int → List T814c.T → Option R) (L3 : Int → Int → Int → List T814c.T → Option R) (k : Nat) (p2 p3 p4 : Int) (p6 : List T814c.T) : Option R :=
  if (decide (p4 ≤ x1)) = true then
  none
else
  if (decide ((IntKind.i64.wrap (p3 + p2)) < x1)) = true then
    none
  else
    L2 (IntKind.i64.wrap (p2 * 2)) p6
theorem b3_ok {r x1 x2} {L2 : Int → List T814c.T → Option R} {m2 : Nat} (hL2 : ∀ p2 p4, L2 p2 p4 = some r → Gw P 2 (Q x2 r) (Pb c0 47 [] m2) (s2 x1 x2 p2 p4)) {L3 : Int → Int → Int → List T814c.T → Option R} {m3 : Nat} (hL3 : ∀ p2 p3 p4 p6, L3 p2 p3 p4 p6 = some r → Gw P 2 (Q x2 r) (Pb c0 2383 [m2] m3) (s3 x1 x2 p2 p3 p4 p6)) {k p2 p3 p4 p6} (H : b3 x1 x2 L2 L3 k p2 p3 p4 p6 = some r) : Gw P 2 (Q x2 r) (Px c0 4431 [m2, m3]) (s3 x1 x2 p2 p3 p4 p6) := by
  unfold b3 at H
  refine Rg V_ok 0 [] az ?_
  rcases of_ite H with ⟨hb7, H⟩ | ⟨hb7, H⟩
  · refine C1 hb7 ?_
    cases H
  · refine C0 hb7 ?_
    refine Rg V_ok 0 [] az ?_
    refine Rg V_ok 0 [] az ?_
    rcases of_ite H with ⟨hb8, H⟩ | ⟨hb8, H⟩
    · refine C1 hb8 ?_
      cases H
    · refine C0 hb8 ?_
      refine Rg V_ok 0 [] az ?_
      exact Jm (tn [0, 1, 2, 6] 2) (hL2 (IntKind.i64.wrap (p2 * 2)) p6 H)
noncomputable def l3 (x1 : Int) (x2 : T26b3.T) (L2 : Int → List T814c.T → Option R) (k : Nat) : Nat → Int → Int → Int → List T814c.T → Option R
  | 0, _, _, _, _ => none
  | m + 1, p2, p3, p4, p6 => b3 x1 x2 L2 (l3 x1 x2 L2 k m) k p2 p3 p4 p6
theorem l3_ok {r x1 x2} {L2 : Int → List T814c.T → Option R} {m2 : Nat} (hL2 : ∀ p2 p4, L2 p2 p4 = some r → Gw P 2 (Q x2 r) (Pb c0 47 [] m2) (s2 x1 x2 p2 p4)) (k : Nat) : ∀ (m3 : Nat) (p2 p3 p4 : Int) (p6 : List T814c.T), l3 x1 x2 L2 k m3 p2 p3 p4 p6 = some r → Gw P 2 (Q x2 r) (Pb c0 2383 [m2] m3) (s3 x1 x2 p2 p3 p4 p6)
  | 0, _, _, _, _, H => by cases H
  | m3 + 1, p2, p3, p4, p6, H => SU (by kernel_rfl) (b3_ok hL2 (l3_ok hL2 k m3) H)
noncomputable def b2 (x1 : Int) (x2 : T26b3.T) (L2 : Int → List T814c.T → Option R) (k : Nat) (p2 : Int) (p4 : List T814c.T) : Option R :=
  if (decide (p2 < x1)) = true then
  l3 x1 x2 L2 k k p2 0 (IntKind.i64.wrap (2 * p2)) p4
else
  some (p4, ())
theorem b2_ok {r x1 x2} {L2 : Int → List T814c.T → Option R} {m2 : Nat} (hL2 : ∀ p2 p4, L2 p2 p4 = some r → Gw P 2 (Q x2 r) (Pb c0 47 [] m2) (s2 x1 x2 p2 p4)) {k p2 p4} (H : b2 x1 x2 L2 k p2 p4 = some r) : Gw P 2 (Q x2 r) (Px c0 79 [m2]) (s2 x1 x2 p2 p4) := by
  unfold b2 at H
  refine Rg V_ok 0 [] az ?_
  rcases of_ite H with ⟨hb6, H⟩ | ⟨hb6, H⟩
  · refine C1 hb6 ?_
    refine Rg V_ok 0 [] az ?_
    exact LP k (Jm (tn [0, 1, 2, 6, 7, 8] 2) (l3_ok hL2 k k p2 0 (IntKind.i64.wrap (2 * p2)) p4 H))
  · refine C0 hb6 ?_
    obtain rfl := Option.some.inj H
    exact Lq (tn [] 2)
noncomputable def l2 (x1 : Int) (x2 : T26b3.T) (k : Nat) : Nat → Int → List T814c.T → Option R
  | 0, _, _ => none
  | m + 1, p2, p4 => b2 x1 x2 (l2 x1 x2 k m) k p2 p4
theorem l2_ok {r x1 x2} (k : Nat) : ∀ (m2 : Nat) (p2 : Int) (p4 : List T814c.T), l2 x1 x2 k m2 p2 p4 = some r → Gw P 2 (Q x2 r) (Pb c0 47 [] m2) (s2 x1 x2 p2 p4)
  | 0, _, _, H => by cases H
  | m2 + 1, p2, p4, H => SU (by kernel_rfl) (b2_ok (l2_ok k m2) H)
noncomputable def b1 (x1 : Int) (x2 : T26b3.T) (L1 : Int → Int → Int → List T814c.T → Option R) (k : Nat) (p2 p3 p4 : Int) (p6 : List T814c.T) : Option R :=
  if (decide (p4 ≤ x1)) = true then
  (i_slices_insertionSortCmpFunc_Ver_2e0m.f k p3 p4 x2 p6).bind fun y2 =>
    L1 p2 p4 (IntKind.i64.wrap (p4 + p2)) y2.1
else
  (i_slices_insertionSortCmpFunc_Ver_2e0m.f k p3 x1 x2 p6).bind fun y4 =>
    l2 x1 x2 k k p2 y4.1
theorem b1_ok {r x1 x2} {L1 : Int → Int → Int → List T814c.T → Option R} {m1 : Nat} (hL1 : ∀ p2 p3 p4 p6, L1 p2 p3 p4 p6 = some r → Gw P 2 (Q x2 r) (Pb c0 19 [] m1) (s1 x1 x2 p2 p3 p4 p6)) {k p2 p3 p4 p6} (H : b1 x1 x2 L1 k p2 p3 p4 p6 = some r) : Gw P 2 (Q x2 r) (Px c0 35 [m1]) (s1 x1 x2 p2 p3 p4 p6) := by
  unfold b1 at H
  refine Rg V_ok 0 [] az ?_
  rcases of_ite H with ⟨hb1, H⟩ | ⟨hb1, H⟩
  · refine C1 hb1 ?_
    refine GT (tn [0, 1, 2, 6, 7, 8] 2) (RI ?_)
    refine EV V_ok 0 [] 4 az ?_
    obtain ⟨y2, e3, H⟩ := of_bind H
    refine CL V_ok i_slices_insertionSortCmpFunc_Ver_2e0m.at_ (i_slices_insertionSortCmpFunc_Ver_2e0m.ok e3) ?_
    refine RN ?_
    refine Rg V_ok 0 [] az ?_
    refine Rg V_ok 0 [] az ?_
    exact Jm (tn [0, 1, 2, 6, 7, 8] 2) (hL1 p2 p4 (IntKind.i64.wrap (p4 + p2)) y2.1 H)
  · refine C0 hb1 ?_
    refine GT (tn [0, 1, 2, 6, 7] 2) (RI ?_)
    refine EV V_ok 0 [] 4 az ?_
    obtain ⟨y4, e5, H⟩ := of_bind H
    refine CL V_ok i_slices_insertionSortCmpFunc_Ver_2e0m.at_ (i_slices_insertionSortCmpFunc_Ver_2e0m.ok e5) ?_
    refine RN ?_
    exact LP k (Jm (tn [0, 1, 2, 6] 2) (l2_ok k k p2 y4.1 H))
noncomputable def l1 (x1 : Int) (x2 : T26b3.T) (k : Nat) : Nat → Int → Int → Int → List T814c.T → Option R
  | 0, _, _, _, _ => none
  | m + 1, p2, p3, p4, p6 => b1 x1 x2 (l1 x1 x2 k m) k p2 p3 p4 p6
theorem l1_ok {r x1 x2} (k : Nat) : ∀ (m1 : Nat) (p2 p3 p4 : Int) (p6 : List T814c.T), l1 x1 x2 k m1 p2 p3 p4 p6 = some r → Gw P 2 (Q x2 r) (Pb c0 19 [] m1) (s1 x1 x2 p2 p3 p4 p6)
  | 0, _, _, _, _, H => by cases H
  | m1 + 1, p2, p3, p4, p6, H => SU (by kernel_rfl) (b1_ok (l1_ok k m1) H)
noncomputable def f (k : Nat) (x1 : Int) (x2 : T26b3.T) (x3 : List T814c.T) : Option R :=
  l1 x1 x2 k k 20 0 20 x3
theorem f_ok {r k x1 x2 x3} (H : f k x1 x2 x3 = some r) : Gw P 2 (Q x2 r) (Px c0 1 []) (s0 x1 x2 x3) := by
  unfold f at H
  refine Rg V_ok 0 [] az ?_
  refine Rg V_ok 0 [] az ?_
  exact LP k (Jm (tn [0, 1, 2, 6, 7, 8] 2) (l1_ok k k 20 0 20 x3 H))
theorem ok {r k x1 x2 x3} (H : f k x1 x2 x3 = some r) : W P 2 c0 (s0 x1 x2 x3) (CallQ 2 (out x2 r)) := of_G (f_ok H)
theorem at_ : FnAt P 81 63 c0 Go.Proofs.Try.f81.results := fnAt Go.Proofs.Try.func81 (by kernel_rfl) (by decide) (by kernel_rfl) (by kernel_rfl)
end i_slices_stableCmpFunc_Ver_2ecm
/-! ### function 63, slices.SortStableFunc[[]wayfinder/api.Ver,wayfinder/api.Ver], where it is called -/
namespace i_slices_SortStableFunc_Ver_885m
noncomputable def c0 : Code := (Go.Proofs.Try.f63.body).getD .skip
noncomputable def V : Env := { tt := tt, Γ := slk [] }
theorem V_ok : EnvOk P V := { ck := tt_ck, fits := slk_nil, mixed := mixed }
abbrev R := (List T814c.T) × Unit
noncomputable def s0 (x1 : T26b3.T) (x2 : List T814c.T) : St := ⟨9, [(0, .cv (.one (.own 1))), (1, .cv (.one (.fn 64 [] [])))], [(.box 13, (encC .any T26b3 x1)), (.buf 76 T814c x2, [])]⟩
noncomputable def out (x1 : T26b3.T) (r : R) : St := ⟨9, [], [(.box 13, (encC .any T26b3 x1)), (.buf 76 T814c r.1, [])]⟩
abbrev Q (x1 : T26b3.T) (r : R) := CallQ 2 (out x1 r)
noncomputable def f (k : Nat) (x1 : T26b3.T) (x2 : List T814c.T) : Option R :=
  (i_slices_stableCmpFunc_Ver_2ecm.f k (x2.length : Int) x1 x2).bind fun y1 =>
    some (y1.1, ())
theorem f_ok {r k x1 x2} (H : f k x1 x2 = some r) : Gw P 2 (Q x1 r) (Px c0 1 []) (s0 x1 x2) := by
  unfold f at H
  refine GT (tn [0, 1] 2) (RI ?_)
  refine EV V_ok 0 [] 4 az ?_
  obtain ⟨y1, e2, H⟩ := of_bind H
  refine CL V_ok i_slices_stableCmpFunc_Ver_2ecm.at_ (i_slices_stableCmpFunc_Ver_2ecm.ok e2) ?_
  refine RN ?_
  obtain rfl := Option.some.inj H
  exact Lq (tn [] 2)
theorem ok {r k x1 x2} (H : f k x1 x2 = some r) : W P 2 c0 (s0 x1 x2) (CallQ 2 (out x1 r)) := of_G (f_ok H)
theorem at_ : FnAt P 63 9 c0 Go.Proofs.Try.f63.results := fnAt Go.Proofs.Try.func63 (by kernel_rfl) (by decide) (by kernel_rfl) (by kernel_rfl)
end i_slices_SortStableFunc_Ver_885m
/-! ### function 65, (*wayfinder/control.controller).flips, where it is called -/
namespace i_control_controller_flips_ebcm
noncomputable def c0 : Code := (Go.Proofs.Try.f65.body).getD .skip
noncomputable def V : Env := { tt := tt, Γ := slk [] }
theorem V_ok : EnvOk P V := { ck := tt_ck, fits := slk_nil, mixed := mixed }
abbrev R := (Bool) × Unit
noncomputable def s0 (x1 : T26b3.T) (x2 : List T814c.T) : St := ⟨17, [(0, .cv (.one (.ptr 0 0)))], [(.box 13, (encC .any T26b3 x1)), (.buf 76 T814c x2, [])]⟩
noncomputable def out (x1 : T26b3.T) (x2 : List T814c.T) (r : R) : St := ⟨17, [(2, .cv (.one (.bool r.1)))], [(.box 13, (encC .any T26b3 x1)), (.buf 76 T814c x2, [])]⟩
abbrev Q (x1 : T26b3.T) (x2 : List T814c.T) (r : R) := CallQ 2 (out x1 x2 r)
noncomputable def f (k : Nat) (x1 : T26b3.T) (x2 : List T814c.T) : Option R :=
  if (x1.2.2.2.2.2.1 == (2 : Int)) = true then
    some (true, ())
  else
    some ((x1.2.2.2.2.2.1 == (3 : Int)), ())
theorem f_ok {r k x1 x2} (H : f k x1 x2 = some r) : Gw P 2 (Q x1 x2 r) (Px c0 1 []) (s0 x1 x2) := by
  unfold f at H
  refine Rg V_ok 0 [] az ?_
  rcases of_ite H with ⟨hb1, H⟩ | ⟨hb1, H⟩
  · refine Rg V_ok 0 [(5, {bv := some true})] (ac hb1 az) ?_
    obtain rfl := Option.some.inj H
    exact Lq (tn [2] 2)
  · refine Rg V_ok 0 [(5, {bv := some false})] (ac hb1 az) ?_
    obtain rfl := Option.some.inj H
    exact Lq (tn [2] 2)
theorem ok {r k x1 x2} (H : f k x1 x2 = some r) : W P 2 c0 (s0 x1 x2) (CallQ 2 (out x1 x2 r)) := of_G (f_ok H)
theorem at_ : FnAt P 65 17 c0 Go.Proofs.Try.f65.results := fnAt Go.Proofs.Try.func65 (by kernel_rfl) (by decide) (by kernel_rfl) (by kernel_rfl)
end i_control_controller_flips_ebcm
/-! ### function 46, (*wayfinder/control.controller).live, where it is called -/
namespace i_control_controller_live_258m
noncomputable def c0 : Code := (Go.Proofs.Try.f46.body).getD .skip
noncomputable def V : Env := { tt := tt, Γ := slk [(54, f_conf_At.S)] }
theorem V_ok : EnvOk P V := { ck := tt_ck, fits := slk_cons f_conf_At.fits (slk_nil), mixed := mixed }
abbrev R := (Int) × (List T814c.T) × Unit
noncomputable def s0 (x1 : Int) (x2 : T26b3.T) : St := ⟨70, [(0, .cv (.one (.ptr 0 0))), (1, .cv (.one (.i x1)))], [(.box 13, (encC .any T26b3 x2))]⟩
noncomputable def out (x2 : T26b3.T) (r : R) : St := ⟨70, [(4, .cv (.one (.own 1))), (5, .cv (.one (.i r.1)))], [(.box 13, (encC .any T26b3 x2)), (.buf 76 T814c r.2.1, [])]⟩
abbrev Q (x2 : T26b3.T) (r : R) := CallQ 1 (out x2 r)
noncomputable def s2 (x2 : T26b3.T) (p1 : Int) (p3 : List T814c.T) : St := ⟨70, [(0, .cv (.one (.ptr 0 0))), (6, .cv (.one (.own 1))), (7, .cv (.one (.i p1)))], [(.box 13, (encC .any T26b3 x2)), (.buf 76 T814c p3, [])]⟩
noncomputable def s1 (x2 : T26b3.T) (p1 : Int) (p3 : List T814c.T) : St := ⟨70, [(6, .cv (.one (.own 1))), (7, .cv (.one (.i p1)))], [(.box 13, (encC .any T26b3 x2)), (.buf 76 T814c p3, [])]⟩
noncomputable def j1 (x2 : T26b3.T) (k : Nat) (p1 : Int) (p3 : List T814c.T) : Option R :=
  some (p1, (p3, ()))
theorem j1_ok {r x2} {k p1 p3} (H : j1 x2 k p1 p3 = some r) : Gw P 1 (Q x2 r) (Px c0 31 []) (s1 x2 p1 p3) := by
  unfold j1 at H
  refine Rg V_ok 0 [] az ?_
  obtain rfl := Option.some.inj H
  exact Lq (tn [4, 5] 2)
noncomputable def j2 (x2 : T26b3.T) (k : Nat) (p1 : Int) (p3 : List T814c.T) : Option R :=
  (i_control_controller_flips_ebcm.f k x2 p3).bind fun y14 =>
  if y14.1 = true then
    j1 x2 k x2.2.2.2.2.1 p3
  else
    j1 x2 k p1 p3
theorem j2_ok {r x2} {k p1 p3} (H : j2 x2 k p1 p3 = some r) : Gw P 1 (Q x2 r) (Px c0 15 []) (s2 x2 p1 p3) := by
  unfold j2 at H
  refine GT (tn [0, 6, 7] 2) (RI ?_)
  refine EV V_ok 0 [] 1 az ?_
  obtain ⟨y14, e15, H⟩ := of_bind H
  refine CL V_ok i_control_controller_flips_ebcm.at_ (i_control_controller_flips_ebcm.ok e15) ?_
  refine RN ?_
  rcases of_ite H with ⟨hb16, H⟩ | ⟨hb16, H⟩
  · refine C1 hb16 ?_
    refine Rg V_ok 0 [] az ?_
    exact Jm (tn [6, 7] 2) (j1_ok H)
  · refine C0 hb16 ?_
    exact Jm (tn [6, 7] 2) (j1_ok H)
noncomputable def f (k : Nat) (x1 : Int) (x2 : T26b3.T) : Option R :=
  if 0 ≤ x2.2.1 then
    if x2.2.1 < (x2.1.length : Int) then
      (f_conf_At.f k (att (.slice (.slice T1383)) x2.1 x2.2.1) x1).bind fun y1 =>
        (i_control_controller_two_ebc.f k x2 [(x2.2.2.2.1, y1.1)]).bind fun y5 =>
          if y5.1 = true then
            if 0 ≤ x2.2.2.1 then
              if x2.2.2.1 < (x2.1.length : Int) then
                (f_conf_At.f k (att (.slice (.slice T1383)) x2.1 x2.2.2.1) x1).bind fun y8 =>
                  (i_slices_SortStableFunc_Ver_885m.f k x2 [(x2.2.2.2.1, y1.1), (x2.2.2.2.2.1, y8.1)]).bind fun y12 =>
                    j2 x2 k x2.2.2.2.1 y12.1
              else none
            else none
          else
            j2 x2 k x2.2.2.2.1 [(x2.2.2.2.1, y1.1)]
    else none
  else none
theorem f_ok {r k x1 x2} (H : f k x1 x2 = some r) : Gw P 1 (Q x2 r) (Px c0 1 []) (s0 x1 x2) := by
  unfold f at H
  refine Rg V_ok 0 [] az ?_
  obtain ⟨n2, H⟩ := of_if H
  obtain ⟨n3, H⟩ := of_if H
  obtain ⟨y1, e4, H⟩ := of_bind H
  refine Rg V_ok 1 [(18, hr f_conf_At.S y1), (20, {sb := 1, bo := true})] (ac n2 (ac n3 (ac (f_conf_At.rl e4) az))) ?_
  refine GT (tn [0, 1, 6, 7] 2) (RI ?_)
  refine EV V_ok 0 [] 1 az ?_
  obtain ⟨y5, e6, H⟩ := of_bind H
  refine CL V_ok i_control_controller_two_ebc.at_ (i_control_controller_two_ebc.ok e6) ?_
  refine RN ?_
  rcases of_ite H with ⟨hb7, H⟩ | ⟨hb7, H⟩
  · refine C1 hb7 ?_
    obtain ⟨n9, H⟩ := of_if H
    obtain ⟨n10, H⟩ := of_if H
    obtain ⟨y8, e11, H⟩ := of_bind H
    refine Rg V_ok 2 [(19, hr f_conf_At.S y8), (21, {sb := 2, bo := true}), (22, hb 3)] (ac n9 (ac n10 (ac (f_conf_At.rl e11) (ac (show (1 + 1) * 32 ≤ 140737488355328 by decide) az)))) ?_
    refine GT (tl [0, 6, 7] [0, 3]) (RI ?_)
    refine EV V_ok 0 [] 1 az ?_
    obtain ⟨y12, e13, H⟩ := of_bind H
    refine CL V_ok i_slices_SortStableFunc_Ver_885m.at_ (i_slices_SortStableFunc_Ver_885m.ok e13) ?_
    refine RN ?_
    exact Jm (tn [0, 6, 7] 2) (j2_ok H)
  · refine C0 hb7 ?_
    exact Jm (tn [0, 6, 7] 2) (j2_ok H)
theorem ok {r k x1 x2} (H : f k x1 x2 = some r) : W P 1 c0 (s0 x1 x2) (CallQ 1 (out x2 r)) := of_G (f_ok H)
theorem at_ : FnAt P 46 70 c0 Go.Proofs.Try.f46.results := fnAt Go.Proofs.Try.func46 (by kernel_rfl) (by decide) (by kernel_rfl) (by kernel_rfl)
end i_control_controller_live_258m
/-! ### function 30, wayfinder/control.Live, whose answer is then the caller's own -/
namespace f_control_LiveO
noncomputable def c0 : Code := (Go.Proofs.Try.f30.body).getD .skip
abbrev ps : Sg := [(true, T26b3), (false, (.int .i64))]
abbrev rs : Sg := [(false, .slice T814c), (false, .int .i64)]
noncomputable def V : Env := { tt := tt, Γ := slk [] }
theorem V_ok : EnvOk P V := { ck := tt_ck, fits := slk_nil, mixed := mixed }
abbrev R := Tup rs
noncomputable abbrev Q (r : R) : Exit → St → Prop := QrO2 Go.Proofs.Try.f30.results 76 T814c .i64 r
noncomputable def f (k : Nat) (a1 : T26b3.T) (a2 : Int) : Option R :=
  (i_control_controller_is_e28m.f k a1).bind fun y1 =>
    if y1.1 = true then
      (i_control_controller_live_258m.f k a2 a1).bind fun y4 =>
        some (y4.2.1, (y4.1, ()))
    else
      some ([], ((0 : Int), ()))
noncomputable def S : Spec := ⟨ps, rs, .any, some 76, fun x r => ∃ k, f k x.1 x.2.1 = some r⟩
theorem rl {k a1 a2 r} (e : f k a1 a2 = some r) : S.rel (a1, a2, ()) r := ⟨k, e⟩
theorem f_ok {r k a1 a2} (H : f k a1 a2 = some r) : Gw P 0 (Q r) (Px c0 1 []) (⟨17, [(0, .cv (.agg (encC .any T26b3 a1))), (1, .cv (.one (.i a2)))], []⟩) := by
  unfold f at H
  refine Rg V_ok 1 [(0, hb 0)] az ?_
  refine Rg V_ok 1 [(2, hb 1)] az ?_
  refine GT (tl [1, 6] [1]) (RI ?_)
  refine EV V_ok 0 [] 1 az ?_
  obtain ⟨y1, e2, H⟩ := of_bind H
  refine CL V_ok i_control_controller_is_e28m.at_ (i_control_controller_is_e28m.ok e2) ?_
  refine RN ?_
  rcases of_ite H with ⟨hb3, H⟩ | ⟨hb3, H⟩
  · refine C1 hb3 ?_
    refine GT (tn [1, 6] 1) (RI ?_)
    refine EV V_ok 0 [] 2 az ?_
    obtain ⟨y4, e5, H⟩ := of_bind H
    refine CL V_ok i_control_controller_live_258m.at_ (i_control_controller_live_258m.ok e5) ?_
    refine EV V_ok 0 [] 4 az ?_
    refine RN ?_
    obtain rfl := Option.some.inj H
    exact LfO2 (by kernel_rfl)
  · refine C0 hb3 ?_
    refine Rg V_ok 0 [] az ?_
    refine GT {gr := 1, ad := [.ownT 4 1 76 T814c], live := [4, 5], src := [some 1]} ?_
    obtain rfl := Option.some.inj H
    exact LfO2 (by kernel_rfl)
theorem fits : Fits P 30 S := fits_ofO2 V_ok Go.Proofs.Try.func30 (by kernel_rfl) (by decide) (by decide) (fun x r ⟨k, H⟩ => of_G (f_ok H))
end f_control_LiveO
/-! ### function 32, wayfinder/audit.Clean$2, where it is called -/
namespace i_audit_Clean_2_f1c
noncomputable def c0 : Code := (Go.Proofs.Try.f32.body).getD .skip
noncomputable def V : Env := { tt := tt, Γ := slk [] }
theorem V_ok : EnvOk P V := { ck := tt_ck, fits := slk_nil, mixed := mixed }
abbrev R := (Bool) × Unit
noncomputable def s0 (x1 : T814c.T) (x2 : T64e3.T) (x3 : Tf20b.T) (x4 : List T814c.T) : St := ⟨7, [(0, .cv (.agg [.i x1.1, .sl T1383 x1.2 .any]))], [(.box 18, (encC .any T64e3 x2)), (.box 7, (encC .any Tf20b x3)), (.buf 76 T814c x4, [])]⟩
noncomputable def out (x2 : T64e3.T) (x3 : Tf20b.T) (x4 : List T814c.T) (r : R) : St := ⟨7, [(2, .cv (.one (.bool r.1)))], [(.box 18, (encC .any T64e3 x2)), (.box 7, (encC .any Tf20b x3)), (.buf 76 T814c x4, [])]⟩
abbrev Q (x2 : T64e3.T) (x3 : Tf20b.T) (x4 : List T814c.T) (r : R) := CallQ 3 (out x2 x3 x4 r)
noncomputable def f (k : Nat) (x1 : T814c.T) (x2 : T64e3.T) (x3 : Tf20b.T) (x4 : List T814c.T) : Option R :=
  some (((x1.2.length : Int) == (0 : Int)), ())
theorem f_ok {r k x1 x2 x3 x4} (H : f k x1 x2 x3 x4 = some r) : Gw P 3 (Q x2 x3 x4 r) (Px c0 1 []) (s0 x1 x2 x3 x4) := by
  unfold f at H
  refine Rg V_ok 1 [(0, hb 3)] az ?_
  refine Rg V_ok 0 [] az ?_
  obtain rfl := Option.some.inj H
  exact Lq (tn [2] 3)
theorem ok {r k x1 x2 x3 x4} (H : f k x1 x2 x3 x4 = some r) : W P 3 c0 (s0 x1 x2 x3 x4) (CallQ 3 (out x2 x3 x4 r)) := of_G (f_ok H)
theorem at_ : FnAt P 32 7 c0 Go.Proofs.Try.f32.results := fnAt Go.Proofs.Try.func32 (by kernel_rfl) (by decide) (by kernel_rfl) (by kernel_rfl)
end i_audit_Clean_2_f1c
/-! ### function 47, slices.IndexFunc[[]wayfinder/api.Ver,wayfinder/api.Ver], where it is called -/
namespace i_slices_IndexFunc_Ver_018
noncomputable def c0 : Code := (Go.Proofs.Try.f47.body).getD .skip
noncomputable def V : Env := { tt := tt, Γ := slk [] }
theorem V_ok : EnvOk P V := { ck := tt_ck, fits := slk_nil, mixed := mixed }
abbrev R := (Int) × Unit
noncomputable def s0 (x1 : T64e3.T) (x2 : Tf20b.T) (x3 : List T814c.T) : St := ⟨19, [(0, .cv (.one (.own 2))), (1, .cv (.one (.fn 32 [] [])))], [(.box 18, (encC .any T64e3 x1)), (.box 7, (encC .any Tf20b x2)), (.buf 76 T814c x3, [])]⟩
noncomputable def out (x1 : T64e3.T) (x2 : Tf20b.T) (x3 : List T814c.T) (r : R) : St := ⟨19, [(4, .cv (.one (.i r.1)))], [(.box 18, (encC .any T64e3 x1)), (.box 7, (encC .any Tf20b x2)), (.buf 76 T814c x3, [])]⟩
abbrev Q (x1 : T64e3.T) (x2 : Tf20b.T) (x3 : List T814c.T) (r : R) := CallQ 3 (out x1 x2 x3 r)
noncomputable def s1 (x1 : T64e3.T) (x2 : Tf20b.T) (x3 : List T814c.T) (p1 p2 : Int) : St := ⟨19, [(0, .cv (.one (.own 2))), (1, .cv (.one (.fn 32 [] []))), (7, .cv (.one (.i p1))), (8, .cv (.one (.i p2)))], [(.box 18, (encC .any T64e3 x1)), (.box 7, (encC .any Tf20b x2)), (.buf 76 T814c x3, [])]⟩
noncomputable def b1 (x1 : T64e3.T) (x2 : Tf20b.T) (x3 : List T814c.T) (L1 : Int → Int → Option R) (k : Nat) (p1 p2 : Int) : Option R :=
  if (decide (p2 < p1)) = true then
  if 0 ≤ p2 then
    if p2 < (x3.length : Int) then
      (i_audit_Clean_2_f1c.f k (att T814c x3 p2) x1 x2 x3).bind fun y4 =>
        if y4.1 = true then
          some (p2, ())
        else
          L1 p1 (IntKind.i64.wrap (p2 + 1))
    else none
  else none
else
  some ((-1), ())
theorem b1_ok {r x1 x2 x3} {L1 : Int → Int → Option R} {m1 : Nat} (hL1 : ∀ p1 p2, L1 p1 p2 = some r → Gw P 3 (Q x1 x2 x3 r) (Pb c0 21 [] m1) (s1 x1 x2 x3 p1 p2)) {k p1 p2} (H : b1 x1 x2 x3 L1 k p1 p2 = some r) : Gw P 3 (Q x1 x2 x3 r) (Px c0 37 [m1]) (s1 x1 x2 x3 p1 p2) := by
  unfold b1 at H
  refine Rg V_ok 0 [] az ?_
  rcases of_ite H with ⟨hb1, H⟩ | ⟨hb1, H⟩
  · refine C1 hb1 ?_
    refine Rg V_ok 0 [] az ?_
    refine GT (tn [0, 1, 5, 7, 8] 3) (RI ?_)
    obtain ⟨n2, H⟩ := of_if H
    obtain ⟨n3, H⟩ := of_if H
    refine EV V_ok 0 [] 5 (ac n2 (ac n3 az)) ?_
    obtain ⟨y4, e5, H⟩ := of_bind H
    refine CL V_ok i_audit_Clean_2_f1c.at_ (i_audit_Clean_2_f1c.ok e5) ?_
    refine RN ?_
    rcases of_ite H with ⟨hb6, H⟩ | ⟨hb6, H⟩
    · refine C1 hb6 ?_
      refine Rg V_ok 0 [] az ?_
      obtain rfl := Option.some.inj H
      exact Lq (tn [4] 3)
    · refine C0 hb6 ?_
      refine Rg V_ok 0 [] az ?_
      exact Jm (tn [0, 1, 7, 8] 3) (hL1 p1 (IntKind.i64.wrap (p2 + 1)) H)
  · refine C0 hb1 ?_
    refine Rg V_ok 0 [] az ?_
    obtain rfl := Option.some.inj H
    exact Lq (tn [4] 3)
noncomputable def l1 (x1 : T64e3.T) (x2 : Tf20b.T) (x3 : List T814c.T) (k : Nat) : Nat → Int → Int → Option R
  | 0, _, _ => none
  | m + 1, p1, p2 => b1 x1 x2 x3 (l1 x1 x2 x3 k m) k p1 p2
theorem l1_ok {r x1 x2 x3} (k : Nat) : ∀ (m1 : Nat) (p1 : Int) (p2 : Int), l1 x1 x2 x3 k m1 p1 p2 = some r → Gw P 3 (Q x1 x2 x3 r) (Pb c0 21 [] m1) (s1 x1 x2 x3 p1 p2)
  | 0, _, _, H => by cases H
  | m1 + 1, p1, p2, H => SU (by kernel_rfl) (b1_ok (l1_ok k m1) H)
noncomputable def f (k : Nat) (x1 : T64e3.T) (x2 : Tf20b.T) (x3 : List T814c.T) : Option R :=
  l1 x1 x2 x3 k k (x3.length : Int) 0
theorem f_ok {r k x1 x2 x3} (H : f k x1 x2 x3 = some r) : Gw P 3 (Q x1 x2 x3 r) (Px c0 1 []) (s0 x1 x2 x3) := by
  unfold f at H
  refine Rg V_ok 0 [] az ?_
  refine Rg V_ok 0 [] az ?_
  exact LP k (Jm (tn [0, 1, 7, 8] 3) (l1_ok k k (x3.length : Int) 0 H))
theorem ok {r k x1 x2 x3} (H : f k x1 x2 x3 = some r) : W P 3 c0 (s0 x1 x2 x3) (CallQ 3 (out x1 x2 x3 r)) := of_G (f_ok H)
theorem at_ : FnAt P 47 19 c0 Go.Proofs.Try.f47.results := fnAt Go.Proofs.Try.func47 (by kernel_rfl) (by decide) (by kernel_rfl) (by kernel_rfl)
end i_slices_IndexFunc_Ver_018
/-! ### function 32, wayfinder/audit.Clean$2, where it is called -/
namespace i_audit_Clean_2_807
noncomputable def c0 : Code := (Go.Proofs.Try.f32.body).getD .skip
noncomputable def V : Env := { tt := tt, Γ := slk [] }
theorem V_ok : EnvOk P V := { ck := tt_ck, fits := slk_nil, mixed := mixed }
abbrev R := (Bool) × Unit
noncomputable def s0 (x1 : T814c.T) (x2 : T64e3.T) (x3 : Tf20b.T) (x4 : List T814c.T) (x5 : T814c.T) : St := ⟨7, [(0, .cv (.agg [.i x1.1, .sl T1383 x1.2 .any]))], [(.box 18, (encC .any T64e3 x2)), (.box 7, (encC .any Tf20b x3)), (.buf 76 T814c x4, []), (.box 2, [.i x5.1, .sl T1383 x5.2 .any])]⟩
noncomputable def out (x2 : T64e3.T) (x3 : Tf20b.T) (x4 : List T814c.T) (x5 : T814c.T) (r : R) : St := ⟨7, [(2, .cv (.one (.bool r.1)))], [(.box 18, (encC .any T64e3 x2)), (.box 7, (encC .any Tf20b x3)), (.buf 76 T814c x4, []), (.box 2, [.i x5.1, .sl T1383 x5.2 .any])]⟩
abbrev Q (x2 : T64e3.T) (x3 : Tf20b.T) (x4 : List T814c.T) (x5 : T814c.T) (r : R) := CallQ 4 (out x2 x3 x4 x5 r)
noncomputable def f (k : Nat) (x1 : T814c.T) (x2 : T64e3.T) (x3 : Tf20b.T) (x4 : List T814c.T) (x5 : T814c.T) : Option R :=
  some (((x1.2.length : Int) == (0 : Int)), ())
theorem f_ok {r k x1 x2 x3 x4 x5} (H : f k x1 x2 x3 x4 x5 = some r) : Gw P 4 (Q x2 x3 x4 x5 r) (Px c0 1 []) (s0 x1 x2 x3 x4 x5) := by
  unfold f at H
  refine Rg V_ok 1 [(0, hb 4)] az ?_
  refine Rg V_ok 0 [] az ?_
  obtain rfl := Option.some.inj H
  exact Lq (tn [2] 4)
theorem ok {r k x1 x2 x3 x4 x5} (H : f k x1 x2 x3 x4 x5 = some r) : W P 4 c0 (s0 x1 x2 x3 x4 x5) (CallQ 4 (out x2 x3 x4 x5 r)) := of_G (f_ok H)
theorem at_ : FnAt P 32 7 c0 Go.Proofs.Try.f32.results := fnAt Go.Proofs.Try.func32 (by kernel_rfl) (by decide) (by kernel_rfl) (by kernel_rfl)
end i_audit_Clean_2_807
/-! ### function 31, slices.DeleteFunc[[]wayfinder/api.Ver,wayfinder/api.Ver], where it is called -/
namespace i_slices_DeleteFunc_Ver_018
noncomputable def c0 : Code := (Go.Proofs.Try.f31.body).getD .skip
noncomputable def V : Env := { tt := tt, Γ := slk [] }
theorem V_ok : EnvOk P V := { ck := tt_ck, fits := slk_nil, mixed := mixed }
abbrev R := (List T814c.T) × Unit
noncomputable def s0 (x1 : T64e3.T) (x2 : Tf20b.T) (x3 : List T814c.T) : St := ⟨42, [(0, .cv (.one (.own 2))), (1, .cv (.one (.fn 32 [] [])))], [(.box 18, (encC .any T64e3 x1)), (.box 7, (encC .any Tf20b x2)), (.buf 76 T814c x3, [])]⟩
noncomputable def out (x1 : T64e3.T) (x2 : Tf20b.T) (r : R) : St := ⟨42, [(4, .cv (.one (.sl T814c r.1 .any)))], [(.box 18, (encC .any T64e3 x1)), (.box 7, (encC .any Tf20b x2)), (.dead, [])]⟩
abbrev Q (x1 : T64e3.T) (x2 : Tf20b.T) (r : R) := CallQ 3 (out x1 x2 r)
noncomputable def s1 (x1 : T64e3.T) (x2 : Tf20b.T) (p1 p2 : Int) (p5 : List T814c.T) : St := ⟨42, [(0, .cv (.one (.own 2))), (1, .cv (.one (.fn 32 [] []))), (5, .cv (.one (.i p1))), (6, .cv (.one (.i p2)))], [(.box 18, (encC .any T64e3 x1)), (.box 7, (encC .any Tf20b x2)), (.buf 76 T814c p5, [])]⟩
noncomputable def s2 (x1 : T64e3.T) (x2 : Tf20b.T) (p1 p2 : Int) (p5 : List T814c.T) : St := ⟨42, [(0, .cv (.one (.own 2))), (1, .cv (.one (.fn 32 [] []))), (5, .cv (.one (.i p1))), (6, .cv (.one (.i p2)))], [(.box 18, (encC .any T64e3 x1)), (.box 7, (encC .any Tf20b x2)), (.buf 76 T814c p5, [])]⟩
noncomputable def j2 (x1 : T64e3.T) (x2 : Tf20b.T) (L1 : Int → Int → List T814c.T → Option R) (k : Nat) (p1 p2 : Int) (p5 : List T814c.T) : Option R :=
  L1 p1 (IntKind.i64.wrap (p2 + 1)) p5
theorem j2_ok {r x1 x2} {L1 : Int → Int → List T814c.T → Option R} {m1 : Nat} (hL1 : ∀ p1 p2 p5, L1 p1 p2 p5 = some r → Gw P 3 (Q x1 x2 r) (Pb c0 87 [] m1) (s1 x1 x2 p1 p2 p5)) {k p1 p2 p5} (H : j2 x1 x2 L1 k p1 p2 p5 = some r) : Gw P 3 (Q x1 x2 r) (Px c0 919 [m1]) (s2 x1 x2 p1 p2 p5) := by
  unfold j2 at H
  refine Rg V_ok 0 [] az ?_
  exact Jm (tn [0, 1, 5, 6] 3) (hL1 p1 (IntKind.i64.wrap (p2 + 1)) p5 H)
noncomputable def b1 (x1 : T64e3.T) (x2 : Tf20b.T) (L1 : Int → Int → List T814c.T → Option R) (k : Nat) (p1 p2 : Int) (p5 : List T814c.T) : Option R :=
  if (decide (p2 < (p5.length : Int))) = true then
  if 0 ≤ p2 then
    if p2 < (p5.length : Int) then
      (i_audit_Clean_2_807.f k (att T814c p5 p2) x1 x2 p5 (att T814c p5 p2)).bind fun y7 =>
        if (!y7.1) = true then
          if 0 ≤ p1 then
            if p1 < (p5.length : Int) then
              j2 x1 x2 L1 k (IntKind.i64.wrap (p1 + 1)) p2 (p5.set p1.toNat (att T814c p5 p2))
            else none
          else none
        else
          j2 x1 x2 L1 k p1 p2 p5
    else none
  else none
else
  if 0 ≤ p1 ∧ p1 ≤ (p5.length : Int) then
    if 0 ≤ p1 ∧ p1 ≤ ((p5.take p1.toNat ++ List.replicate (p5.length - p1.toNat) ((0, []) : T814c.T)).length : Int) then
      some (((p5.take p1.toNat ++ List.replicate (p5.length - p1.toNat) ((0, []) : T814c.T)).take p1.toNat), ())
    else none
  else none
theorem b1_ok {r x1 x2} {L1 : Int → Int → List T814c.T → Option R} {m1 : Nat} (hL1 : ∀ p1 p2 p5, L1 p1 p2 p5 = some r → Gw P 3 (Q x1 x2 r) (Pb c0 87 [] m1) (s1 x1 x2 p1 p2 p5)) {k p1 p2 p5} (H : b1 x1 x2 L1 k p1 p2 p5 = some r) : Gw P 3 (Q x1 x2 r) (Px c0 151 [m1]) (s1 x1 x2 p1 p2 p5) := by
  unfold b1 at H
  refine Rg V_ok 0 [] az ?_
  rcases of_ite H with ⟨hb4, H⟩ | ⟨hb4, H⟩
  · refine C1 hb4 ?_
    obtain ⟨n5, H⟩ := of_if H
    obtain ⟨n6, H⟩ := of_if H
    refine Rg V_ok 1 [(4, hb 3)] (ac n5 (ac n6 az)) ?_
    refine GT (tn [0, 1, 5, 6, 7] 4) (RI ?_)
    refine EV V_ok 0 [] 2 az ?_
    obtain ⟨y7, e8, H⟩ := of_bind H
    refine CL V_ok i_audit_Clean_2_807.at_ (i_audit_Clean_2_807.ok e8) ?_
    refine EV V_ok 0 [] 1 az ?_
    refine RN ?_
    rcases of_ite H with ⟨hb9, H⟩ | ⟨hb9, H⟩
    · refine C1 hb9 ?_
      obtain ⟨n10, H⟩ := of_if H
      obtain ⟨n11, H⟩ := of_if H
      refine Rg V_ok 0 [] (ac n10 (ac n11 az)) ?_
      refine Rg V_ok 0 [] az ?_
      exact Jm (tn [0, 1, 5, 6] 3) (j2_ok hL1 H)
    · refine C0 hb9 ?_
      exact Jm (tn [0, 1, 5, 6] 3) (j2_ok hL1 H)
  · refine C0 hb4 ?_
    obtain ⟨n12, H⟩ := of_if H
    refine Rg V_ok 0 [] (ac n12 az) ?_
    obtain ⟨n13, H⟩ := of_if H
    refine Rg V_ok 1 [(2, hb 3)] (ac n13 az) ?_
    obtain rfl := Option.some.inj H
    exact Lq {fz := [3], gr := 0, ad := [], live := [4], src := [some 0, some 1, some 2]}
noncomputable def l1 (x1 : T64e3.T) (x2 : Tf20b.T) (k : Nat) : Nat → Int → Int → List T814c.T → Option R
  | 0, _, _, _ => none
  | m + 1, p1, p2, p5 => b1 x1 x2 (l1 x1 x2 k m) k p1 p2 p5
theorem l1_ok {r x1 x2} (k : Nat) : ∀ (m1 : Nat) (p1 p2 : Int) (p5 : List T814c.T), l1 x1 x2 k m1 p1 p2 p5 = some r → Gw P 3 (Q x1 x2 r) (Pb c0 87 [] m1) (s1 x1 x2 p1 p2 p5)
  | 0, _, _, _, H => by cases H
  | m1 + 1, p1, p2, p5, H => SU (by kernel_rfl) (b1_ok (l1_ok k m1) H)
noncomputable def f (k : Nat) (x1 : T64e3.T) (x2 : Tf20b.T) (x3 : List T814c.T) : Option R :=
  (i_slices_IndexFunc_Ver_018.f k x1 x2 x3).bind fun y1 =>
    if (y1.1 == (-1 : Int)) = true then
      some (x3, ())
    else
      l1 x1 x2 k k y1.1 (IntKind.i64.wrap (y1.1 + 1)) x3
theorem f_ok {r k x1 x2 x3} (H : f k x1 x2 x3 = some r) : Gw P 3 (Q x1 x2 r) (Px c0 1 []) (s0 x1 x2 x3) := by
  unfold f at H
  refine Rg V_ok 0 [] az ?_
  refine GT (tn [0, 1] 3) (RI ?_)
  refine EV V_ok 0 [] 2 az ?_
  obtain ⟨y1, e2, H⟩ := of_bind H
  refine CL V_ok i_slices_IndexFunc_Ver_018.at_ (i_slices_IndexFunc_Ver_018.ok e2) ?_
  refine EV V_ok 0 [] 1 az ?_
  refine RN ?_
  refine Rg V_ok 0 [] az ?_
  rcases of_ite H with ⟨hb3, H⟩ | ⟨hb3, H⟩
  · refine C1 hb3 ?_
    refine Rg V_ok 0 [] az ?_
    obtain rfl := Option.some.inj H
    exact Lq {fz := [2], gr := 0, ad := [], live := [4], src := [some 0, some 1, some 2]}
  · refine C0 hb3 ?_
    refine Rg V_ok 0 [] az ?_
    exact LP k (Jm (tn [0, 1, 5, 6] 3) (l1_ok k k y1.1 (IntKind.i64.wrap (y1.1 + 1)) x3 H))
theorem ok {r k x1 x2 x3} (H : f k x1 x2 x3 = some r) : W P 3 c0 (s0 x1 x2 x3) (CallQ 3 (out x1 x2 r)) := of_G (f_ok H)
theorem at_ : FnAt P 31 42 c0 Go.Proofs.Try.f31.results := fnAt Go.Proofs.Try.func31 (by kernel_rfl) (by decide) (by kernel_rfl) (by kernel_rfl)
end i_slices_DeleteFunc_Ver_018
/-! ### function 28, wayfinder/audit.Clean$1, where it is called -/
namespace i_audit_Clean_1_3e3
noncomputable def c0 : Code := (Go.Proofs.Try.f28.body).getD .skip
noncomputable def V : Env := { tt := tt, Γ := slk [(29, f_digest_Of.S)] }
theorem V_ok : EnvOk P V := { ck := tt_ck, fits := slk_cons f_digest_Of.fits (slk_nil), mixed := mixed }
abbrev R := (Bool) × Unit
noncomputable def s0 (x1 x2 : T814c.T) (x3 : T64e3.T) (x4 : Tf20b.T) (x5 x6 : T814c.T) : St := ⟨23, [(0, .cv (.agg [.i x1.1, .sl T1383 x1.2 .any])), (1, .cv (.agg [.i x2.1, .sl T1383 x2.2 .any]))], [(.box 18, (encC .any T64e3 x3)), (.box 7, (encC .any Tf20b x4)), (.box 2, [.i x5.1, .sl T1383 x5.2 .any]), (.box 2, [.i x6.1, .sl T1383 x6.2 .any])]⟩
noncomputable def out (x3 : T64e3.T) (x4 : Tf20b.T) (x5 x6 : T814c.T) (r : R) : St := ⟨23, [(4, .cv (.one (.bool r.1)))], [(.box 18, (encC .any T64e3 x3)), (.box 7, (encC .any Tf20b x4)), (.box 2, [.i x5.1, .sl T1383 x5.2 .any]), (.box 2, [.i x6.1, .sl T1383 x6.2 .any])]⟩
abbrev Q (x3 : T64e3.T) (x4 : Tf20b.T) (x5 x6 : T814c.T) (r : R) := CallQ 4 (out x3 x4 x5 x6 r)
noncomputable def f (k : Nat) (x1 x2 : T814c.T) (x3 : T64e3.T) (x4 : Tf20b.T) (x5 x6 : T814c.T) : Option R :=
  if (x1.1 == x2.1) = true then
    (f_digest_Of.f k x1.1 x1.2).bind fun y1 =>
      (f_digest_Of.f k x1.1 x2.2).bind fun y2 =>
        some ((y1.1 == y2.1), ())
  else
    some (false, ())
theorem f_ok {r k x1 x2 x3 x4 x5 x6} (H : f k x1 x2 x3 x4 x5 x6 = some r) : Gw P 4 (Q x3 x4 x5 x6 r) (Px c0 1 []) (s0 x1 x2 x3 x4 x5 x6) := by
  unfold f at H
  refine Rg V_ok 2 [(0, hb 4), (1, hb 5)] az ?_
  rcases of_ite H with ⟨hb3, H⟩ | ⟨hb3, H⟩
  · obtain ⟨y1, e4, H⟩ := of_bind H
    obtain ⟨y2, e5, H⟩ := of_bind H
    refine Rg V_ok 0 [(4, {bv := some true}), (10, hr f_digest_Of.S y1), (15, hr f_digest_Of.S y2)] (ac hb3 (ac (f_digest_Of.rl e4) (ac (f_digest_Of.rl e5) az))) ?_
    obtain rfl := Option.some.inj H
    exact Lq (tn [4] 4)
  · refine Rg V_ok 0 [(4, {bv := some false})] (ac hb3 az) ?_
    obtain rfl := Option.some.inj H
    exact Lq (tn [4] 4)
theorem ok {r k x1 x2 x3 x4 x5 x6} (H : f k x1 x2 x3 x4 x5 x6 = some r) : W P 4 c0 (s0 x1 x2 x3 x4 x5 x6) (CallQ 4 (out x3 x4 x5 x6 r)) := of_G (f_ok H)
theorem at_ : FnAt P 28 23 c0 Go.Proofs.Try.f28.results := fnAt Go.Proofs.Try.func28 (by kernel_rfl) (by decide) (by kernel_rfl) (by kernel_rfl)
end i_audit_Clean_1_3e3
/-! ### function 33, slices.EqualFunc[[]wayfinder/api.Ver,[]wayfinder/api.Ver,wayfinder/api.Ver,wayfinder/api.Ver], where it is called -/
namespace i_slices_EqualFunc_Ver_Ver_Ver_Ver_f79
noncomputable def c0 : Code := (Go.Proofs.Try.f33.body).getD .skip
noncomputable def V : Env := { tt := tt, Γ := slk [] }
theorem V_ok : EnvOk P V := { ck := tt_ck, fits := slk_nil, mixed := mixed }
abbrev R := (Bool) × Unit
noncomputable def s0 (x1 x2 : List T814c.T) (x3 : T64e3.T) (x4 : Tf20b.T) : St := ⟨32, [(0, .cv (.one (.sl T814c x1 .any))), (1, .cv (.one (.sl T814c x2 .any))), (2, .cv (.one (.fn 28 [] [])))], [(.box 18, (encC .any T64e3 x3)), (.box 7, (encC .any Tf20b x4))]⟩
noncomputable def out (x3 : T64e3.T) (x4 : Tf20b.T) (r : R) : St := ⟨32, [(6, .cv (.one (.bool r.1)))], [(.box 18, (encC .any T64e3 x3)), (.box 7, (encC .any Tf20b x4))]⟩
abbrev Q (x3 : T64e3.T) (x4 : Tf20b.T) (r : R) := CallQ 2 (out x3 x4 r)
noncomputable def s1 (x1 x2 : List T814c.T) (x3 : T64e3.T) (x4 : Tf20b.T) (p3 p4 : Int) : St := ⟨32, [(1, .cv (.one (.sl T814c x2 .any))), (2, .cv (.one (.fn 28 [] []))), (15, .cv (.one (.sl T814c x1 .any))), (16, .cv (.one (.i p3))), (17, .cv (.one (.i p4)))], [(.box 18, (encC .any T64e3 x3)), (.box 7, (encC .any Tf20b x4))]⟩
noncomputable def b1 (x1 x2 : List T814c.T) (x3 : T64e3.T) (x4 : Tf20b.T) (L1 : Int → Int → Option R) (k : Nat) (p3 p4 : Int) : Option R :=
  if (decide (p4 < p3)) = true then
  if 0 ≤ p4 then
    if p4 < (x1.length : Int) then
      if p4 < (x2.length : Int) then
        (i_audit_Clean_1_3e3.f k (att T814c x1 p4) (att T814c x2 p4) x3 x4 (att T814c x1 p4) (att T814c x2 p4)).bind fun y6 =>
          if (!y6.1) = true then
            some (false, ())
          else
            L1 p3 (IntKind.i64.wrap (p4 + 1))
      else none
    else none
  else none
else
  some (true, ())
theorem b1_ok {r x1 x2 x3 x4} {L1 : Int → Int → Option R} {m1 : Nat} (hL1 : ∀ p3 p4, L1 p3 p4 = some r → Gw P 2 (Q x3 x4 r) (Pb c0 43 [] m1) (s1 x1 x2 x3 x4 p3 p4)) {k p3 p4} (H : b1 x1 x2 x3 x4 L1 k p3 p4 = some r) : Gw P 2 (Q x3 x4 r) (Px c0 75 [m1]) (s1 x1 x2 x3 x4 p3 p4) := by
  unfold b1 at H
  refine Rg V_ok 0 [] az ?_
  rcases of_ite H with ⟨hb2, H⟩ | ⟨hb2, H⟩
  · refine C1 hb2 ?_
    obtain ⟨n3, H⟩ := of_if H
    obtain ⟨n4, H⟩ := of_if H
    refine Rg V_ok 1 [(3, hb 2)] (ac n3 (ac n4 az)) ?_
    obtain ⟨n5, H⟩ := of_if H
    refine Rg V_ok 1 [(4, hb 3)] (ac n3 (ac n5 az)) ?_
    refine GT (tn [1, 2, 8, 9, 15, 16, 17] 4) (RI ?_)
    refine EV V_ok 0 [] 3 az ?_
    obtain ⟨y6, e7, H⟩ := of_bind H
    refine CL V_ok i_audit_Clean_1_3e3.at_ (i_audit_Clean_1_3e3.ok e7) ?_
    refine EV V_ok 0 [] 1 az ?_
    refine RN ?_
    rcases of_ite H with ⟨hb8, H⟩ | ⟨hb8, H⟩
    · refine C1 hb8 ?_
      refine Rg V_ok 0 [] az ?_
      obtain rfl := Option.some.inj H
      exact Lq (tn [6] 2)
    · refine C0 hb8 ?_
      refine Rg V_ok 0 [] az ?_
      exact Jm (tn [1, 2, 15, 16, 17] 2) (hL1 p3 (IntKind.i64.wrap (p4 + 1)) H)
  · refine C0 hb2 ?_
    refine Rg V_ok 0 [] az ?_
    obtain rfl := Option.some.inj H
    exact Lq (tn [6] 2)
noncomputable def l1 (x1 x2 : List T814c.T) (x3 : T64e3.T) (x4 : Tf20b.T) (k : Nat) : Nat → Int → Int → Option R
  | 0, _, _ => none
  | m + 1, p3, p4 => b1 x1 x2 x3 x4 (l1 x1 x2 x3 x4 k m) k p3 p4
theorem l1_ok {r x1 x2 x3 x4} (k : Nat) : ∀ (m1 : Nat) (p3 : Int) (p4 : Int), l1 x1 x2 x3 x4 k m1 p3 p4 = some r → Gw P 2 (Q x3 x4 r) (Pb c0 43 [] m1) (s1 x1 x2 x3 x4 p3 p4)
  | 0, _, _, H => by cases H
  | m1 + 1, p3, p4, H => SU (by kernel_rfl) (b1_ok (l1_ok k m1) H)
noncomputable def f (k : Nat) (x1 x2 : List T814c.T) (x3 : T64e3.T) (x4 : Tf20b.T) : Option R :=
  if ((x1.length : Int) != (x2.length : Int)) = true then
    some (false, ())
  else
    l1 x1 x2 x3 x4 k k (x1.length : Int) 0
theorem f_ok {r k x1 x2 x3 x4} (H : f k x1 x2 x3 x4 = some r) : Gw P 2 (Q x3 x4 r) (Px c0 1 []) (s0 x1 x2 x3 x4) := by
  unfold f at H
  refine Rg V_ok 0 [] az ?_
  refine Rg V_ok 0 [] az ?_
  rcases of_ite H with ⟨hb1, H⟩ | ⟨hb1, H⟩
  · refine C1 hb1 ?_
    refine Rg V_ok 0 [] az ?_
    obtain rfl := Option.some.inj H
    exact Lq (tn [6] 2)
  · refine C0 hb1 ?_
    refine Rg V_ok 0 [] az ?_
    exact LP k (Jm (tn [1, 2, 15, 16, 17] 2) (l1_ok k k (x1.length : Int) 0 H))
theorem ok {r k x1 x2 x3 x4} (H : f k x1 x2 x3 x4 = some r) : W P 2 c0 (s0 x1 x2 x3 x4) (CallQ 2 (out x3 x4 r)) := of_G (f_ok H)
theorem at_ : FnAt P 33 32 c0 Go.Proofs.Try.f33.results := fnAt Go.Proofs.Try.func33 (by kernel_rfl) (by decide) (by kernel_rfl) (by kernel_rfl)
end i_slices_EqualFunc_Ver_Ver_Ver_Ver_f79
/-! ### function 19, wayfinder/audit.Clean -/
namespace f_audit_Clean
noncomputable def c0 : Code := (Go.Proofs.Try.f19.body).getD .skip
abbrev ps : Sg := [(true, T64e3)]
abbrev rs : Sg := [(false, .bool)]
noncomputable def V : Env := { tt := tt, Γ := slk [(30, f_control_LiveO.S)] }
theorem V_ok : EnvOk P V := { ck := tt_ck, fits := slk_cons f_control_LiveO.fits (slk_nil), mixed := mixed }
abbrev R := Tup rs
noncomputable abbrev Q (r : R) : Exit → St → Prop := Qr tt Go.Proofs.Try.f19.results ⟨ps, rs, .any, none, fun _ _ => True⟩ r
noncomputable def s1 (a1 : T64e3.T) (p1 : List Tf20b.T) (p2 p3 : Int) : St := ⟨51, [(1, .cv (.one (.ptr 0 0))), (3, .cv (.one (.fn 28 [] []))), (17, .cv (.one (.sl Tf20b p1 .any))), (18, .cv (.one (.i p2))), (19, .cv (.one (.i p3)))], [(.box 18, (encC .any T64e3 a1))]⟩
noncomputable def s2 (a1 : T64e3.T) (p1 : List Tf20b.T) (p2 p3 : Int) (p4 : Bool) : St := ⟨51, [(1, .cv (.one (.ptr 0 0))), (3, .cv (.one (.fn 28 [] []))), (17, .cv (.one (.sl Tf20b p1 .any))), (18, .cv (.one (.i p2))), (19, .cv (.one (.i p3))), (49, .cv (.one (.bool p4)))], [(.box 18, (encC .any T64e3 a1))]⟩
noncomputable def j2 (a1 : T64e3.T) (L1 : List Tf20b.T → Int → Int → Option R) (k : Nat) (p1 : List Tf20b.T) (p2 p3 : Int) (p4 : Bool) : Option R :=
  if p4 = true then
  some (false, ())
else
  L1 p1 p2 (IntKind.i64.wrap (p3 + 1))
theorem j2_ok {r a1} {L1 : List Tf20b.T → Int → Int → Option R} {m1 : Nat} (hL1 : ∀ p1 p2 p3, L1 p1 p2 p3 = some r → Gw P 0 (Q r) (Pb c0 87 [] m1) (s1 a1 p1 p2 p3)) {k p1 p2 p3 p4} (H : j2 a1 L1 k p1 p2 p3 p4 = some r) : Gw P 0 (Q r) (Px c0 63895 [m1]) (s2 a1 p1 p2 p3 p4) := by
  unfold j2 at H
  rcases of_ite H with ⟨hb10, H⟩ | ⟨hb10, H⟩
  · refine C1 hb10 ?_
    refine Rg V_ok 0 [] az ?_
    exact Lf (Eq.trans (by kernel_rfl) H)
  · refine C0 hb10 ?_
    refine Rg V_ok 0 [] az ?_
    exact Jm (tn [1, 3, 17, 18, 19] 1) (hL1 p1 p2 (IntKind.i64.wrap (p3 + 1)) H)
noncomputable def b1 (a1 : T64e3.T) (L1 : List Tf20b.T → Int → Int → Option R) (k : Nat) (p1 : List Tf20b.T) (p2 p3 : Int) : Option R :=
  if (decide (p3 < p2)) = true then
  if 0 ≤ p3 then
    if p3 < (p1.length : Int) then
      (f_control_LiveO.f k a1.1 p3).bind fun y5 =>
        (i_slices_DeleteFunc_Ver_018.f k a1 (att Tf20b p1 p3) y5.1).bind fun y7 =>
          if (!(((att Tf20b p1 p3).2).2).1) = true then
            j2 a1 L1 k p1 p2 p3 true
          else
            if ((((((att Tf20b p1 p3).2).2).2).1) != y5.2.1) = true then
              j2 a1 L1 k p1 p2 p3 true
            else
              (i_slices_EqualFunc_Ver_Ver_Ver_Ver_f79.f k y7.1 (((((((att Tf20b p1 p3).2).2).2).2).2).1) a1 (att Tf20b p1 p3)).bind fun y12 =>
                j2 a1 L1 k p1 p2 p3 (!y12.1)
    else none
  else none
else
  some (true, ())
theorem b1_ok {r a1} {L1 : List Tf20b.T → Int → Int → Option R} {m1 : Nat} (hL1 : ∀ p1 p2 p3, L1 p1 p2 p3 = some r → Gw P 0 (Q r) (Pb c0 87 [] m1) (s1 a1 p1 p2 p3)) {k p1 p2 p3} (H : b1 a1 L1 k p1 p2 p3 = some r) : Gw P 0 (Q r) (Px c0 151 [m1]) (s1 a1 p1 p2 p3) := by
  unfold b1 at H
  refine Rg V_ok 0 [] az ?_
  rcases of_ite H with ⟨hb2, H⟩ | ⟨hb2, H⟩
  · refine C1 hb2 ?_
    obtain ⟨n3, H⟩ := of_if H
    obtain ⟨n4, H⟩ := of_if H
    refine Rg V_ok 1 [(3, hb 1)] (ac n3 (ac n4 az)) ?_
    obtain ⟨y5, e6, H⟩ := of_bind H
    refine Rg V_ok 1 [(3, {sb := 2, res := some ⟨f_control_LiveO.S.rs, y5⟩})] (ac (f_control_LiveO.rl e6) az) ?_
    refine GT (tn [1, 3, 5, 6, 7, 17, 18, 19] 3) (RI ?_)
    refine EV V_ok 0 [] 1 az ?_
    obtain ⟨y7, e8, H⟩ := of_bind H
    refine CL V_ok i_slices_DeleteFunc_Ver_018.at_ (i_slices_DeleteFunc_Ver_018.ok e8) ?_
    refine EV V_ok 0 [] 1 az ?_
    refine RN ?_
    refine GT (tn [1, 3, 5, 6, 7, 17, 18, 19] 2) (RI ?_)
    refine EV V_ok 0 [] 4 az ?_
    rcases of_ite H with ⟨hb9, H⟩ | ⟨hb9, H⟩
    · refine FXO 36 hb9 ?_
      refine EV V_ok 0 [] 6 az ?_
      refine EV V_ok 0 [] 7 az ?_
      refine RN ?_
      exact Jm (tn [1, 3, 17, 18, 19, 49] 1) (j2_ok hL1 H)
    · refine FXO 36 hb9 ?_
      refine EV V_ok 0 [] 6 az ?_
      rcases of_ite H with ⟨hb11, H⟩ | ⟨hb11, H⟩
      · refine FXO 42 hb11 ?_
        refine EV V_ok 0 [] 7 az ?_
        refine RN ?_
        exact Jm (tn [1, 3, 17, 18, 19, 49] 1) (j2_ok hL1 H)
      · refine FXO 42 hb11 ?_
        refine EV V_ok 0 [] 4 az ?_
        obtain ⟨y12, e13, H⟩ := of_bind H
        refine CL V_ok i_slices_EqualFunc_Ver_Ver_Ver_Ver_f79.at_ (i_slices_EqualFunc_Ver_Ver_Ver_Ver_f79.ok e13) ?_
        refine EV V_ok 0 [] 2 az ?_
        refine RN ?_
        exact Jm (tn [1, 3, 17, 18, 19, 49] 1) (j2_ok hL1 H)
  · refine C0 hb2 ?_
    refine Rg V_ok 0 [] az ?_
    exact Lf (Eq.trans (by kernel_rfl) H)
noncomputable def l1 (a1 : T64e3.T) (k : Nat) : Nat → List Tf20b.T → Int → Int → Option R
  | 0, _, _, _ => none
  | m + 1, p1, p2, p3 => b1 a1 (l1 a1 k m) k p1 p2 p3
theorem l1_ok {r a1} (k : Nat) : ∀ (m1 : Nat) (p1 : List Tf20b.T) (p2 : Int) (p3 : Int), l1 a1 k m1 p1 p2 p3 = some r → Gw P 0 (Q r) (Pb c0 87 [] m1) (s1 a1 p1 p2 p3)
  | 0, _, _, _, H => by cases H
  | m1 + 1, p1, p2, p3, H => SU (by kernel_rfl) (b1_ok (l1_ok k m1) H)
noncomputable def f (k : Nat) (a1 : T64e3.T) : Option R :=
  if ((a1.2.1.length : Int) != (a1.1.2.2.2.2.2.2.2.2.1.length : Int)) = true then
    some (false, ())
  else
    l1 a1 k k a1.2.1 (a1.2.1.length : Int) 0
noncomputable def S : Spec := ⟨ps, rs, .any, none, fun x r => ∃ k, f k x.1 = some r⟩
theorem rl {k a1 r} (e : f k a1 = some r) : S.rel (a1, ()) r := ⟨k, e⟩
theorem f_ok {r k a1} (H : f k a1 = some r) : Gw P 0 (Q r) (Px c0 1 []) (⟨51, [(0, .cv (.agg (encC .any T64e3 a1)))], []⟩) := by
  unfold f at H
  refine Rg V_ok 1 [(0, hb 0)] az ?_
  refine Rg V_ok 0 [] az ?_
  rcases of_ite H with ⟨hb1, H⟩ | ⟨hb1, H⟩
  · refine C1 hb1 ?_
    refine Rg V_ok 0 [] az ?_
    exact Lf (Eq.trans (by kernel_rfl) H)
  · refine C0 hb1 ?_
    refine Rg V_ok 0 [] az ?_
    refine Rg V_ok 0 [] az ?_
    exact LP k (Jm (tn [1, 3, 17, 18, 19] 1) (l1_ok k k a1.2.1 (a1.2.1.length : Int) 0 H))
theorem fits : Fits P 19 S := fits_of V_ok Go.Proofs.Try.func19 (by kernel_rfl) (by decide) (by decide) rfl (fun x r ⟨k, H⟩ => of_G (f_ok H))
end f_audit_Clean
/-! ### function 8, wayfinder/wayfinderlaw23.awake -/
namespace f_law23_awake
noncomputable def c0 : Code := (Go.Proofs.Try.f8.body).getD .skip
abbrev ps : Sg := []
abbrev rs : Sg := [(false, .bool)]
noncomputable def V : Env := { tt := tt, Γ := slk [(11, f_audit_Of.S), (14, f_audit_Tag.S), (16, f_audit_Follows.S), (17, f_path_Walk.S), (18, f_law13_Two.S), (19, f_audit_Clean.S), (20, f_fabric_New.S)] }
theorem V_ok : EnvOk P V := { ck := tt_ck, fits := slk_cons f_audit_Of.fits (slk_cons f_audit_Tag.fits (slk_cons f_audit_Follows.fits (slk_cons f_path_Walk.fits (slk_cons f_law13_Two.fits (slk_cons f_audit_Clean.fits (slk_cons f_fabric_New.fits (slk_nil))))))), mixed := mixed }
abbrev R := Tup rs
noncomputable abbrev Q (r : R) : Exit → St → Prop := Qr tt Go.Proofs.Try.f8.results ⟨ps, rs, .any, none, fun _ _ => True⟩ r
noncomputable def f (k : Nat) : Option R :=
  (f_law13_Two.f k).bind fun y1 =>
    (f_path_Walk.f k y1.1 y1.2.1 ((7, (0, (0, (5, 3)))), (0, 0))).bind fun y3 =>
      (f_audit_Follows.f k y1.1 y1.2.1 ((7, (0, (0, (5, 3)))), (0, 0)) y3.1).bind fun y5 =>
        if y5.1 = true then
          (f_audit_Follows.f k y1.1 y1.2.1 ((7, (0, (0, (5, 3)))), (0, 0)) []).bind fun y6 =>
            if y6.1 = true then
              (f_audit_Follows.f k y1.1 [] ((7, (0, (0, (5, 3)))), (0, 0)) y3.1).bind fun y7 =>
                if (!y7.1) = true then
                  (f_audit_Tag.f k y3.1).bind fun y8 =>
                    if (y8.1 == (3 : Int)) = true then
                      (f_audit_Of.f k y3.1 (7 : Int)).bind fun y9 =>
                        if ((y9.1.length : Int) == (2 : Int)) = true then
                          (f_fabric_New.f k y1.1).bind fun y10 =>
                            (f_audit_Clean.f k y10.1).bind fun y11 =>
                              some ((!y11.1), ())
                        else
                          some (false, ())
                    else
                      some (false, ())
                else
                  some (false, ())
            else
              some (false, ())
        else
          some (false, ())
noncomputable def S : Spec := ⟨ps, rs, .any, none, fun x r => ∃ k, f k = some r⟩
theorem rl {k r} (e : f k = some r) : S.rel (()) r := ⟨k, e⟩
theorem f_ok {r k} (H : f k = some r) : Gw P 0 (Q r) (Px c0 1 []) (⟨50, [], []⟩) := by
  unfold f at H
  refine Rg V_ok 0 [] az ?_
  obtain ⟨y1, e2, H⟩ := of_bind H
  refine Rg V_ok 1 [(0, hr f_law13_Two.S y1), (4, hb 0)] (ac (f_law13_Two.rl e2) az) ?_
  refine Rg V_ok 1 [(2, hb 1)] az ?_
  obtain ⟨y3, e4, H⟩ := of_bind H
  refine Rg V_ok 0 [(3, hr f_path_Walk.S y3)] (ac (f_path_Walk.rl e4) az) ?_
  obtain ⟨y5, e12, H⟩ := of_bind H
  rcases of_ite H with ⟨hb13, H⟩ | ⟨hb13, H⟩
  · obtain ⟨y6, e14, H⟩ := of_bind H
    rcases of_ite H with ⟨hb15, H⟩ | ⟨hb15, H⟩
    · obtain ⟨y7, e16, H⟩ := of_bind H
      rcases of_ite H with ⟨hb17, H⟩ | ⟨hb17, H⟩
      · obtain ⟨y8, e18, H⟩ := of_bind H
        rcases of_ite H with ⟨hb19, H⟩ | ⟨hb19, H⟩
        · obtain ⟨y9, e20, H⟩ := of_bind H
          rcases of_ite H with ⟨hb21, H⟩ | ⟨hb21, H⟩
          · obtain ⟨y10, e22, H⟩ := of_bind H
            obtain ⟨y11, e23, H⟩ := of_bind H
            refine Rg V_ok 0 [(4, {res := some ⟨f_audit_Follows.S.rs, y5⟩, bv := some true}), (9, hr f_audit_Follows.S y6), (10, {bv := some true}), (15, hr f_audit_Follows.S y7), (17, {bv := some true}), (20, hr f_audit_Tag.S y8), (22, {bv := some true}), (25, hr f_audit_Of.S y9), (28, {bv := some true}), (31, hr f_fabric_New.S y10), (32, hr f_audit_Clean.S y11)] (ac (f_audit_Follows.rl e12) (ac hb13 (ac (f_audit_Follows.rl e14) (ac hb15 (ac (f_audit_Follows.rl e16) (ac hb17 (ac (f_audit_Tag.rl e18) (ac hb19 (ac (f_audit_Of.rl e20) (ac hb21 (ac (f_fabric_New.rl e22) (ac (f_audit_Clean.rl e23) az)))))))))))) ?_
            exact Lf (Eq.trans (by kernel_rfl) H)
          · refine Rg V_ok 0 [(4, {res := some ⟨f_audit_Follows.S.rs, y5⟩, bv := some true}), (9, hr f_audit_Follows.S y6), (10, {bv := some true}), (15, hr f_audit_Follows.S y7), (17, {bv := some true}), (20, hr f_audit_Tag.S y8), (22, {bv := some true}), (25, hr f_audit_Of.S y9), (28, {bv := some false})] (ac (f_audit_Follows.rl e12) (ac hb13 (ac (f_audit_Follows.rl e14) (ac hb15 (ac (f_audit_Follows.rl e16) (ac hb17 (ac (f_audit_Tag.rl e18) (ac hb19 (ac (f_audit_Of.rl e20) (ac hb21 az)))))))))) ?_
            exact Lf (Eq.trans (by kernel_rfl) H)
        · refine Rg V_ok 0 [(4, {res := some ⟨f_audit_Follows.S.rs, y5⟩, bv := some true}), (9, hr f_audit_Follows.S y6), (10, {bv := some true}), (15, hr f_audit_Follows.S y7), (17, {bv := some true}), (20, hr f_audit_Tag.S y8), (22, {bv := some false})] (ac (f_audit_Follows.rl e12) (ac hb13 (ac (f_audit_Follows.rl e14) (ac hb15 (ac (f_audit_Follows.rl e16) (ac hb17 (ac (f_audit_Tag.rl e18) (ac hb19 az)))))))) ?_
          exact Lf (Eq.trans (by kernel_rfl) H)
      · refine Rg V_ok 0 [(4, {res := some ⟨f_audit_Follows.S.rs, y5⟩, bv := some true}), (9, hr f_audit_Follows.S y6), (10, {bv := some true}), (15, hr f_audit_Follows.S y7), (17, {bv := some false})] (ac (f_audit_Follows.rl e12) (ac hb13 (ac (f_audit_Follows.rl e14) (ac hb15 (ac (f_audit_Follows.rl e16) (ac hb17 az)))))) ?_
        exact Lf (Eq.trans (by kernel_rfl) H)
    · refine Rg V_ok 0 [(4, {res := some ⟨f_audit_Follows.S.rs, y5⟩, bv := some true}), (9, hr f_audit_Follows.S y6), (10, {bv := some false})] (ac (f_audit_Follows.rl e12) (ac hb13 (ac (f_audit_Follows.rl e14) (ac hb15 az)))) ?_
      exact Lf (Eq.trans (by kernel_rfl) H)
  · refine Rg V_ok 0 [(4, {res := some ⟨f_audit_Follows.S.rs, y5⟩, bv := some false})] (ac (f_audit_Follows.rl e12) (ac hb13 az)) ?_
    exact Lf (Eq.trans (by kernel_rfl) H)
theorem fits : Fits P 8 S := fits_of V_ok Go.Proofs.Try.func8 (by kernel_rfl) (by decide) (by decide) rfl (fun x r ⟨k, H⟩ => of_G (f_ok H))
end f_law23_awake
/-! ### function 9, wayfinder/wayfinderlaw12.Few -/
namespace f_law12_Few
noncomputable def c0 : Code := (Go.Proofs.Try.f9.body).getD .skip
abbrev ps : Sg := [(false, (.slice (.slice T1383)))]
abbrev rs : Sg := [(false, .bool)]
noncomputable def V : Env := { tt := tt, Γ := slk [] }
theorem V_ok : EnvOk P V := { ck := tt_ck, fits := slk_nil, mixed := mixed }
abbrev R := Tup rs
noncomputable abbrev Q (r : R) : Exit → St → Prop := Qr tt Go.Proofs.Try.f9.results ⟨ps, rs, .any, none, fun _ _ => True⟩ r
noncomputable def s1 (p1 : List (List T1383.T)) (p2 : Int) : St := ⟨19, [(0, .cv (.one (.sl (.slice T1383) p1 .any))), (3, .cv (.one (.i p2)))], []⟩
noncomputable def b1 (L1 : List (List T1383.T) → Int → Option R) (k : Nat) (p1 : List (List T1383.T)) (p2 : Int) : Option R :=
  if (decide (p2 < (p1.length : Int))) = true then
  if 0 ≤ p2 then
    if p2 < (p1.length : Int) then
      if (decide (((att (.slice T1383) p1 p2).length : Int) > (60 : Int))) = true then
        some (false, ())
      else
        L1 p1 (IntKind.i64.wrap (p2 + 1))
    else none
  else none
else
  some (true, ())
theorem b1_ok {r} {L1 : List (List T1383.T) → Int → Option R} {m1 : Nat} (hL1 : ∀ p1 p2, L1 p1 p2 = some r → Gw P 0 (Q r) (Pb c0 43 [] m1) (s1 p1 p2)) {k p1 p2} (H : b1 L1 k p1 p2 = some r) : Gw P 0 (Q r) (Px c0 75 [m1]) (s1 p1 p2) := by
  unfold b1 at H
  refine Rg V_ok 0 [] az ?_
  rcases of_ite H with ⟨hb2, H⟩ | ⟨hb2, H⟩
  · refine C1 hb2 ?_
    obtain ⟨n3, H⟩ := of_if H
    obtain ⟨n4, H⟩ := of_if H
    refine Rg V_ok 0 [] (ac n3 (ac n4 az)) ?_
    rcases of_ite H with ⟨hb5, H⟩ | ⟨hb5, H⟩
    · refine C1 hb5 ?_
      refine Rg V_ok 0 [] az ?_
      exact Lf (Eq.trans (by kernel_rfl) H)
    · refine C0 hb5 ?_
      refine Rg V_ok 0 [] az ?_
      exact Jm (tn [0, 3] 0) (hL1 p1 (IntKind.i64.wrap (p2 + 1)) H)
  · refine C0 hb2 ?_
    refine Rg V_ok 0 [] az ?_
    exact Lf (Eq.trans (by kernel_rfl) H)
noncomputable def l1 (k : Nat) : Nat → List (List T1383.T) → Int → Option R
  | 0, _, _ => none
  | m + 1, p1, p2 => b1 (l1 k m) k p1 p2
theorem l1_ok {r} (k : Nat) : ∀ (m1 : Nat) (p1 : List (List T1383.T)) (p2 : Int), l1 k m1 p1 p2 = some r → Gw P 0 (Q r) (Pb c0 43 [] m1) (s1 p1 p2)
  | 0, _, _, H => by cases H
  | m1 + 1, p1, p2, H => SU (by kernel_rfl) (b1_ok (l1_ok k m1) H)
noncomputable def f (k : Nat) (a1 : List (List T1383.T)) : Option R :=
  if (decide ((a1.length : Int) > (10 : Int))) = true then
    some (false, ())
  else
    l1 k k a1 0
noncomputable def S : Spec := ⟨ps, rs, .any, none, fun x r => ∃ k, f k x.1 = some r⟩
theorem rl {k a1 r} (e : f k a1 = some r) : S.rel (a1, ()) r := ⟨k, e⟩
theorem f_ok {r k a1} (H : f k a1 = some r) : Gw P 0 (Q r) (Px c0 1 []) (⟨19, [(0, .cv (.one (.sl (.slice T1383) a1 .any)))], []⟩) := by
  unfold f at H
  refine Rg V_ok 0 [] az ?_
  refine Rg V_ok 0 [] az ?_
  rcases of_ite H with ⟨hb1, H⟩ | ⟨hb1, H⟩
  · refine C1 hb1 ?_
    refine Rg V_ok 0 [] az ?_
    exact Lf (Eq.trans (by kernel_rfl) H)
  · refine C0 hb1 ?_
    refine Rg V_ok 0 [] az ?_
    exact LP k (Jm (tn [0, 3] 0) (l1_ok k k a1 0 H))
theorem fits : Fits P 9 S := fits_of V_ok Go.Proofs.Try.func9 (by kernel_rfl) (by decide) (by decide) rfl (fun x r ⟨k, H⟩ => of_G (f_ok H))
end f_law12_Few
/-! ### function 12, wayfinder/wayfinderref23.Of -/
namespace f_ref23_Of
noncomputable def c0 : Code := (Go.Proofs.Try.f12.body).getD .skip
abbrev ps : Sg := [(false, (.slice Td8a9)), (false, (.int .i64))]
abbrev rs : Sg := [(false, (.slice Td8a9))]
noncomputable def V : Env := { tt := tt, Γ := slk [] }
theorem V_ok : EnvOk P V := { ck := tt_ck, fits := slk_nil, mixed := mixed }
abbrev R := Tup rs
noncomputable abbrev Q (r : R) : Exit → St → Prop := Qr tt Go.Proofs.Try.f12.results ⟨ps, rs, .any, none, fun _ _ => True⟩ r
noncomputable def s1 (a1 : List Td8a9.T) (a2 p3 : Int) (p4 : List Td8a9.T) : St := ⟨28, [(0, .cv (.one (.sl Td8a9 a1 .any))), (1, .cv (.one (.i a2))), (5, .cv (.one (.own 0))), (6, .cv (.one (.i p3)))], [(.buf 41 Td8a9 p4, [])]⟩
noncomputable def s2 (a1 : List Td8a9.T) (a2 p3 : Int) (p4 : List Td8a9.T) : St := ⟨28, [(0, .cv (.one (.sl Td8a9 a1 .any))), (1, .cv (.one (.i a2))), (5, .cv (.one (.own 0))), (6, .cv (.one (.i p3)))], [(.buf 41 Td8a9 p4, [])]⟩
noncomputable def j2 (a1 : List Td8a9.T) (a2 : Int) (L1 : Int → List Td8a9.T → Option R) (k : Nat) (p3 : Int) (p4 : List Td8a9.T) : Option R :=
  L1 (IntKind.i64.wrap (p3 + 1)) p4
theorem j2_ok {r a1 a2} {L1 : Int → List Td8a9.T → Option R} {m1 : Nat} (hL1 : ∀ p3 p4, L1 p3 p4 = some r → Gw P 0 (Q r) (Pb c0 43 [] m1) (s1 a1 a2 p3 p4)) {k p3 p4} (H : j2 a1 a2 L1 k p3 p4 = some r) : Gw P 0 (Q r) (Px c0 459 [m1]) (s2 a1 a2 p3 p4) := by
  unfold j2 at H
  refine Rg V_ok 0 [] az ?_
  exact Jm (tn [0, 1, 5, 6] 1) (hL1 (IntKind.i64.wrap (p3 + 1)) p4 H)
noncomputable def b1 (a1 : List Td8a9.T) (a2 : Int) (L1 : Int → List Td8a9.T → Option R) (k : Nat) (p3 : Int) (p4 : List Td8a9.T) : Option R :=
  if (decide (p3 < (a1.length : Int))) = true then
  if 0 ≤ p3 then
    if p3 < (a1.length : Int) then
      if ((((att Td8a9 a1 p3).2).1) == a2) = true then
        if (p4.length + 1) * 56 ≤ 140737488355328 then
          j2 a1 a2 L1 k p3 (p4 ++ [(att Td8a9 a1 p3)])
        else none
      else
        j2 a1 a2 L1 k p3 p4
    else none
  else none
else
  some (p4, ())
theorem b1_ok {r a1 a2} {L1 : Int → List Td8a9.T → Option R} {m1 : Nat} (hL1 : ∀ p3 p4, L1 p3 p4 = some r → Gw P 0 (Q r) (Pb c0 43 [] m1) (s1 a1 a2 p3 p4)) {k p3 p4} (H : b1 a1 a2 L1 k p3 p4 = some r) : Gw P 0 (Q r) (Px c0 75 [m1]) (s1 a1 a2 p3 p4) := by
  unfold b1 at H
  refine Rg V_ok 0 [] az ?_
  rcases of_ite H with ⟨hb1, H⟩ | ⟨hb1, H⟩
  · refine C1 hb1 ?_
    obtain ⟨n2, H⟩ := of_if H
    obtain ⟨n3, H⟩ := of_if H
    refine Rg V_ok 0 [] (ac n2 (ac n3 az)) ?_
    rcases of_ite H with ⟨hb4, H⟩ | ⟨hb4, H⟩
    · refine C1 hb4 ?_
      obtain ⟨n5, H⟩ := of_if H
      refine Rg V_ok 1 [(6, hb 1)] (ac n2 (ac n3 (ac n5 az))) ?_
      exact Jm (tl [0, 1, 5, 6] [1]) (j2_ok hL1 H)
    · refine C0 hb4 ?_
      exact Jm (tn [0, 1, 5, 6] 1) (j2_ok hL1 H)
  · refine C0 hb1 ?_
    refine Rg V_ok 0 [] az ?_
    exact Lf (Eq.trans (by kernel_rfl) H)
noncomputable def l1 (a1 : List Td8a9.T) (a2 : Int) (k : Nat) : Nat → Int → List Td8a9.T → Option R
  | 0, _, _ => none
  | m + 1, p3, p4 => b1 a1 a2 (l1 a1 a2 k m) k p3 p4
theorem l1_ok {r a1 a2} (k : Nat) : ∀ (m1 : Nat) (p3 : Int) (p4 : List Td8a9.T), l1 a1 a2 k m1 p3 p4 = some r → Gw P 0 (Q r) (Pb c0 43 [] m1) (s1 a1 a2 p3 p4)
  | 0, _, _, H => by cases H
  | m1 + 1, p3, p4, H => SU (by kernel_rfl) (b1_ok (l1_ok k m1) H)
noncomputable def f (k : Nat) (a1 : List Td8a9.T) (a2 : Int) : Option R :=
  l1 a1 a2 k k 0 []
noncomputable def S : Spec := ⟨ps, rs, .any, none, fun x r => ∃ k, f k x.1 x.2.1 = some r⟩
theorem rl {k a1 a2 r} (e : f k a1 a2 = some r) : S.rel (a1, a2, ()) r := ⟨k, e⟩
theorem f_ok {r k a1 a2} (H : f k a1 a2 = some r) : Gw P 0 (Q r) (Px c0 1 []) (⟨28, [(0, .cv (.one (.sl Td8a9 a1 .any))), (1, .cv (.one (.i a2)))], []⟩) := by
  unfold f at H
  refine Rg V_ok 0 [] az ?_
  refine Rg V_ok 0 [] az ?_
  refine Rg V_ok 0 [] az ?_
  exact LP k (Jm {fz := [], gr := 1, ad := [.ownT 5 0 41 Td8a9], live := [0, 1, 5, 6], src := [some 0]} (l1_ok k k 0 [] H))
theorem fits : Fits P 12 S := fits_of V_ok Go.Proofs.Try.func12 (by kernel_rfl) (by decide) (by decide) rfl (fun x r ⟨k, H⟩ => of_G (f_ok H))
end f_ref23_Of
/-! ### function 10, wayfinder/wayfinderref13.Same -/
namespace f_ref13_Same
noncomputable def c0 : Code := (Go.Proofs.Try.f10.body).getD .skip
abbrev ps : Sg := [(false, (.slice Td8a9)), (false, (.slice Td8a9))]
abbrev rs : Sg := [(false, .bool)]
noncomputable def V : Env := { tt := tt, Γ := slk [] }
theorem V_ok : EnvOk P V := { ck := tt_ck, fits := slk_nil, mixed := mixed }
abbrev R := Tup rs
noncomputable abbrev Q (r : R) : Exit → St → Prop := Qr tt Go.Proofs.Try.f10.results ⟨ps, rs, .any, none, fun _ _ => True⟩ r
noncomputable def s1 (a1 a2 : List Td8a9.T) (p3 : Int) : St := ⟨26, [(0, .cv (.one (.sl Td8a9 a1 .any))), (1, .cv (.one (.sl Td8a9 a2 .any))), (5, .cv (.one (.i p3)))], []⟩
noncomputable def b1 (a1 a2 : List Td8a9.T) (L1 : Int → Option R) (k : Nat) (p3 : Int) : Option R :=
  if (decide (p3 < (a1.length : Int))) = true then
  if 0 ≤ p3 then
    if p3 < (a1.length : Int) then
      if p3 < (a2.length : Int) then
        if (!((((att Td8a9 a1 p3).1) == ((att Td8a9 a2 p3).1)) && (((((att Td8a9 a1 p3).2).1) == (((att Td8a9 a2 p3).2).1)) && ((((((att Td8a9 a1 p3).2).2).1) == ((((att Td8a9 a2 p3).2).2).1)) && (((((((att Td8a9 a1 p3).2).2).2).1) == (((((att Td8a9 a2 p3).2).2).2).1)) && ((((((((att Td8a9 a1 p3).2).2).2).2).1) == ((((((att Td8a9 a2 p3).2).2).2).2).1)) && (((((((((att Td8a9 a1 p3).2).2).2).2).2).1) == (((((((att Td8a9 a2 p3).2).2).2).2).2).1)) && (((((((((att Td8a9 a1 p3).2).2).2).2).2).2) == (((((((att Td8a9 a2 p3).2).2).2).2).2).2)) && true)))))))) = true then
          some (false, ())
        else
          L1 (IntKind.i64.wrap (p3 + 1))
      else none
    else none
  else none
else
  some (true, ())
theorem b1_ok {r a1 a2} {L1 : Int → Option R} {m1 : Nat} (hL1 : ∀ p3, L1 p3 = some r → Gw P 0 (Q r) (Pb c0 43 [] m1) (s1 a1 a2 p3)) {k p3} (H : b1 a1 a2 L1 k p3 = some r) : Gw P 0 (Q r) (Px c0 75 [m1]) (s1 a1 a2 p3) := by
  unfold b1 at H
  refine Rg V_ok 0 [] az ?_
  rcases of_ite H with ⟨hb2, H⟩ | ⟨hb2, H⟩
  · refine C1 hb2 ?_
    obtain ⟨n3, H⟩ := of_if H
    obtain ⟨n4, H⟩ := of_if H
    obtain ⟨n5, H⟩ := of_if H
    refine Rg V_ok 0 [] (ac n3 (ac n4 (ac n3 (ac n5 az)))) ?_
    rcases of_ite H with ⟨hb6, H⟩ | ⟨hb6, H⟩
    · refine C1 hb6 ?_
      refine Rg V_ok 0 [] az ?_
      exact Lf (Eq.trans (by kernel_rfl) H)
    · refine C0 hb6 ?_
      refine Rg V_ok 0 [] az ?_
      exact Jm (tn [0, 1, 5] 0) (hL1 (IntKind.i64.wrap (p3 + 1)) H)
  · refine C0 hb2 ?_
    refine Rg V_ok 0 [] az ?_
    exact Lf (Eq.trans (by kernel_rfl) H)
noncomputable def l1 (a1 a2 : List Td8a9.T) (k : Nat) : Nat → Int → Option R
  | 0, _ => none
  | m + 1, p3 => b1 a1 a2 (l1 a1 a2 k m) k p3
theorem l1_ok {r a1 a2} (k : Nat) : ∀ (m1 : Nat) (p3 : Int), l1 a1 a2 k m1 p3 = some r → Gw P 0 (Q r) (Pb c0 43 [] m1) (s1 a1 a2 p3)
  | 0, _, H => by cases H
  | m1 + 1, p3, H => SU (by kernel_rfl) (b1_ok (l1_ok k m1) H)
noncomputable def f (k : Nat) (a1 a2 : List Td8a9.T) : Option R :=
  if ((a1.length : Int) != (a2.length : Int)) = true then
    some (false, ())
  else
    l1 a1 a2 k k 0
noncomputable def S : Spec := ⟨ps, rs, .any, none, fun x r => ∃ k, f k x.1 x.2.1 = some r⟩
theorem rl {k a1 a2 r} (e : f k a1 a2 = some r) : S.rel (a1, a2, ()) r := ⟨k, e⟩
theorem f_ok {r k a1 a2} (H : f k a1 a2 = some r) : Gw P 0 (Q r) (Px c0 1 []) (⟨26, [(0, .cv (.one (.sl Td8a9 a1 .any))), (1, .cv (.one (.sl Td8a9 a2 .any)))], []⟩) := by
  unfold f at H
  refine Rg V_ok 0 [] az ?_
  refine Rg V_ok 0 [] az ?_
  rcases of_ite H with ⟨hb1, H⟩ | ⟨hb1, H⟩
  · refine C1 hb1 ?_
    refine Rg V_ok 0 [] az ?_
    exact Lf (Eq.trans (by kernel_rfl) H)
  · refine C0 hb1 ?_
    refine Rg V_ok 0 [] az ?_
    exact LP k (Jm (tn [0, 1, 5] 0) (l1_ok k k 0 H))
theorem fits : Fits P 10 S := fits_of V_ok Go.Proofs.Try.func10 (by kernel_rfl) (by decide) (by decide) rfl (fun x r ⟨k, H⟩ => of_G (f_ok H))
end f_ref13_Same
/-! ### function 51, wayfinder/wayfinderref12.At -/
namespace f_ref12_At
noncomputable def c0 : Code := (Go.Proofs.Try.f51.body).getD .skip
abbrev ps : Sg := [(false, (.slice (.slice T1383))), (false, (.int .i64))]
abbrev rs : Sg := [(false, (.slice T1383))]
noncomputable def V : Env := { tt := tt, Γ := slk [] }
theorem V_ok : EnvOk P V := { ck := tt_ck, fits := slk_nil, mixed := mixed }
abbrev R := Tup rs
noncomputable abbrev Q (r : R) : Exit → St → Prop := Qr tt Go.Proofs.Try.f51.results ⟨ps, rs, .any, none, fun _ _ => True⟩ r
noncomputable def s1 (a1 : List (List T1383.T)) (a2 : Int) (p3 : Bool) : St := ⟨18, [(0, .cv (.one (.sl (.slice T1383) a1 .any))), (1, .cv (.one (.i a2))), (12, .cv (.one (.bool p3)))], []⟩
noncomputable def j1 (a1 : List (List T1383.T)) (a2 : Int) (k : Nat) (p3 : Bool) : Option R :=
  if p3 = true then
  some ([], ())
else
  if 0 ≤ a2 then
    if a2 < (a1.length : Int) then
      if (att (.slice T1383) a1 a2).length * 48 ≤ 140737488355328 then
        some ((att (.slice T1383) a1 a2), ())
      else none
    else none
  else none
theorem j1_ok {r a1 a2} {k p3} (H : j1 a1 a2 k p3 = some r) : Gw P 0 (Q r) (Px c0 13 []) (s1 a1 a2 p3) := by
  unfold j1 at H
  rcases of_ite H with ⟨hb2, H⟩ | ⟨hb2, H⟩
  · refine C1 hb2 ?_
    refine Rg V_ok 0 [] az ?_
    exact Lf (Eq.trans (by kernel_rfl) H)
  · refine C0 hb2 ?_
    obtain ⟨n3, H⟩ := of_if H
    obtain ⟨n4, H⟩ := of_if H
    obtain ⟨n5, H⟩ := of_if H
    refine Rg V_ok 1 [(4, hb 0)] (ac n3 (ac n4 (ac n5 az))) ?_
    exact Lf (Eq.trans (by kernel_rfl) H)
noncomputable def f (k : Nat) (a1 : List (List T1383.T)) (a2 : Int) : Option R :=
  if (decide (a2 < (0 : Int))) = true then
    j1 a1 a2 k true
  else
    j1 a1 a2 k (decide (a2 ≥ (a1.length : Int)))
noncomputable def S : Spec := ⟨ps, rs, .any, none, fun x r => ∃ k, f k x.1 x.2.1 = some r⟩
theorem rl {k a1 a2 r} (e : f k a1 a2 = some r) : S.rel (a1, a2, ()) r := ⟨k, e⟩
theorem f_ok {r k a1 a2} (H : f k a1 a2 = some r) : Gw P 0 (Q r) (Px c0 1 []) (⟨18, [(0, .cv (.one (.sl (.slice T1383) a1 .any))), (1, .cv (.one (.i a2)))], []⟩) := by
  unfold f at H
  refine Rg V_ok 0 [] az ?_
  rcases of_ite H with ⟨hb1, H⟩ | ⟨hb1, H⟩
  · refine Rg V_ok 0 [(1, {bv := some true})] (ac hb1 az) ?_
    exact Jm (tn [0, 1, 12] 0) (j1_ok H)
  · refine Rg V_ok 0 [(1, {bv := some false})] (ac hb1 az) ?_
    exact Jm (tn [0, 1, 12] 0) (j1_ok H)
theorem fits : Fits P 51 S := fits_of V_ok Go.Proofs.Try.func51 (by kernel_rfl) (by decide) (by decide) rfl (fun x r ⟨k, H⟩ => of_G (f_ok H))
end f_ref12_At
/-! ### function 101, wayfinder/wayfinderref01.bound -/
namespace f_ref01_bound
noncomputable def c0 : Code := (Go.Proofs.Try.f101.body).getD .skip
abbrev ps : Sg := [(false, (.int .i64))]
abbrev rs : Sg := [(false, (.int .i64))]
noncomputable def V : Env := { tt := tt, Γ := slk [] }
theorem V_ok : EnvOk P V := { ck := tt_ck, fits := slk_nil, mixed := mixed }
abbrev R := Tup rs
noncomputable abbrev Q (r : R) : Exit → St → Prop := Qr tt Go.Proofs.Try.f101.results ⟨ps, rs, .any, none, fun _ _ => True⟩ r
noncomputable def f (k : Nat) (a1 : Int) : Option R :=
  if (decide (a1 < (0 : Int))) = true then
    some ((0 : Int), ())
  else
    if (decide (a1 > (32 : Int))) = true then
      some ((32 : Int), ())
    else
      some (a1, ())
noncomputable def S : Spec := ⟨ps, rs, .any, none, fun x r => ∃ k, f k x.1 = some r⟩
theorem rl {k a1 r} (e : f k a1 = some r) : S.rel (a1, ()) r := ⟨k, e⟩
theorem f_ok {r k a1} (H : f k a1 = some r) : Gw P 0 (Q r) (Px c0 1 []) (⟨8, [(0, .cv (.one (.i a1)))], []⟩) := by
  unfold f at H
  refine Rg V_ok 0 [] az ?_
  refine Rg V_ok 0 [] az ?_
  rcases of_ite H with ⟨hb1, H⟩ | ⟨hb1, H⟩
  · refine C1 hb1 ?_
    refine Rg V_ok 0 [] az ?_
    exact Lf (Eq.trans (by kernel_rfl) H)
  · refine C0 hb1 ?_
    refine Rg V_ok 0 [] az ?_
    rcases of_ite H with ⟨hb2, H⟩ | ⟨hb2, H⟩
    · refine C1 hb2 ?_
      refine Rg V_ok 0 [] az ?_
      exact Lf (Eq.trans (by kernel_rfl) H)
    · refine C0 hb2 ?_
      refine Rg V_ok 0 [] az ?_
      exact Lf (Eq.trans (by kernel_rfl) H)
theorem fits : Fits P 101 S := fits_of V_ok Go.Proofs.Try.func101 (by kernel_rfl) (by decide) (by decide) rfl (fun x r ⟨k, H⟩ => of_G (f_ok H))
end f_ref01_bound
/-! ### function 102, wayfinder/wayfinderref01.Bit -/
namespace f_ref01_Bit
noncomputable def c0 : Code := (Go.Proofs.Try.f102.body).getD .skip
abbrev ps : Sg := [(false, (.int .i64)), (false, (.int .i64))]
abbrev rs : Sg := [(false, (.int .i64))]
noncomputable def V : Env := { tt := tt, Γ := slk [] }
theorem V_ok : EnvOk P V := { ck := tt_ck, fits := slk_nil, mixed := mixed }
abbrev R := Tup rs
noncomputable abbrev Q (r : R) : Exit → St → Prop := Qr tt Go.Proofs.Try.f102.results ⟨ps, rs, .any, none, fun _ _ => True⟩ r
noncomputable def s1 (p1 p2 : Int) (p3 : Bool) : St := ⟨24, [(0, .cv (.one (.i p1))), (1, .cv (.one (.i p2))), (12, .cv (.one (.bool p3)))], []⟩
noncomputable def s2 (p1 p2 p3 : Int) : St := ⟨24, [(1, .cv (.one (.i p1))), (5, .cv (.one (.i p2))), (6, .cv (.one (.i p3)))], []⟩
noncomputable def b2 (L2 : Int → Int → Int → Option R) (k : Nat) (p1 p2 p3 : Int) : Option R :=
  if (decide (p3 > p1)) = true then
  L2 p1 (IntKind.i64.wrap (Int.tdiv p2 2)) (IntKind.i64.wrap (p3 - 1))
else
  some ((Int.tmod p2 2), ())
theorem b2_ok {r} {L2 : Int → Int → Int → Option R} {m2 : Nat} (hL2 : ∀ p1 p2 p3, L2 p1 p2 p3 = some r → Gw P 0 (Q r) (Pb c0 87 [] m2) (s2 p1 p2 p3)) {k p1 p2 p3} (H : b2 L2 k p1 p2 p3 = some r) : Gw P 0 (Q r) (Px c0 151 [m2]) (s2 p1 p2 p3) := by
  unfold b2 at H
  refine Rg V_ok 0 [] az ?_
  rcases of_ite H with ⟨hb3, H⟩ | ⟨hb3, H⟩
  · refine C1 hb3 ?_
    refine Rg V_ok 0 [] (ac (show (2 : Int) ≠ 0 by decide) az) ?_
    refine Rg V_ok 0 [] az ?_
    exact Jm (tn [1, 5, 6] 0) (hL2 p1 (IntKind.i64.wrap (Int.tdiv p2 2)) (IntKind.i64.wrap (p3 - 1)) H)
  · refine C0 hb3 ?_
    refine Rg V_ok 0 [] (ac (show (2 : Int) ≠ 0 by decide) az) ?_
    exact Lf (Eq.trans (by kernel_rfl) H)
noncomputable def l2 (k : Nat) : Nat → Int → Int → Int → Option R
  | 0, _, _, _ => none
  | m + 1, p1, p2, p3 => b2 (l2 k m) k p1 p2 p3
theorem l2_ok {r} (k : Nat) : ∀ (m2 : Nat) (p1 p2 : Int) (p3 : Int), l2 k m2 p1 p2 p3 = some r → Gw P 0 (Q r) (Pb c0 87 [] m2) (s2 p1 p2 p3)
  | 0, _, _, _, H => by cases H
  | m2 + 1, p1, p2, p3, H => SU (by kernel_rfl) (b2_ok (l2_ok k m2) H)
noncomputable def j1 (k : Nat) (p1 p2 : Int) (p3 : Bool) : Option R :=
  if p3 = true then
  some ((0 : Int), ())
else
  l2 k k p2 (IntKind.i64.wrap (((BitVec.ofInt IntKind.i64.bits p1 &&& BitVec.ofInt IntKind.i64.bits 4294967295).toNat : Int))) 31
theorem j1_ok {r} {k p1 p2 p3} (H : j1 k p1 p2 p3 = some r) : Gw P 0 (Q r) (Px c0 13 []) (s1 p1 p2 p3) := by
  unfold j1 at H
  rcases of_ite H with ⟨hb2, H⟩ | ⟨hb2, H⟩
  · refine C1 hb2 ?_
    refine Rg V_ok 0 [] az ?_
    exact Lf (Eq.trans (by kernel_rfl) H)
  · refine C0 hb2 ?_
    refine Rg V_ok 0 [] az ?_
    refine Rg V_ok 0 [] az ?_
    exact LP k (Jm (tn [1, 5, 6] 0) (l2_ok k k p2 (IntKind.i64.wrap (((BitVec.ofInt IntKind.i64.bits p1 &&& BitVec.ofInt IntKind.i64.bits 4294967295).toNat : Int))) 31 H))
noncomputable def f (k : Nat) (a1 a2 : Int) : Option R :=
  if (decide (a2 < (0 : Int))) = true then
    j1 k a1 a2 true
  else
    j1 k a1 a2 (decide (a2 > (31 : Int)))
noncomputable def S : Spec := ⟨ps, rs, .any, none, fun x r => ∃ k, f k x.1 x.2.1 = some r⟩
theorem rl {k a1 a2 r} (e : f k a1 a2 = some r) : S.rel (a1, a2, ()) r := ⟨k, e⟩
theorem f_ok {r k a1 a2} (H : f k a1 a2 = some r) : Gw P 0 (Q r) (Px c0 1 []) (⟨24, [(0, .cv (.one (.i a1))), (1, .cv (.one (.i a2)))], []⟩) := by
  unfold f at H
  refine Rg V_ok 0 [] az ?_
  rcases of_ite H with ⟨hb1, H⟩ | ⟨hb1, H⟩
  · refine Rg V_ok 0 [(1, {bv := some true})] (ac hb1 az) ?_
    exact Jm (tn [0, 1, 12] 0) (j1_ok H)
  · refine Rg V_ok 0 [(1, {bv := some false})] (ac hb1 az) ?_
    exact Jm (tn [0, 1, 12] 0) (j1_ok H)
theorem fits : Fits P 102 S := fits_of V_ok Go.Proofs.Try.func102 (by kernel_rfl) (by decide) (by decide) rfl (fun x r ⟨k, H⟩ => of_G (f_ok H))
end f_ref01_Bit
/-! ### function 94, wayfinder/wayfinderref01.Cut -/
namespace f_ref01_Cut
noncomputable def c0 : Code := (Go.Proofs.Try.f94.body).getD .skip
abbrev ps : Sg := [(false, (.int .i64)), (false, (.int .i64))]
abbrev rs : Sg := [(true, T713d)]
noncomputable def V : Env := { tt := tt, Γ := slk [(101, f_ref01_bound.S), (102, f_ref01_Bit.S)] }
theorem V_ok : EnvOk P V := { ck := tt_ck, fits := slk_cons f_ref01_bound.fits (slk_cons f_ref01_Bit.fits (slk_nil)), mixed := mixed }
abbrev R := Tup rs
noncomputable abbrev Q (r : R) : Exit → St → Prop := Qr tt Go.Proofs.Try.f94.results ⟨ps, rs, .any, none, fun _ _ => True⟩ r
noncomputable def s1 (p1 p2 p3 p4 : Int) (p5 : T713d.T) : St := ⟨26, [(0, .cv (.one (.i p1))), (1, .cv (.one (.i p2))), (4, .cv (.one (.ptr 0 0))), (5, .cv (.one (.i p3))), (6, .cv (.one (.i p4)))], [(.box 2, [.i p5.1, .i p5.2])]⟩
noncomputable def s2 (p1 p2 p3 p4 : Int) (p5 : T713d.T) : St := ⟨26, [(0, .cv (.one (.i p1))), (1, .cv (.one (.i p2))), (4, .cv (.one (.ptr 0 0))), (5, .cv (.one (.i p3))), (6, .cv (.one (.i p4)))], [(.box 2, [.i p5.1, .i p5.2])]⟩
noncomputable def j2 (L1 : Int → Int → Int → Int → T713d.T → Option R) (k : Nat) (p1 p2 p3 p4 : Int) (p5 : T713d.T) : Option R :=
  L1 p1 p2 p3 (IntKind.i64.wrap (p4 + 1)) p5
theorem j2_ok {r} {L1 : Int → Int → Int → Int → T713d.T → Option R} {m1 : Nat} (hL1 : ∀ p1 p2 p3 p4 p5, L1 p1 p2 p3 p4 p5 = some r → Gw P 0 (Q r) (Pb c0 43 [] m1) (s1 p1 p2 p3 p4 p5)) {k p1 p2 p3 p4 p5} (H : j2 L1 k p1 p2 p3 p4 p5 = some r) : Gw P 0 (Q r) (Px c0 459 [m1]) (s2 p1 p2 p3 p4 p5) := by
  unfold j2 at H
  refine Rg V_ok 0 [] az ?_
  exact Jm (tn [0, 1, 4, 5, 6] 1) (hL1 p1 p2 p3 (IntKind.i64.wrap (p4 + 1)) p5 H)
noncomputable def b1 (L1 : Int → Int → Int → Int → T713d.T → Option R) (k : Nat) (p1 p2 p3 p4 : Int) (p5 : T713d.T) : Option R :=
  if (decide (p4 < (32 : Int))) = true then
  (f_ref01_bound.f k p2).bind fun y2 =>
    if (decide (p4 < y2.1)) = true then
      (f_ref01_Bit.f k p1 p4).bind fun y5 =>
        j2 L1 k p1 p2 (IntKind.i64.wrap ((IntKind.i64.wrap (p3 * 2)) + y5.1)) p4 p5
    else
      j2 L1 k p1 p2 (IntKind.i64.wrap (p3 * 2)) p4 p5
else
  (f_ref01_bound.f k p2).bind fun y7 =>
    some ((p3, y7.1), ())
theorem b1_ok {r} {L1 : Int → Int → Int → Int → T713d.T → Option R} {m1 : Nat} (hL1 : ∀ p1 p2 p3 p4 p5, L1 p1 p2 p3 p4 p5 = some r → Gw P 0 (Q r) (Pb c0 43 [] m1) (s1 p1 p2 p3 p4 p5)) {k p1 p2 p3 p4 p5} (H : b1 L1 k p1 p2 p3 p4 p5 = some r) : Gw P 0 (Q r) (Px c0 75 [m1]) (s1 p1 p2 p3 p4 p5) := by
  unfold b1 at H
  refine Rg V_ok 0 [] az ?_
  rcases of_ite H with ⟨hb1, H⟩ | ⟨hb1, H⟩
  · refine C1 hb1 ?_
    refine Rg V_ok 0 [] az ?_
    obtain ⟨y2, e3, H⟩ := of_bind H
    refine Rg V_ok 0 [(2, hr f_ref01_bound.S y2)] (ac (f_ref01_bound.rl e3) az) ?_
    rcases of_ite H with ⟨hb4, H⟩ | ⟨hb4, H⟩
    · refine C1 hb4 ?_
      obtain ⟨y5, e6, H⟩ := of_bind H
      refine Rg V_ok 0 [(3, hr f_ref01_Bit.S y5)] (ac (f_ref01_Bit.rl e6) az) ?_
      exact Jm (tn [0, 1, 4, 5, 6] 1) (j2_ok hL1 H)
    · refine C0 hb4 ?_
      exact Jm (tn [0, 1, 4, 5, 6] 1) (j2_ok hL1 H)
  · refine C0 hb1 ?_
    obtain ⟨y7, e8, H⟩ := of_bind H
    refine Rg V_ok 0 [(2, hr f_ref01_bound.S y7)] (ac (f_ref01_bound.rl e8) az) ?_
    exact Lf (Eq.trans (by kernel_rfl) H)
noncomputable def l1 (k : Nat) : Nat → Int → Int → Int → Int → T713d.T → Option R
  | 0, _, _, _, _, _ => none
  | m + 1, p1, p2, p3, p4, p5 => b1 (l1 k m) k p1 p2 p3 p4 p5
theorem l1_ok {r} (k : Nat) : ∀ (m1 : Nat) (p1 p2 p3 p4 : Int) (p5 : T713d.T), l1 k m1 p1 p2 p3 p4 p5 = some r → Gw P 0 (Q r) (Pb c0 43 [] m1) (s1 p1 p2 p3 p4 p5)
  | 0, _, _, _, _, _, H => by cases H
  | m1 + 1, p1, p2, p3, p4, p5, H => SU (by kernel_rfl) (b1_ok (l1_ok k m1) H)
noncomputable def f (k : Nat) (a1 a2 : Int) : Option R :=
  l1 k k a1 a2 0 0 (0, 0)
noncomputable def S : Spec := ⟨ps, rs, .any, none, fun x r => ∃ k, f k x.1 x.2.1 = some r⟩
theorem rl {k a1 a2 r} (e : f k a1 a2 = some r) : S.rel (a1, a2, ()) r := ⟨k, e⟩
theorem f_ok {r k a1 a2} (H : f k a1 a2 = some r) : Gw P 0 (Q r) (Px c0 1 []) (⟨26, [(0, .cv (.one (.i a1))), (1, .cv (.one (.i a2)))], []⟩) := by
  unfold f at H
  refine Rg V_ok 1 [(0, hb 0)] az ?_
  refine Rg V_ok 0 [] az ?_
  refine Rg V_ok 0 [] az ?_
  exact LP k (Jm (tn [0, 1, 4, 5, 6] 1) (l1_ok k k a1 a2 0 0 (0, 0) H))
theorem fits : Fits P 94 S := fits_of V_ok Go.Proofs.Try.func94 (by kernel_rfl) (by decide) (by decide) rfl (fun x r ⟨k, H⟩ => of_G (f_ok H))
end f_ref01_Cut
/-! ### function 82, wayfinder/wayfinderref01.Has -/
namespace f_ref01_Has
noncomputable def c0 : Code := (Go.Proofs.Try.f82.body).getD .skip
abbrev ps : Sg := [(true, T713d), (false, (.int .i64))]
abbrev rs : Sg := [(false, .bool)]
noncomputable def V : Env := { tt := tt, Γ := slk [(94, f_ref01_Cut.S)] }
theorem V_ok : EnvOk P V := { ck := tt_ck, fits := slk_cons f_ref01_Cut.fits (slk_nil), mixed := mixed }
abbrev R := Tup rs
noncomputable abbrev Q (r : R) : Exit → St → Prop := Qr tt Go.Proofs.Try.f82.results ⟨ps, rs, .any, none, fun _ _ => True⟩ r
noncomputable def f (k : Nat) (a1 : T713d.T) (a2 : Int) : Option R :=
  (f_ref01_Cut.f k a2 a1.2).bind fun y1 =>
    some (((y1.1.1 == a1.1) && ((y1.1.2 == a1.2) && true)), ())
noncomputable def S : Spec := ⟨ps, rs, .any, none, fun x r => ∃ k, f k x.1 x.2.1 = some r⟩
theorem rl {k a1 a2 r} (e : f k a1 a2 = some r) : S.rel (a1, a2, ()) r := ⟨k, e⟩
theorem f_ok {r k a1 a2} (H : f k a1 a2 = some r) : Gw P 0 (Q r) (Px c0 1 []) (⟨11, [(0, .cv (.agg [.i a1.1, .i a1.2])), (1, .cv (.one (.i a2)))], []⟩) := by
  unfold f at H
  refine Rg V_ok 1 [(0, hb 0)] az ?_
  obtain ⟨y1, e2, H⟩ := of_bind H
  refine Rg V_ok 0 [(3, hr f_ref01_Cut.S y1)] (ac (f_ref01_Cut.rl e2) az) ?_
  exact Lf (Eq.trans (by kernel_rfl) H)
theorem fits : Fits P 82 S := fits_of V_ok Go.Proofs.Try.func82 (by kernel_rfl) (by decide) (by decide) rfl (fun x r ⟨k, H⟩ => of_G (f_ok H))
end f_ref01_Has
/-! ### function 69, wayfinder/wayfinderref04.Fits -/
namespace f_ref04_Fits
noncomputable def c0 : Code := (Go.Proofs.Try.f69.body).getD .skip
abbrev ps : Sg := [(true, T1383), (false, (.int .i64)), (false, (.int .i64))]
abbrev rs : Sg := [(false, .bool)]
noncomputable def V : Env := { tt := tt, Γ := slk [(82, f_ref01_Has.S)] }
theorem V_ok : EnvOk P V := { ck := tt_ck, fits := slk_cons f_ref01_Has.fits (slk_nil), mixed := mixed }
abbrev R := Tup rs
noncomputable abbrev Q (r : R) : Exit → St → Prop := Qr tt Go.Proofs.Try.f69.results ⟨ps, rs, .any, none, fun _ _ => True⟩ r
noncomputable def f (k : Nat) (a1 : T1383.T) (a2 a3 : Int) : Option R :=
  (f_ref01_Has.f k a1.1 a3).bind fun y1 =>
    if y1.1 = true then
      if (a1.2.1 == (-1 : Int)) = true then
        some (true, ())
      else
        some ((a1.2.1 == a2), ())
    else
      some (false, ())
noncomputable def S : Spec := ⟨ps, rs, .any, none, fun x r => ∃ k, f k x.1 x.2.1 x.2.2.1 = some r⟩
theorem rl {k a1 a2 a3 r} (e : f k a1 a2 a3 = some r) : S.rel (a1, a2, a3, ()) r := ⟨k, e⟩
theorem f_ok {r k a1 a2 a3} (H : f k a1 a2 a3 = some r) : Gw P 0 (Q r) (Px c0 1 []) (⟨24, [(0, .cv (.agg (encC .any T1383 a1))), (1, .cv (.one (.i a2))), (2, .cv (.one (.i a3)))], []⟩) := by
  unfold f at H
  refine Rg V_ok 1 [(0, hb 0)] az ?_
  obtain ⟨y1, e2, H⟩ := of_bind H
  refine Rg V_ok 0 [(3, hr f_ref01_Has.S y1)] (ac (f_ref01_Has.rl e2) az) ?_
  rcases of_ite H with ⟨hb3, H⟩ | ⟨hb3, H⟩
  · rcases of_ite H with ⟨hb4, H⟩ | ⟨hb4, H⟩
    · refine Rg V_ok 0 [(0, {bv := some true}), (4, {bv := some true})] (ac hb3 (ac hb4 az)) ?_
      exact Lf (Eq.trans (by kernel_rfl) H)
    · refine Rg V_ok 0 [(0, {bv := some true}), (4, {bv := some false})] (ac hb3 (ac hb4 az)) ?_
      exact Lf (Eq.trans (by kernel_rfl) H)
  · refine Rg V_ok 0 [(0, {bv := some false})] (ac hb3 az) ?_
    exact Lf (Eq.trans (by kernel_rfl) H)
theorem fits : Fits P 69 S := fits_of V_ok Go.Proofs.Try.func69 (by kernel_rfl) (by decide) (by decide) rfl (fun x r ⟨k, H⟩ => of_G (f_ok H))
end f_ref04_Fits
/-! ### function 70, wayfinder/wayfinderref04.Ahead -/
namespace f_ref04_Ahead
noncomputable def c0 : Code := (Go.Proofs.Try.f70.body).getD .skip
abbrev ps : Sg := [(true, T1383), (true, T1383)]
abbrev rs : Sg := [(false, .bool)]
noncomputable def V : Env := { tt := tt, Γ := slk [] }
theorem V_ok : EnvOk P V := { ck := tt_ck, fits := slk_nil, mixed := mixed }
abbrev R := Tup rs
noncomputable abbrev Q (r : R) : Exit → St → Prop := Qr tt Go.Proofs.Try.f70.results ⟨ps, rs, .any, none, fun _ _ => True⟩ r
noncomputable def f (k : Nat) (a1 a2 : T1383.T) : Option R :=
  if (a1.1.2 != a2.1.2) = true then
    some ((decide (a1.1.2 > a2.1.2)), ())
  else
    if (a1.2.2.1 != a2.2.2.1) = true then
      some ((decide (a1.2.2.1 > a2.2.2.1)), ())
    else
      some ((decide (a1.2.1 > a2.2.1)), ())
noncomputable def S : Spec := ⟨ps, rs, .any, none, fun x r => ∃ k, f k x.1 x.2.1 = some r⟩
theorem rl {k a1 a2 r} (e : f k a1 a2 = some r) : S.rel (a1, a2, ()) r := ⟨k, e⟩
theorem f_ok {r k a1 a2} (H : f k a1 a2 = some r) : Gw P 0 (Q r) (Px c0 1 []) (⟨34, [(0, .cv (.agg (encC .any T1383 a1))), (1, .cv (.agg (encC .any T1383 a2)))], []⟩) := by
  unfold f at H
  refine Rg V_ok 2 [(0, hb 0), (1, hb 1)] az ?_
  refine Rg V_ok 0 [] az ?_
  rcases of_ite H with ⟨hb1, H⟩ | ⟨hb1, H⟩
  · refine C1 hb1 ?_
    refine Rg V_ok 0 [] az ?_
    exact Lf (Eq.trans (by kernel_rfl) H)
  · refine C0 hb1 ?_
    refine Rg V_ok 0 [] az ?_
    rcases of_ite H with ⟨hb2, H⟩ | ⟨hb2, H⟩
    · refine C1 hb2 ?_
      refine Rg V_ok 0 [] az ?_
      exact Lf (Eq.trans (by kernel_rfl) H)
    · refine C0 hb2 ?_
      refine Rg V_ok 0 [] az ?_
      exact Lf (Eq.trans (by kernel_rfl) H)
theorem fits : Fits P 70 S := fits_of V_ok Go.Proofs.Try.func70 (by kernel_rfl) (by decide) (by decide) rfl (fun x r ⟨k, H⟩ => of_G (f_ok H))
end f_ref04_Ahead
/-! ### function 52, wayfinder/wayfinderref08.First -/
namespace f_ref08_First
noncomputable def c0 : Code := (Go.Proofs.Try.f52.body).getD .skip
abbrev ps : Sg := [(false, (.slice T1383)), (false, (.int .i64)), (false, (.int .i64))]
abbrev rs : Sg := [(false, (.int .i64))]
noncomputable def V : Env := { tt := tt, Γ := slk [(69, f_ref04_Fits.S), (70, f_ref04_Ahead.S)] }
theorem V_ok : EnvOk P V := { ck := tt_ck, fits := slk_cons f_ref04_Fits.fits (slk_cons f_ref04_Ahead.fits (slk_nil)), mixed := mixed }
abbrev R := Tup rs
noncomputable abbrev Q (r : R) : Exit → St → Prop := Qr tt Go.Proofs.Try.f52.results ⟨ps, rs, .any, none, fun _ _ => True⟩ r
noncomputable def s1 (p1 : List T1383.T) (p2 p3 p4 p5 : Int) : St := ⟨41, [(0, .cv (.one (.sl T1383 p1 .any))), (1, .cv (.one (.i p2))), (2, .cv (.one (.i p3))), (7, .cv (.one (.i p4))), (8, .cv (.one (.i p5)))], []⟩
noncomputable def s2 (p1 : List T1383.T) (p2 p3 p4 p5 : Int) : St := ⟨41, [(0, .cv (.one (.sl T1383 p1 .any))), (1, .cv (.one (.i p2))), (2, .cv (.one (.i p3))), (7, .cv (.one (.i p4))), (8, .cv (.one (.i p5)))], []⟩
noncomputable def j2 (L1 : List T1383.T → Int → Int → Int → Int → Option R) (k : Nat) (p1 : List T1383.T) (p2 p3 p4 p5 : Int) : Option R :=
  L1 p1 p2 p3 p4 (IntKind.i64.wrap (p5 + 1))
theorem j2_ok {r} {L1 : List T1383.T → Int → Int → Int → Int → Option R} {m1 : Nat} (hL1 : ∀ p1 p2 p3 p4 p5, L1 p1 p2 p3 p4 p5 = some r → Gw P 0 (Q r) (Pb c0 43 [] m1) (s1 p1 p2 p3 p4 p5)) {k p1 p2 p3 p4 p5} (H : j2 L1 k p1 p2 p3 p4 p5 = some r) : Gw P 0 (Q r) (Px c0 459 [m1]) (s2 p1 p2 p3 p4 p5) := by
  unfold j2 at H
  refine Rg V_ok 0 [] az ?_
  exact Jm (tn [0, 1, 2, 7, 8] 0) (hL1 p1 p2 p3 p4 (IntKind.i64.wrap (p5 + 1)) H)
noncomputable def b1 (L1 : List T1383.T → Int → Int → Int → Int → Option R) (k : Nat) (p1 : List T1383.T) (p2 p3 p4 p5 : Int) : Option R :=
  if (decide (p5 < (p1.length : Int))) = true then
  if 0 ≤ p5 then
    if p5 < (p1.length : Int) then
      (f_ref04_Fits.f k (att T1383 p1 p5) p2 p3).bind fun y2 =>
        if (!y2.1) = true then
          j2 L1 k p1 p2 p3 p4 p5
        else
          if (decide (p4 < (0 : Int))) = true then
            j2 L1 k p1 p2 p3 p5 p5
          else
            if 0 ≤ p4 then
              if p4 < (p1.length : Int) then
                (f_ref04_Ahead.f k (att T1383 p1 p5) (att T1383 p1 p4)).bind fun y8 =>
                  if y8.1 = true then
                    j2 L1 k p1 p2 p3 p5 p5
                  else
                    j2 L1 k p1 p2 p3 p4 p5
              else none
            else none
    else none
  else none
else
  some (p4, ())
theorem b1_ok {r} {L1 : List T1383.T → Int → Int → Int → Int → Option R} {m1 : Nat} (hL1 : ∀ p1 p2 p3 p4 p5, L1 p1 p2 p3 p4 p5 = some r → Gw P 0 (Q r) (Pb c0 43 [] m1) (s1 p1 p2 p3 p4 p5)) {k p1 p2 p3 p4 p5} (H : b1 L1 k p1 p2 p3 p4 p5 = some r) : Gw P 0 (Q r) (Px c0 75 [m1]) (s1 p1 p2 p3 p4 p5) := by
  unfold b1 at H
  refine Rg V_ok 0 [] az ?_
  rcases of_ite H with ⟨hb1, H⟩ | ⟨hb1, H⟩
  · refine C1 hb1 ?_
    obtain ⟨n3, H⟩ := of_if H
    obtain ⟨n4, H⟩ := of_if H
    obtain ⟨y2, e5, H⟩ := of_bind H
    refine Rg V_ok 0 [(6, hr f_ref04_Fits.S y2)] (ac n3 (ac n4 (ac (f_ref04_Fits.rl e5) az))) ?_
    refine Rg V_ok 0 [] az ?_
    rcases of_ite H with ⟨hb6, H⟩ | ⟨hb6, H⟩
    · refine C1 hb6 ?_
      exact Jm (tn [0, 1, 2, 7, 8] 0) (j2_ok hL1 H)
    · refine C0 hb6 ?_
      refine Rg V_ok 0 [] az ?_
      rcases of_ite H with ⟨hb7, H⟩ | ⟨hb7, H⟩
      · refine C1 hb7 ?_
        refine Rg V_ok 0 [] az ?_
        exact Jm (tn [0, 1, 2, 7, 8] 0) (j2_ok hL1 H)
      · refine C0 hb7 ?_
        obtain ⟨n9, H⟩ := of_if H
        obtain ⟨n10, H⟩ := of_if H
        obtain ⟨y8, e11, H⟩ := of_bind H
        refine Rg V_ok 0 [(8, hr f_ref04_Ahead.S y8)] (ac n3 (ac n4 (ac n9 (ac n10 (ac (f_ref04_Ahead.rl e11) az))))) ?_
        refine Rg V_ok 0 [] az ?_
        rcases of_ite H with ⟨hb12, H⟩ | ⟨hb12, H⟩
        · refine C1 hb12 ?_
          refine Rg V_ok 0 [] az ?_
          exact Jm (tn [0, 1, 2, 7, 8] 0) (j2_ok hL1 H)
        · refine C0 hb12 ?_
          exact Jm (tn [0, 1, 2, 7, 8] 0) (j2_ok hL1 H)
  · refine C0 hb1 ?_
    refine Rg V_ok 0 [] az ?_
    exact Lf (Eq.trans (by kernel_rfl) H)
noncomputable def l1 (k : Nat) : Nat → List T1383.T → Int → Int → Int → Int → Option R
  | 0, _, _, _, _, _ => none
  | m + 1, p1, p2, p3, p4, p5 => b1 (l1 k m) k p1 p2 p3 p4 p5
theorem l1_ok {r} (k : Nat) : ∀ (m1 : Nat) (p1 : List T1383.T) (p2 p3 p4 : Int) (p5 : Int), l1 k m1 p1 p2 p3 p4 p5 = some r → Gw P 0 (Q r) (Pb c0 43 [] m1) (s1 p1 p2 p3 p4 p5)
  | 0, _, _, _, _, _, H => by cases H
  | m1 + 1, p1, p2, p3, p4, p5, H => SU (by kernel_rfl) (b1_ok (l1_ok k m1) H)
noncomputable def f (k : Nat) (a1 : List T1383.T) (a2 a3 : Int) : Option R :=
  l1 k k a1 a2 a3 (-1) 0
noncomputable def S : Spec := ⟨ps, rs, .any, none, fun x r => ∃ k, f k x.1 x.2.1 x.2.2.1 = some r⟩
theorem rl {k a1 a2 a3 r} (e : f k a1 a2 a3 = some r) : S.rel (a1, a2, a3, ()) r := ⟨k, e⟩
theorem f_ok {r k a1 a2 a3} (H : f k a1 a2 a3 = some r) : Gw P 0 (Q r) (Px c0 1 []) (⟨41, [(0, .cv (.one (.sl T1383 a1 .any))), (1, .cv (.one (.i a2))), (2, .cv (.one (.i a3)))], []⟩) := by
  unfold f at H
  refine Rg V_ok 0 [] az ?_
  refine Rg V_ok 0 [] az ?_
  refine Rg V_ok 0 [] az ?_
  exact LP k (Jm (tn [0, 1, 2, 7, 8] 0) (l1_ok k k a1 a2 a3 (-1) 0 H))
theorem fits : Fits P 52 S := fits_of V_ok Go.Proofs.Try.func52 (by kernel_rfl) (by decide) (by decide) rfl (fun x r ⟨k, H⟩ => of_G (f_ok H))
end f_ref08_First
/-! ### function 71, wayfinder/wayfinderref11.port -/
namespace f_ref11_port
noncomputable def c0 : Code := (Go.Proofs.Try.f71.body).getD .skip
abbrev ps : Sg := [(true, T5477), (false, (.int .i64)), (false, (.int .i64))]
abbrev rs : Sg := [(false, .bool)]
noncomputable def V : Env := { tt := tt, Γ := slk [] }
theorem V_ok : EnvOk P V := { ck := tt_ck, fits := slk_nil, mixed := mixed }
abbrev R := Tup rs
noncomputable abbrev Q (r : R) : Exit → St → Prop := Qr tt Go.Proofs.Try.f71.results ⟨ps, rs, .any, none, fun _ _ => True⟩ r
noncomputable def f (k : Nat) (a1 : T5477.T) (a2 a3 : Int) : Option R :=
  if (decide (a2 ≥ (0 : Int))) = true then
    if (decide (a2 < a1.1)) = true then
      if (decide (a3 ≥ (0 : Int))) = true then
        some ((decide (a3 < a1.2.1)), ())
      else
        some (false, ())
    else
      some (false, ())
  else
    some (false, ())
noncomputable def S : Spec := ⟨ps, rs, .any, none, fun x r => ∃ k, f k x.1 x.2.1 x.2.2.1 = some r⟩
theorem rl {k a1 a2 a3 r} (e : f k a1 a2 a3 = some r) : S.rel (a1, a2, a3, ()) r := ⟨k, e⟩
theorem f_ok {r k a1 a2 a3} (H : f k a1 a2 a3 = some r) : Gw P 0 (Q r) (Px c0 1 []) (⟨25, [(0, .cv (.agg (encC .any T5477 a1))), (1, .cv (.one (.i a2))), (2, .cv (.one (.i a3)))], []⟩) := by
  unfold f at H
  refine Rg V_ok 1 [(0, hb 0)] az ?_
  rcases of_ite H with ⟨hb1, H⟩ | ⟨hb1, H⟩
  · rcases of_ite H with ⟨hb2, H⟩ | ⟨hb2, H⟩
    · rcases of_ite H with ⟨hb3, H⟩ | ⟨hb3, H⟩
      · refine Rg V_ok 0 [(1, {bv := some true}), (7, {bv := some true}), (11, {bv := some true})] (ac hb1 (ac hb2 (ac hb3 az))) ?_
        exact Lf (Eq.trans (by kernel_rfl) H)
      · refine Rg V_ok 0 [(1, {bv := some true}), (7, {bv := some true}), (11, {bv := some false})] (ac hb1 (ac hb2 (ac hb3 az))) ?_
        exact Lf (Eq.trans (by kernel_rfl) H)
    · refine Rg V_ok 0 [(1, {bv := some true}), (7, {bv := some false})] (ac hb1 (ac hb2 az)) ?_
      exact Lf (Eq.trans (by kernel_rfl) H)
  · refine Rg V_ok 0 [(1, {bv := some false})] (ac hb1 az) ?_
    exact Lf (Eq.trans (by kernel_rfl) H)
theorem fits : Fits P 71 S := fits_of V_ok Go.Proofs.Try.func71 (by kernel_rfl) (by decide) (by decide) rfl (fun x r ⟨k, H⟩ => of_G (f_ok H))
end f_ref11_port
/-! ### function 53, wayfinder/wayfinderref11.Far -/
namespace f_ref11_Far
noncomputable def c0 : Code := (Go.Proofs.Try.f53.body).getD .skip
abbrev ps : Sg := [(true, T5477), (false, (.int .i64)), (false, (.int .i64))]
abbrev rs : Sg := [(false, (.int .i64)), (false, (.int .i64)), (false, .bool)]
noncomputable def V : Env := { tt := tt, Γ := slk [(71, f_ref11_port.S)] }
theorem V_ok : EnvOk P V := { ck := tt_ck, fits := slk_cons f_ref11_port.fits (slk_nil), mixed := mixed }
abbrev R := Tup rs
noncomputable abbrev Q (r : R) : Exit → St → Prop := Qr tt Go.Proofs.Try.f53.results ⟨ps, rs, .any, none, fun _ _ => True⟩ r
noncomputable def s1 (a1 : T5477.T) (a2 a3 p3 : Int) : St := ⟨58, [(1, .cv (.one (.i a2))), (2, .cv (.one (.i a3))), (3, .cv (.one (.ptr 0 0))), (10, .cv (.one (.i p3)))], [(.box 3, (encC .any T5477 a1))]⟩
noncomputable def s3 (a1 : T5477.T) (a2 a3 p3 : Int) (p4 : Bool) (p6 : Td285.T) : St := ⟨58, [(1, .cv (.one (.i a2))), (2, .cv (.one (.i a3))), (3, .cv (.one (.ptr 0 0))), (10, .cv (.one (.i p3))), (11, .cv (.one (.ptr 1 0))), (39, .cv (.one (.bool p4)))], [(.box 3, (encC .any T5477 a1)), (.box 4, (encC .any Td285 p6))]⟩
noncomputable def s2 (a1 : T5477.T) (a2 a3 p3 : Int) (p4 : Bool) (p6 : Td285.T) : St := ⟨58, [(1, .cv (.one (.i a2))), (2, .cv (.one (.i a3))), (3, .cv (.one (.ptr 0 0))), (10, .cv (.one (.i p3))), (11, .cv (.one (.ptr 1 0))), (53, .cv (.one (.bool p4)))], [(.box 3, (encC .any T5477 a1)), (.box 4, (encC .any Td285 p6))]⟩
noncomputable def j2 (a1 : T5477.T) (a2 a3 : Int) (L1 : Int → Option R) (k : Nat) (p3 : Int) (p4 : Bool) (p6 : Td285.T) : Option R :=
  if p4 = true then
  some (p6.1, (p6.2.1, (true, ())))
else
  L1 (IntKind.i64.wrap (p3 + 1))
theorem j2_ok {r a1 a2 a3} {L1 : Int → Option R} {m1 : Nat} (hL1 : ∀ p3, L1 p3 = some r → Gw P 0 (Q r) (Pb c0 87 [] m1) (s1 a1 a2 a3 p3)) {k p3 p4 p6} (H : j2 a1 a2 a3 L1 k p3 p4 p6 = some r) : Gw P 0 (Q r) (Px c0 15511 [m1]) (s2 a1 a2 a3 p3 p4 p6) := by
  unfold j2 at H
  rcases of_ite H with ⟨hb10, H⟩ | ⟨hb10, H⟩
  · refine C1 hb10 ?_
    refine Rg V_ok 0 [] az ?_
    exact Lf (Eq.trans (by kernel_rfl) H)
  · refine C0 hb10 ?_
    refine Rg V_ok 0 [] az ?_
    exact Jm (tn [1, 2, 3, 10] 1) (hL1 (IntKind.i64.wrap (p3 + 1)) H)
noncomputable def j3 (a1 : T5477.T) (a2 a3 : Int) (L1 : Int → Option R) (k : Nat) (p3 : Int) (p4 : Bool) (p6 : Td285.T) : Option R :=
  if p4 = true then
  some (p6.2.2.1, (p6.2.2.2, (true, ())))
else
  if (p6.2.2.1 == a2) = true then
    j2 a1 a2 a3 L1 k p3 (p6.2.2.2 == a3) p6
  else
    j2 a1 a2 a3 L1 k p3 false p6
theorem j3_ok {r a1 a2 a3} {L1 : Int → Option R} {m1 : Nat} (hL1 : ∀ p3, L1 p3 = some r → Gw P 0 (Q r) (Pb c0 87 [] m1) (s1 a1 a2 a3 p3)) {k p3 p4 p6} (H : j3 a1 a2 a3 L1 k p3 p4 p6 = some r) : Gw P 0 (Q r) (Px c0 13463 [m1]) (s3 a1 a2 a3 p3 p4 p6) := by
  unfold j3 at H
  rcases of_ite H with ⟨hb8, H⟩ | ⟨hb8, H⟩
  · refine C1 hb8 ?_
    refine Rg V_ok 0 [] az ?_
    exact Lf (Eq.trans (by kernel_rfl) H)
  · refine C0 hb8 ?_
    rcases of_ite H with ⟨hb9, H⟩ | ⟨hb9, H⟩
    · refine Rg V_ok 0 [(3, {bv := some true})] (ac hb9 az) ?_
      exact Jm (tn [1, 2, 3, 10, 11, 53] 2) (j2_ok hL1 H)
    · refine Rg V_ok 0 [(3, {bv := some false})] (ac hb9 az) ?_
      exact Jm (tn [1, 2, 3, 10, 11, 53] 2) (j2_ok hL1 H)
noncomputable def b1 (a1 : T5477.T) (a2 a3 : Int) (L1 : Int → Option R) (k : Nat) (p3 : Int) : Option R :=
  if (decide (p3 < (a1.2.2.length : Int))) = true then
  if 0 ≤ p3 then
    if p3 < (a1.2.2.length : Int) then
      if (((att Td285 a1.2.2 p3).1) == a2) = true then
        j3 a1 a2 a3 L1 k p3 ((((att Td285 a1.2.2 p3).2).1) == a3) (att Td285 a1.2.2 p3)
      else
        j3 a1 a2 a3 L1 k p3 false (att Td285 a1.2.2 p3)
    else none
  else none
else
  some ((0 : Int), ((0 : Int), (false, ())))
theorem b1_ok {r a1 a2 a3} {L1 : Int → Option R} {m1 : Nat} (hL1 : ∀ p3, L1 p3 = some r → Gw P 0 (Q r) (Pb c0 87 [] m1) (s1 a1 a2 a3 p3)) {k p3} (H : b1 a1 a2 a3 L1 k p3 = some r) : Gw P 0 (Q r) (Px c0 151 [m1]) (s1 a1 a2 a3 p3) := by
  unfold b1 at H
  refine Rg V_ok 0 [] az ?_
  rcases of_ite H with ⟨hb4, H⟩ | ⟨hb4, H⟩
  · refine C1 hb4 ?_
    obtain ⟨n5, H⟩ := of_if H
    obtain ⟨n6, H⟩ := of_if H
    refine Rg V_ok 1 [(5, hb 1)] (ac n5 (ac n6 az)) ?_
    rcases of_ite H with ⟨hb7, H⟩ | ⟨hb7, H⟩
    · refine Rg V_ok 0 [(3, {bv := some true})] (ac hb7 az) ?_
      exact Jm (tn [1, 2, 3, 10, 11, 39] 2) (j3_ok hL1 H)
    · refine Rg V_ok 0 [(3, {bv := some false})] (ac hb7 az) ?_
      exact Jm (tn [1, 2, 3, 10, 11, 39] 2) (j3_ok hL1 H)
  · refine C0 hb4 ?_
    refine Rg V_ok 0 [] az ?_
    exact Lf (Eq.trans (by kernel_rfl) H)
noncomputable def l1 (a1 : T5477.T) (a2 a3 : Int) (k : Nat) : Nat → Int → Option R
  | 0, _ => none
  | m + 1, p3 => b1 a1 a2 a3 (l1 a1 a2 a3 k m) k p3
theorem l1_ok {r a1 a2 a3} (k : Nat) : ∀ (m1 : Nat) (p3 : Int), l1 a1 a2 a3 k m1 p3 = some r → Gw P 0 (Q r) (Pb c0 87 [] m1) (s1 a1 a2 a3 p3)
  | 0, _, H => by cases H
  | m1 + 1, p3, H => SU (by kernel_rfl) (b1_ok (l1_ok k m1) H)
noncomputable def f (k : Nat) (a1 : T5477.T) (a2 a3 : Int) : Option R :=
  (f_ref11_port.f k a1 a2 a3).bind fun y1 =>
    if (!y1.1) = true then
      some ((0 : Int), ((0 : Int), (false, ())))
    else
      l1 a1 a2 a3 k k 0
noncomputable def S : Spec := ⟨ps, rs, .any, none, fun x r => ∃ k, f k x.1 x.2.1 x.2.2.1 = some r⟩
theorem rl {k a1 a2 a3 r} (e : f k a1 a2 a3 = some r) : S.rel (a1, a2, a3, ()) r := ⟨k, e⟩
theorem f_ok {r k a1 a2 a3} (H : f k a1 a2 a3 = some r) : Gw P 0 (Q r) (Px c0 1 []) (⟨58, [(0, .cv (.agg (encC .any T5477 a1))), (1, .cv (.one (.i a2))), (2, .cv (.one (.i a3)))], []⟩) := by
  unfold f at H
  refine Rg V_ok 1 [(0, hb 0)] az ?_
  obtain ⟨y1, e2, H⟩ := of_bind H
  refine Rg V_ok 0 [(3, hr f_ref11_port.S y1)] (ac (f_ref11_port.rl e2) az) ?_
  refine Rg V_ok 0 [] az ?_
  rcases of_ite H with ⟨hb3, H⟩ | ⟨hb3, H⟩
  · refine C1 hb3 ?_
    refine Rg V_ok 0 [] az ?_
    exact Lf (Eq.trans (by kernel_rfl) H)
  · refine C0 hb3 ?_
    refine Rg V_ok 0 [] az ?_
    exact LP k (Jm (tn [1, 2, 3, 10] 1) (l1_ok k k 0 H))
theorem fits : Fits P 53 S := fits_of V_ok Go.Proofs.Try.func53 (by kernel_rfl) (by decide) (by decide) rfl (fun x r ⟨k, H⟩ => of_G (f_ok H))
end f_ref11_Far
/-! ### function 40, wayfinder/wayfinderref13.Step -/
namespace f_ref13_Step
noncomputable def c0 : Code := (Go.Proofs.Try.f40.body).getD .skip
abbrev ps : Sg := [(true, T5477), (false, (.slice (.slice T1383))), (true, T70a7)]
abbrev rs : Sg := [(true, Td8a9), (true, T70a7)]
noncomputable def V : Env := { tt := tt, Γ := slk [(51, f_ref12_At.S), (52, f_ref08_First.S), (53, f_ref11_Far.S)] }
theorem V_ok : EnvOk P V := { ck := tt_ck, fits := slk_cons f_ref12_At.fits (slk_cons f_ref08_First.fits (slk_cons f_ref11_Far.fits (slk_nil))), mixed := mixed }
abbrev R := Tup rs
noncomputable abbrev Q (r : R) : Exit → St → Prop := Qr tt Go.Proofs.Try.f40.results ⟨ps, rs, .any, none, fun _ _ => True⟩ r
noncomputable def f (k : Nat) (a1 : T5477.T) (a2 : List (List T1383.T)) (a3 : T70a7.T) : Option R :=
  if (decide (a3.1.2.2.2.1 < (1 : Int))) = true then
    some ((0, (a3.1.1, (a3.2.1, (a3.2.2, (a3.1.2.2.2.2, (5, 0)))))), (((0, (0, (0, (0, 0)))), (0, 0)), ()))
  else
    (f_ref12_At.f k a2 a3.2.1).bind fun y2 =>
      (f_ref08_First.f k y2.1 a3.2.2 a3.1.2.2.1).bind fun y4 =>
        if (decide (y4.1 < (0 : Int))) = true then
          some ((0, (a3.1.1, (a3.2.1, (a3.2.2, (a3.1.2.2.2.2, (3, 0)))))), (((0, (0, (0, (0, 0)))), (0, 0)), ()))
        else
          if 0 ≤ y4.1 then
            if y4.1 < (y2.1.length : Int) then
              if ((((((att T1383 y2.1 y4.1).2).2).2).1) != (1 : Int)) = true then
                some ((0, (a3.1.1, (a3.2.1, (a3.2.2, (a3.1.2.2.2.2, (2, 0)))))), (((0, (0, (0, (0, 0)))), (0, 0)), ()))
              else
                (f_ref11_Far.f k a1 a3.2.1 (((((att T1383 y2.1 y4.1).2).2).2).2)).bind fun y10 =>
                  if (!y10.2.2.1) = true then
                    some ((0, (a3.1.1, (a3.2.1, (a3.2.2, (a3.1.2.2.2.2, (1, ((((att T1383 y2.1 y4.1).2).2).2).2)))))), (((0, (0, (0, (0, 0)))), (0, 0)), ()))
                  else
                    some ((0, (a3.1.1, (a3.2.1, (a3.2.2, (a3.1.2.2.2.2, (0, ((((att T1383 y2.1 y4.1).2).2).2).2)))))), (((a3.1.1, (a3.1.2.1, (a3.1.2.2.1, ((IntKind.i64.wrap (a3.1.2.2.2.1 - 1)), a3.1.2.2.2.2)))), (y10.1, y10.2.1)), ()))
            else none
          else none
noncomputable def S : Spec := ⟨ps, rs, .any, none, fun x r => ∃ k, f k x.1 x.2.1 x.2.2.1 = some r⟩
theorem rl {k a1 a2 a3 r} (e : f k a1 a2 a3 = some r) : S.rel (a1, a2, a3, ()) r := ⟨k, e⟩
theorem f_ok {r k a1 a2 a3} (H : f k a1 a2 a3 = some r) : Gw P 0 (Q r) (Px c0 1 []) (⟨97, [(0, .cv (.agg (encC .any T5477 a1))), (1, .cv (.one (.sl (.slice T1383) a2 .any))), (2, .cv (.agg (encC .any T70a7 a3)))], []⟩) := by
  unfold f at H
  refine Rg V_ok 4 [(0, hb 0), (1, hb 1), (2, hb 2), (3, hb 3)] az ?_
  refine Rg V_ok 1 [(11, hb 4)] az ?_
  refine Rg V_ok 1 [(1, hb 5)] az ?_
  refine Rg V_ok 0 [] az ?_
  rcases of_ite H with ⟨hb1, H⟩ | ⟨hb1, H⟩
  · refine C1 hb1 ?_
    refine Rg V_ok 0 [] az ?_
    refine Rg V_ok 0 [] az ?_
    exact Lf (Eq.trans (by kernel_rfl) H)
  · refine C0 hb1 ?_
    obtain ⟨y2, e3, H⟩ := of_bind H
    refine Rg V_ok 0 [(3, hr f_ref12_At.S y2)] (ac (f_ref12_At.rl e3) az) ?_
    obtain ⟨y4, e5, H⟩ := of_bind H
    refine Rg V_ok 0 [(6, hr f_ref08_First.S y4)] (ac (f_ref08_First.rl e5) az) ?_
    refine Rg V_ok 0 [] az ?_
    rcases of_ite H with ⟨hb6, H⟩ | ⟨hb6, H⟩
    · refine C1 hb6 ?_
      refine Rg V_ok 0 [] az ?_
      refine Rg V_ok 0 [] az ?_
      exact Lf (Eq.trans (by kernel_rfl) H)
    · refine C0 hb6 ?_
      obtain ⟨n7, H⟩ := of_if H
      obtain ⟨n8, H⟩ := of_if H
      refine Rg V_ok 0 [] (ac n7 (ac n8 az)) ?_
      rcases of_ite H with ⟨hb9, H⟩ | ⟨hb9, H⟩
      · refine C1 hb9 ?_
        refine Rg V_ok 0 [] az ?_
        refine Rg V_ok 0 [] az ?_
        exact Lf (Eq.trans (by kernel_rfl) H)
      · refine C0 hb9 ?_
        refine Rg V_ok 0 [] (ac n7 (ac n8 az)) ?_
        obtain ⟨y10, e11, H⟩ := of_bind H
        refine Rg V_ok 0 [(5, hr f_ref11_Far.S y10)] (ac (f_ref11_Far.rl e11) az) ?_
        refine Rg V_ok 0 [] az ?_
        rcases of_ite H with ⟨hb12, H⟩ | ⟨hb12, H⟩
        · refine C1 hb12 ?_
          refine Rg V_ok 0 [] az ?_
          refine Rg V_ok 0 [] az ?_
          exact Lf (Eq.trans (by kernel_rfl) H)
        · refine C0 hb12 ?_
          refine Rg V_ok 0 [] az ?_
          refine Rg V_ok 1 [(5, hb 6)] az ?_
          refine Rg V_ok 0 [] az ?_
          refine Rg V_ok 0 [] az ?_
          exact Lf (Eq.trans (by kernel_rfl) H)
theorem fits : Fits P 40 S := fits_of V_ok Go.Proofs.Try.func40 (by kernel_rfl) (by decide) (by decide) rfl (fun x r ⟨k, H⟩ => of_G (f_ok H))
end f_ref13_Step
/-! ### function 24, wayfinder/wayfinderref13.Walk -/
namespace f_ref13_Walk
noncomputable def c0 : Code := (Go.Proofs.Try.f24.body).getD .skip
abbrev ps : Sg := [(true, T5477), (false, (.slice (.slice T1383))), (true, T70a7)]
abbrev rs : Sg := [(false, (.slice Td8a9))]
noncomputable def V : Env := { tt := tt, Γ := slk [(40, f_ref13_Step.S)] }
theorem V_ok : EnvOk P V := { ck := tt_ck, fits := slk_cons f_ref13_Step.fits (slk_nil), mixed := mixed }
abbrev R := Tup rs
noncomputable abbrev Q (r : R) : Exit → St → Prop := Qr tt Go.Proofs.Try.f24.results ⟨ps, rs, .any, none, fun _ _ => True⟩ r
noncomputable def s2 (a1 : T5477.T) (a2 : List (List T1383.T)) (p3 : T70a7.T) : St := ⟨32, [(1, .cv (.one (.sl (.slice T1383) a2 .any))), (3, .cv (.one (.ptr 0 0))), (5, .cv (.one (.ptr 1 0)))], [(.box 3, (encC .any T5477 a1)), (.box 7, (encC .any T70a7 p3))]⟩
noncomputable def s1 (a1 : T5477.T) (a2 : List (List T1383.T)) (p3 : T70a7.T) (p4 : List Td8a9.T) : St := ⟨32, [(1, .cv (.one (.sl (.slice T1383) a2 .any))), (3, .cv (.one (.ptr 0 0))), (5, .cv (.one (.ptr 1 0))), (7, .cv (.one (.own 2)))], [(.box 3, (encC .any T5477 a1)), (.box 7, (encC .any T70a7 p3)), (.buf 41 Td8a9 p4, [])]⟩
noncomputable def b1 (a1 : T5477.T) (a2 : List (List T1383.T)) (L1 : T70a7.T → List Td8a9.T → Option R) (k : Nat) (p3 : T70a7.T) (p4 : List Td8a9.T) : Option R :=
  (f_ref13_Step.f k a1 a2 p3).bind fun y2 =>
  if (p4.length + 1) * 56 ≤ 140737488355328 then
    if (y2.1.2.2.2.2.2.1 != (0 : Int)) = true then
      some ((p4 ++ [y2.1]), ())
    else
      L1 y2.2.1 (p4 ++ [y2.1])
  else none
theorem b1_ok {r a1 a2} {L1 : T70a7.T → List Td8a9.T → Option R} {m1 : Nat} (hL1 : ∀ p3 p4, L1 p3 p4 = some r → Gw P 0 (Q r) (Pb c0 23 [] m1) (s1 a1 a2 p3 p4)) {k p3 p4} (H : b1 a1 a2 L1 k p3 p4 = some r) : Gw P 0 (Q r) (Px c0 39 [m1]) (s1 a1 a2 p3 p4) := by
  unfold b1 at H
  obtain ⟨y2, e3, H⟩ := of_bind H
  refine Rg V_ok 2 [(3, hr f_ref13_Step.S y2), (7, hb 3), (8, hb 4)] (ac (f_ref13_Step.rl e3) az) ?_
  obtain ⟨n4, H⟩ := of_if H
  refine Rg V_ok 1 [(3, hb 5)] (ac n4 az) ?_
  refine Rg V_ok 0 [] az ?_
  rcases of_ite H with ⟨hb5, H⟩ | ⟨hb5, H⟩
  · refine C1 hb5 ?_
    refine Rg V_ok 0 [] az ?_
    exact Lf (Eq.trans (by kernel_rfl) H)
  · refine C0 hb5 ?_
    refine Rg V_ok 0 [] az ?_
    exact Jm (tl [1, 3, 5, 7] [0, 1, 5]) (hL1 y2.2.1 (p4 ++ [y2.1]) H)
noncomputable def l1 (a1 : T5477.T) (a2 : List (List T1383.T)) (k : Nat) : Nat → T70a7.T → List Td8a9.T → Option R
  | 0, _, _ => none
  | m + 1, p3, p4 => b1 a1 a2 (l1 a1 a2 k m) k p3 p4
theorem l1_ok {r a1 a2} (k : Nat) : ∀ (m1 : Nat) (p3 : T70a7.T) (p4 : List Td8a9.T), l1 a1 a2 k m1 p3 p4 = some r → Gw P 0 (Q r) (Pb c0 23 [] m1) (s1 a1 a2 p3 p4)
  | 0, _, _, H => by cases H
  | m1 + 1, p3, p4, H => SU (by kernel_rfl) (b1_ok (l1_ok k m1) H)
noncomputable def j2 (a1 : T5477.T) (a2 : List (List T1383.T)) (k : Nat) (p3 : T70a7.T) : Option R :=
  l1 a1 a2 k k p3 []
theorem j2_ok {r a1 a2} {k p3} (H : j2 a1 a2 k p3 = some r) : Gw P 0 (Q r) (Px c0 7 []) (s2 a1 a2 p3) := by
  unfold j2 at H
  refine Rg V_ok 0 [] az ?_
  exact LP k (Jm {fz := [], gr := 1, ad := [.ownT 7 2 41 Td8a9], live := [1, 3, 5, 7], src := [some 0, some 1, some 2]} (l1_ok k k p3 [] H))
noncomputable def f (k : Nat) (a1 : T5477.T) (a2 : List (List T1383.T)) (a3 : T70a7.T) : Option R :=
  if (decide (a3.1.2.2.2.1 > (16 : Int))) = true then
    j2 a1 a2 k ((a3.1.1, (a3.1.2.1, (a3.1.2.2.1, (16, a3.1.2.2.2.2)))), a3.2)
  else
    j2 a1 a2 k a3
noncomputable def S : Spec := ⟨ps, rs, .any, none, fun x r => ∃ k, f k x.1 x.2.1 x.2.2.1 = some r⟩
theorem rl {k a1 a2 a3 r} (e : f k a1 a2 a3 = some r) : S.rel (a1, a2, a3, ()) r := ⟨k, e⟩
theorem f_ok {r k a1 a2 a3} (H : f k a1 a2 a3 = some r) : Gw P 0 (Q r) (Px c0 1 []) (⟨32, [(0, .cv (.agg (encC .any T5477 a1))), (1, .cv (.one (.sl (.slice T1383) a2 .any))), (2, .cv (.agg (encC .any T70a7 a3)))], []⟩) := by
  unfold f at H
  refine Rg V_ok 2 [(0, hb 0), (1, hb 1)] az ?_
  refine Rg V_ok 0 [] az ?_
  rcases of_ite H with ⟨hb1, H⟩ | ⟨hb1, H⟩
  · refine C1 hb1 ?_
    refine Rg V_ok 0 [] az ?_
    exact Jm (tn [1, 3, 5] 2) (j2_ok H)
  · refine C0 hb1 ?_
    exact Jm (tn [1, 3, 5] 2) (j2_ok H)
theorem fits : Fits P 24 S := fits_of V_ok Go.Proofs.Try.func24 (by kernel_rfl) (by decide) (by decide) rfl (fun x r ⟨k, H⟩ => of_G (f_ok H))
end f_ref13_Walk
/-! ### function 13, wayfinder/wayfinderref23.Follows -/
namespace f_ref23_Follows
noncomputable def c0 : Code := (Go.Proofs.Try.f13.body).getD .skip
abbrev ps : Sg := [(true, T5477), (false, (.slice (.slice T1383))), (true, T70a7), (false, (.slice Td8a9))]
abbrev rs : Sg := [(false, .bool)]
noncomputable def V : Env := { tt := tt, Γ := slk [(24, f_ref13_Walk.S)] }
theorem V_ok : EnvOk P V := { ck := tt_ck, fits := slk_cons f_ref13_Walk.fits (slk_nil), mixed := mixed }
abbrev R := Tup rs
noncomputable abbrev Q (r : R) : Exit → St → Prop := Qr tt Go.Proofs.Try.f13.results ⟨ps, rs, .any, none, fun _ _ => True⟩ r
noncomputable def s1 (a4 p2 : List Td8a9.T) (p3 : Int) : St := ⟨96, [(3, .cv (.one (.sl Td8a9 a4 .any))), (9, .cv (.one (.sl Td8a9 p2 .any))), (10, .cv (.one (.i p3)))], []⟩
noncomputable def s2 (a4 p2 : List Td8a9.T) (p3 : Int) (p4 : Bool) (p5 p6 : Td8a9.T) : St := ⟨96, [(3, .cv (.one (.sl Td8a9 a4 .any))), (9, .cv (.one (.sl Td8a9 p2 .any))), (10, .cv (.one (.i p3))), (11, .cv (.one (.ptr 0 0))), (12, .cv (.one (.ptr 1 0))), (50, .cv (.one (.bool p4)))], [(.box 7, (encC .any Td8a9 p5)), (.box 7, (encC .any Td8a9 p6))]⟩
noncomputable def s6 (a4 p2 : List Td8a9.T) (p3 : Int) (p4 : Bool) (p5 p6 : Td8a9.T) : St := ⟨96, [(3, .cv (.one (.sl Td8a9 a4 .any))), (9, .cv (.one (.sl Td8a9 p2 .any))), (10, .cv (.one (.i p3))), (11, .cv (.one (.ptr 0 0))), (12, .cv (.one (.ptr 1 0))), (62, .cv (.one (.bool p4)))], [(.box 7, (encC .any Td8a9 p5)), (.box 7, (encC .any Td8a9 p6))]⟩
noncomputable def s4 (a4 p2 : List Td8a9.T) (p3 : Int) : St := ⟨96, [(3, .cv (.one (.sl Td8a9 a4 .any))), (9, .cv (.one (.sl Td8a9 p2 .any))), (10, .cv (.one (.i p3)))], []⟩
noncomputable def j4 (a4 : List Td8a9.T) (L1 : List Td8a9.T → Int → Option R) (k : Nat) (p2 : List Td8a9.T) (p3 : Int) : Option R :=
  L1 p2 (IntKind.i64.wrap (p3 + 1))
theorem j4_ok {r a4} {L1 : List Td8a9.T → Int → Option R} {m1 : Nat} (hL1 : ∀ p2 p3, L1 p2 p3 = some r → Gw P 0 (Q r) (Pb c0 87 [] m1) (s1 a4 p2 p3)) {k p2 p3} (H : j4 a4 L1 k p2 p3 = some r) : Gw P 0 (Q r) (Px c0 919 [m1]) (s4 a4 p2 p3) := by
  unfold j4 at H
  refine Rg V_ok 0 [] az ?_
  exact Jm (tn [3, 9, 10] 0) (hL1 p2 (IntKind.i64.wrap (p3 + 1)) H)
noncomputable def s5 (a4 p2 : List Td8a9.T) (p3 : Int) (p4 p5 p6 : Bool) : St := ⟨96, [(3, .cv (.one (.sl Td8a9 a4 .any))), (9, .cv (.one (.sl Td8a9 p2 .any))), (10, .cv (.one (.i p3))), (13, .cv (.one (.bool p4))), (14, .cv (.one (.bool p5))), (15, .cv (.one (.bool p6)))], []⟩
noncomputable def s3 (a4 p2 : List Td8a9.T) (p3 : Int) (p4 : Bool) : St := ⟨96, [(3, .cv (.one (.sl Td8a9 a4 .any))), (9, .cv (.one (.sl Td8a9 p2 .any))), (10, .cv (.one (.i p3))), (95, .cv (.one (.bool p4)))], []⟩
noncomputable def j3 (a4 : List Td8a9.T) (L1 : List Td8a9.T → Int → Option R) (k : Nat) (p2 : List Td8a9.T) (p3 : Int) (p4 : Bool) : Option R :=
  if p4 = true then
  some (false, ())
else
  j4 a4 L1 k p2 p3
theorem j3_ok {r a4} {L1 : List Td8a9.T → Int → Option R} {m1 : Nat} (hL1 : ∀ p2 p3, L1 p2 p3 = some r → Gw P 0 (Q r) (Pb c0 87 [] m1) (s1 a4 p2 p3)) {k p2 p3 p4} (H : j3 a4 L1 k p2 p3 p4 = some r) : Gw P 0 (Q r) (Px c0 523415 [m1]) (s3 a4 p2 p3 p4) := by
  unfold j3 at H
  rcases of_ite H with ⟨hb15, H⟩ | ⟨hb15, H⟩
  · refine C1 hb15 ?_
    refine Rg V_ok 0 [] az ?_
    exact Lf (Eq.trans (by kernel_rfl) H)
  · refine C0 hb15 ?_
    exact Jm (tn [3, 9, 10] 0) (j4_ok hL1 H)
noncomputable def j5 (a4 : List Td8a9.T) (L1 : List Td8a9.T → Int → Option R) (k : Nat) (p2 : List Td8a9.T) (p3 : Int) (p4 p5 p6 : Bool) : Option R :=
  if (!p4) = true then
  j3 a4 L1 k p2 p3 true
else
  if (!p5) = true then
    j3 a4 L1 k p2 p3 (!p6)
  else
    j3 a4 L1 k p2 p3 false
theorem j5_ok {r a4} {L1 : List Td8a9.T → Int → Option R} {m1 : Nat} (hL1 : ∀ p2 p3, L1 p2 p3 = some r → Gw P 0 (Q r) (Pb c0 87 [] m1) (s1 a4 p2 p3)) {k p2 p3 p4 p5 p6} (H : j5 a4 L1 k p2 p3 p4 p5 p6 = some r) : Gw P 0 (Q r) (Px c0 261271 [m1]) (s5 a4 p2 p3 p4 p5 p6) := by
  unfold j5 at H
  rcases of_ite H with ⟨hb14, H⟩ | ⟨hb14, H⟩
  · refine Rg V_ok 0 [(1, {bv := some true})] (ac hb14 az) ?_
    exact Jm (tn [3, 9, 10, 95] 0) (j3_ok hL1 H)
  · rcases of_ite H with ⟨hb16, H⟩ | ⟨hb16, H⟩
    · refine Rg V_ok 0 [(1, {bv := some false}), (4, {bv := some true})] (ac hb14 (ac hb16 az)) ?_
      exact Jm (tn [3, 9, 10, 95] 0) (j3_ok hL1 H)
    · refine Rg V_ok 0 [(1, {bv := some false}), (4, {bv := some false})] (ac hb14 (ac hb16 az)) ?_
      exact Jm (tn [3, 9, 10, 95] 0) (j3_ok hL1 H)
noncomputable def j6 (a4 : List Td8a9.T) (L1 : List Td8a9.T → Int → Option R) (k : Nat) (p2 : List Td8a9.T) (p3 : Int) (p4 : Bool) (p5 p6 : Td8a9.T) : Option R :=
  if p4 = true then
  j4 a4 L1 k p2 p3
else
  if (p5.2.2.2.2.2.1 == (7 : Int)) = true then
    if (p5.2.2.2.2.2.2 == p6.2.2.2.2.2.2) = true then
      j5 a4 L1 k p2 p3 (p3 == (IntKind.i64.wrap ((a4.length : Int) - 1))) (p5.2.2.2.2.2.1 == (6 : Int)) (p6.2.2.2.2.2.1 == (0 : Int))
    else
      j5 a4 L1 k p2 p3 (p3 == (IntKind.i64.wrap ((a4.length : Int) - 1))) (p5.2.2.2.2.2.1 == (6 : Int)) false
  else
    j5 a4 L1 k p2 p3 (p3 == (IntKind.i64.wrap ((a4.length : Int) - 1))) (p5.2.2.2.2.2.1 == (6 : Int)) false
theorem j6_ok {r a4} {L1 : List Td8a9.T → Int → Option R} {m1 : Nat} (hL1 : ∀ p2 p3, L1 p2 p3 = some r → Gw P 0 (Q r) (Pb c0 87 [] m1) (s1 a4 p2 p3)) {k p2 p3 p4 p5 p6} (H : j6 a4 L1 k p2 p3 p4 p5 p6 = some r) : Gw P 0 (Q r) (Px c0 56471 [m1]) (s6 a4 p2 p3 p4 p5 p6) := by
  unfold j6 at H
  rcases of_ite H with ⟨hb11, H⟩ | ⟨hb11, H⟩
  · refine C1 hb11 ?_
    exact Jm (tn [3, 9, 10] 0) (j4_ok hL1 H)
  · refine C0 hb11 ?_
    refine Rg V_ok 0 [] az ?_
    refine Rg V_ok 0 [] az ?_
    rcases of_ite H with ⟨hb12, H⟩ | ⟨hb12, H⟩
    · rcases of_ite H with ⟨hb13, H⟩ | ⟨hb13, H⟩
      · refine Rg V_ok 0 [(2, {bv := some true}), (9, {bv := some true})] (ac hb12 (ac hb13 az)) ?_
        exact Jm (tn [3, 9, 10, 13, 14, 15] 0) (j5_ok hL1 H)
      · refine Rg V_ok 0 [(2, {bv := some true}), (9, {bv := some false})] (ac hb12 (ac hb13 az)) ?_
        exact Jm (tn [3, 9, 10, 13, 14, 15] 0) (j5_ok hL1 H)
    · refine Rg V_ok 0 [(2, {bv := some false})] (ac hb12 az) ?_
      exact Jm (tn [3, 9, 10, 13, 14, 15] 0) (j5_ok hL1 H)
noncomputable def j2 (a4 : List Td8a9.T) (L1 : List Td8a9.T → Int → Option R) (k : Nat) (p2 : List Td8a9.T) (p3 : Int) (p4 : Bool) (p5 p6 : Td8a9.T) : Option R :=
  if p4 = true then
  some (false, ())
else
  if (p5.2.2.2.2.2.1 == p6.2.2.2.2.2.1) = true then
    j6 a4 L1 k p2 p3 (p5.2.2.2.2.2.2 == p6.2.2.2.2.2.2) p5 p6
  else
    j6 a4 L1 k p2 p3 false p5 p6
theorem j2_ok {r a4} {L1 : List Td8a9.T → Int → Option R} {m1 : Nat} (hL1 : ∀ p2 p3, L1 p2 p3 = some r → Gw P 0 (Q r) (Pb c0 87 [] m1) (s1 a4 p2 p3)) {k p2 p3 p4 p5 p6} (H : j2 a4 L1 k p2 p3 p4 p5 p6 = some r) : Gw P 0 (Q r) (Px c0 27799 [m1]) (s2 a4 p2 p3 p4 p5 p6) := by
  unfold j2 at H
  rcases of_ite H with ⟨hb9, H⟩ | ⟨hb9, H⟩
  · refine C1 hb9 ?_
    refine Rg V_ok 0 [] az ?_
    exact Lf (Eq.trans (by kernel_rfl) H)
  · refine C0 hb9 ?_
    rcases of_ite H with ⟨hb10, H⟩ | ⟨hb10, H⟩
    · refine Rg V_ok 0 [(4, {bv := some true})] (ac hb10 az) ?_
      exact Jm (tn [3, 9, 10, 11, 12, 62] 2) (j6_ok hL1 H)
    · refine Rg V_ok 0 [(4, {bv := some false})] (ac hb10 az) ?_
      exact Jm (tn [3, 9, 10, 11, 12, 62] 2) (j6_ok hL1 H)
noncomputable def b1 (a4 : List Td8a9.T) (L1 : List Td8a9.T → Int → Option R) (k : Nat) (p2 : List Td8a9.T) (p3 : Int) : Option R :=
  if (decide (p3 < (a4.length : Int))) = true then
  if 0 ≤ p3 then
    if p3 < (a4.length : Int) then
      if p3 < (p2.length : Int) then
        if (((((att Td8a9 a4 p3).2).2).1) != ((((att Td8a9 p2 p3).2).2).1)) = true then
          j2 a4 L1 k p2 p3 true (att Td8a9 a4 p3) (att Td8a9 p2 p3)
        else
          j2 a4 L1 k p2 p3 ((((((att Td8a9 a4 p3).2).2).2).1) != (((((att Td8a9 p2 p3).2).2).2).1)) (att Td8a9 a4 p3) (att Td8a9 p2 p3)
      else none
    else none
  else none
else
  some (true, ())
theorem b1_ok {r a4} {L1 : List Td8a9.T → Int → Option R} {m1 : Nat} (hL1 : ∀ p2 p3, L1 p2 p3 = some r → Gw P 0 (Q r) (Pb c0 87 [] m1) (s1 a4 p2 p3)) {k p2 p3} (H : b1 a4 L1 k p2 p3 = some r) : Gw P 0 (Q r) (Px c0 151 [m1]) (s1 a4 p2 p3) := by
  unfold b1 at H
  refine Rg V_ok 0 [] az ?_
  rcases of_ite H with ⟨hb4, H⟩ | ⟨hb4, H⟩
  · refine C1 hb4 ?_
    obtain ⟨n5, H⟩ := of_if H
    obtain ⟨n6, H⟩ := of_if H
    refine Rg V_ok 1 [(4, hb 0)] (ac n5 (ac n6 az)) ?_
    obtain ⟨n7, H⟩ := of_if H
    refine Rg V_ok 1 [(4, hb 1)] (ac n5 (ac n7 az)) ?_
    rcases of_ite H with ⟨hb8, H⟩ | ⟨hb8, H⟩
    · refine Rg V_ok 0 [(4, {bv := some true})] (ac hb8 az) ?_
      exact Jm (tn [3, 9, 10, 11, 12, 50] 2) (j2_ok hL1 H)
    · refine Rg V_ok 0 [(4, {bv := some false})] (ac hb8 az) ?_
      exact Jm (tn [3, 9, 10, 11, 12, 50] 2) (j2_ok hL1 H)
  · refine C0 hb4 ?_
    refine Rg V_ok 0 [] az ?_
    exact Lf (Eq.trans (by kernel_rfl) H)
noncomputable def l1 (a4 : List Td8a9.T) (k : Nat) : Nat → List Td8a9.T → Int → Option R
  | 0, _, _ => none
  | m + 1, p2, p3 => b1 a4 (l1 a4 k m) k p2 p3
theorem l1_ok {r a4} (k : Nat) : ∀ (m1 : Nat) (p2 : List Td8a9.T) (p3 : Int), l1 a4 k m1 p2 p3 = some r → Gw P 0 (Q r) (Pb c0 87 [] m1) (s1 a4 p2 p3)
  | 0, _, _, H => by cases H
  | m1 + 1, p2, p3, H => SU (by kernel_rfl) (b1_ok (l1_ok k m1) H)
noncomputable def f (k : Nat) (a1 : T5477.T) (a2 : List (List T1383.T)) (a3 : T70a7.T) (a4 : List Td8a9.T) : Option R :=
  (f_ref13_Walk.f k a1 a2 a3).bind fun y1 =>
    if (decide ((a4.length : Int) > (y1.1.length : Int))) = true then
      some (false, ())
    else
      l1 a4 k k y1.1 0
noncomputable def S : Spec := ⟨ps, rs, .any, none, fun x r => ∃ k, f k x.1 x.2.1 x.2.2.1 x.2.2.2.1 = some r⟩
theorem rl {k a1 a2 a3 a4 r} (e : f k a1 a2 a3 a4 = some r) : S.rel (a1, a2, a3, a4, ()) r := ⟨k, e⟩
theorem f_ok {r k a1 a2 a3 a4} (H : f k a1 a2 a3 a4 = some r) : Gw P 0 (Q r) (Px c0 1 []) (⟨96, [(0, .cv (.agg (encC .any T5477 a1))), (1, .cv (.one (.sl (.slice T1383) a2 .any))), (2, .cv (.agg (encC .any T70a7 a3))), (3, .cv (.one (.sl Td8a9 a4 .any)))], []⟩) := by
  unfold f at H
  refine Rg V_ok 2 [(0, hb 0), (1, hb 1)] az ?_
  obtain ⟨y1, e2, H⟩ := of_bind H
  refine Rg V_ok 0 [(3, hr f_ref13_Walk.S y1)] (ac (f_ref13_Walk.rl e2) az) ?_
  refine Rg V_ok 0 [] az ?_
  rcases of_ite H with ⟨hb3, H⟩ | ⟨hb3, H⟩
  · refine C1 hb3 ?_
    refine Rg V_ok 0 [] az ?_
    exact Lf (Eq.trans (by kernel_rfl) H)
  · refine C0 hb3 ?_
    refine Rg V_ok 0 [] az ?_
    exact LP k (Jm (tn [3, 9, 10] 0) (l1_ok k k y1.1 0 H))
theorem fits : Fits P 13 S := fits_of V_ok Go.Proofs.Try.func13 (by kernel_rfl) (by decide) (by decide) rfl (fun x r ⟨k, H⟩ => of_G (f_ok H))
end f_ref23_Follows
/-! ### function 15, wayfinder/wayfinderref23.Tag -/
namespace f_ref23_Tag
noncomputable def c0 : Code := (Go.Proofs.Try.f15.body).getD .skip
abbrev ps : Sg := [(false, (.slice Td8a9))]
abbrev rs : Sg := [(false, (.int .i64))]
noncomputable def V : Env := { tt := tt, Γ := slk [] }
theorem V_ok : EnvOk P V := { ck := tt_ck, fits := slk_nil, mixed := mixed }
abbrev R := Tup rs
noncomputable abbrev Q (r : R) : Exit → St → Prop := Qr tt Go.Proofs.Try.f15.results ⟨ps, rs, .any, none, fun _ _ => True⟩ r
noncomputable def s1 (a1 : List Td8a9.T) (p2 : Int) (p3 : Bool) (p4 : Int) : St := ⟨34, [(0, .cv (.one (.sl Td8a9 a1 .any))), (3, .cv (.one (.i p2))), (4, .cv (.one (.bool p3))), (5, .cv (.one (.i p4)))], []⟩
noncomputable def s2 (a1 : List Td8a9.T) (p2 : Int) (p3 : Bool) (p4 : Int) : St := ⟨34, [(0, .cv (.one (.sl Td8a9 a1 .any))), (3, .cv (.one (.i p2))), (4, .cv (.one (.bool p3))), (5, .cv (.one (.i p4)))], []⟩
noncomputable def j2 (a1 : List Td8a9.T) (L1 : Int → Bool → Int → Option R) (k : Nat) (p2 : Int) (p3 : Bool) (p4 : Int) : Option R :=
  L1 p2 p3 (IntKind.i64.wrap (p4 + 1))
theorem j2_ok {r a1} {L1 : Int → Bool → Int → Option R} {m1 : Nat} (hL1 : ∀ p2 p3 p4, L1 p2 p3 p4 = some r → Gw P 0 (Q r) (Pb c0 87 [] m1) (s1 a1 p2 p3 p4)) {k p2 p3 p4} (H : j2 a1 L1 k p2 p3 p4 = some r) : Gw P 0 (Q r) (Px c0 919 [m1]) (s2 a1 p2 p3 p4) := by
  unfold j2 at H
  refine Rg V_ok 0 [] az ?_
  exact Jm (tn [0, 3, 4, 5] 0) (hL1 p2 p3 (IntKind.i64.wrap (p4 + 1)) H)
noncomputable def s3 (a1 : List Td8a9.T) (p2 : Int) (p3 : Bool) : St := ⟨34, [(0, .cv (.one (.sl Td8a9 a1 .any))), (5, .cv (.one (.i p2))), (27, .cv (.one (.bool p3)))], []⟩
noncomputable def j3 (a1 : List Td8a9.T) (L1 : Int → Bool → Int → Option R) (k : Nat) (p2 : Int) (p3 : Bool) : Option R :=
  if p3 = true then
  some ((-1 : Int), ())
else
  if 0 ≤ p2 then
    if p2 < (a1.length : Int) then
      j2 a1 L1 k ((((((att Td8a9 a1 p2).2).2).2).2).1) true p2
    else none
  else none
theorem j3_ok {r a1} {L1 : Int → Bool → Int → Option R} {m1 : Nat} (hL1 : ∀ p2 p3 p4, L1 p2 p3 p4 = some r → Gw P 0 (Q r) (Pb c0 87 [] m1) (s1 a1 p2 p3 p4)) {k p2 p3} (H : j3 a1 L1 k p2 p3 = some r) : Gw P 0 (Q r) (Px c0 13463 [m1]) (s3 a1 p2 p3) := by
  unfold j3 at H
  rcases of_ite H with ⟨hb6, H⟩ | ⟨hb6, H⟩
  · refine C1 hb6 ?_
    refine Rg V_ok 0 [] az ?_
    exact Lf (Eq.trans (by kernel_rfl) H)
  · refine C0 hb6 ?_
    refine Rg V_ok 0 [] az ?_
    obtain ⟨n7, H⟩ := of_if H
    obtain ⟨n8, H⟩ := of_if H
    refine Rg V_ok 0 [] (ac n7 (ac n8 az)) ?_
    exact Jm (tn [0, 3, 4, 5] 0) (j2_ok hL1 H)
noncomputable def b1 (a1 : List Td8a9.T) (L1 : Int → Bool → Int → Option R) (k : Nat) (p2 : Int) (p3 : Bool) (p4 : Int) : Option R :=
  if (decide (p4 < (a1.length : Int))) = true then
  if 0 ≤ p4 then
    if p4 < (a1.length : Int) then
      if ((((((((att Td8a9 a1 p4).2).2).2).2).2).1) == (6 : Int)) = true then
        j2 a1 L1 k p2 p3 p4
      else
        if p3 = true then
          j3 a1 L1 k p4 (((((((att Td8a9 a1 p4).2).2).2).2).1) != p2)
        else
          j3 a1 L1 k p4 false
    else none
  else none
else
  some (p2, ())
theorem b1_ok {r a1} {L1 : Int → Bool → Int → Option R} {m1 : Nat} (hL1 : ∀ p2 p3 p4, L1 p2 p3 p4 = some r → Gw P 0 (Q r) (Pb c0 87 [] m1) (s1 a1 p2 p3 p4)) {k p2 p3 p4} (H : b1 a1 L1 k p2 p3 p4 = some r) : Gw P 0 (Q r) (Px c0 151 [m1]) (s1 a1 p2 p3 p4) := by
  unfold b1 at H
  refine Rg V_ok 0 [] az ?_
  rcases of_ite H with ⟨hb1, H⟩ | ⟨hb1, H⟩
  · refine C1 hb1 ?_
    obtain ⟨n2, H⟩ := of_if H
    obtain ⟨n3, H⟩ := of_if H
    refine Rg V_ok 0 [] (ac n2 (ac n3 az)) ?_
    rcases of_ite H with ⟨hb4, H⟩ | ⟨hb4, H⟩
    · refine C1 hb4 ?_
      exact Jm (tn [0, 3, 4, 5] 0) (j2_ok hL1 H)
    · refine C0 hb4 ?_
      rcases of_ite H with ⟨hb5, H⟩ | ⟨hb5, H⟩
      · refine Rg V_ok 0 [(0, {bv := some true})] (ac hb5 (ac n2 (ac n3 az))) ?_
        exact Jm (tn [0, 5, 27] 0) (j3_ok hL1 H)
      · refine Rg V_ok 0 [(0, {bv := some false})] (ac hb5 az) ?_
        exact Jm (tn [0, 5, 27] 0) (j3_ok hL1 H)
  · refine C0 hb1 ?_
    refine Rg V_ok 0 [] az ?_
    exact Lf (Eq.trans (by kernel_rfl) H)
noncomputable def l1 (a1 : List Td8a9.T) (k : Nat) : Nat → Int → Bool → Int → Option R
  | 0, _, _, _ => none
  | m + 1, p2, p3, p4 => b1 a1 (l1 a1 k m) k p2 p3 p4
theorem l1_ok {r a1} (k : Nat) : ∀ (m1 : Nat) (p2 : Int) (p3 : Bool) (p4 : Int), l1 a1 k m1 p2 p3 p4 = some r → Gw P 0 (Q r) (Pb c0 87 [] m1) (s1 a1 p2 p3 p4)
  | 0, _, _, _, H => by cases H
  | m1 + 1, p2, p3, p4, H => SU (by kernel_rfl) (b1_ok (l1_ok k m1) H)
noncomputable def f (k : Nat) (a1 : List Td8a9.T) : Option R :=
  l1 a1 k k 0 false 0
noncomputable def S : Spec := ⟨ps, rs, .any, none, fun x r => ∃ k, f k x.1 = some r⟩
theorem rl {k a1 r} (e : f k a1 = some r) : S.rel (a1, ()) r := ⟨k, e⟩
theorem f_ok {r k a1} (H : f k a1 = some r) : Gw P 0 (Q r) (Px c0 1 []) (⟨34, [(0, .cv (.one (.sl Td8a9 a1 .any)))], []⟩) := by
  unfold f at H
  refine Rg V_ok 0 [] az ?_
  refine Rg V_ok 0 [] az ?_
  refine Rg V_ok 0 [] az ?_
  refine Rg V_ok 0 [] az ?_
  exact LP k (Jm (tn [0, 3, 4, 5] 0) (l1_ok k k 0 false 0 H))
theorem fits : Fits P 15 S := fits_of V_ok Go.Proofs.Try.func15 (by kernel_rfl) (by decide) (by decide) rfl (fun x r ⟨k, H⟩ => of_G (f_ok H))
end f_ref23_Tag
/-! ### function 3, wayfinder/wayfinderlaw23.AuditTells -/
namespace f_law23_AuditTells
noncomputable def c0 : Code := (Go.Proofs.Try.f3.body).getD .skip
abbrev ps : Sg := [(true, T5477), (false, (.slice (.slice T1383))), (true, T70a7), (false, (.slice Td8a9)), (false, (.int .i64))]
abbrev rs : Sg := [(false, .bool)]
noncomputable def V : Env := { tt := tt, Γ := slk [(8, f_law23_awake.S), (9, f_law12_Few.S), (10, f_ref13_Same.S), (11, f_audit_Of.S), (12, f_ref23_Of.S), (13, f_ref23_Follows.S), (14, f_audit_Tag.S), (15, f_ref23_Tag.S), (16, f_audit_Follows.S)] }
theorem V_ok : EnvOk P V := { ck := tt_ck, fits := slk_cons f_law23_awake.fits (slk_cons f_law12_Few.fits (slk_cons f_ref13_Same.fits (slk_cons f_audit_Of.fits (slk_cons f_ref23_Of.fits (slk_cons f_ref23_Follows.fits (slk_cons f_audit_Tag.fits (slk_cons f_ref23_Tag.fits (slk_cons f_audit_Follows.fits (slk_nil))))))))), mixed := mixed }
abbrev R := Tup rs
noncomputable abbrev Q (r : R) : Exit → St → Prop := Qr tt Go.Proofs.Try.f3.results ⟨ps, rs, .any, none, fun _ _ => True⟩ r
noncomputable def s1 (a1 : T5477.T) (a2 : List (List T1383.T)) (a3 : T70a7.T) (a4 : List Td8a9.T) (a5 : Int) (p4 p5 : Bool) : St := ⟨65, [(1, .cv (.one (.sl (.slice T1383) a2 .any))), (3, .cv (.one (.sl Td8a9 a4 .any))), (4, .cv (.one (.i a5))), (5, .cv (.one (.ptr 0 0))), (7, .cv (.one (.ptr 1 0))), (11, .cv (.one (.bool p4))), (34, .cv (.one (.bool p5)))], [(.box 3, (encC .any T5477 a1)), (.box 7, (encC .any T70a7 a3))]⟩
noncomputable def j1 (a1 : T5477.T) (a2 : List (List T1383.T)) (a3 : T70a7.T) (a4 : List Td8a9.T) (a5 : Int) (k : Nat) (p4 p5 : Bool) : Option R :=
  if p5 = true then
  some (p4, ())
else
  (f_audit_Of.f k a4 a5).bind fun y7 =>
    (f_ref23_Of.f k a4 a5).bind fun y8 =>
      (f_ref13_Same.f k y7.1 y8.1).bind fun y9 =>
        (f_ref23_Follows.f k a1 a2 a3 a4).bind fun y13 =>
          if y9.1 = true then
            (f_audit_Tag.f k a4).bind fun y15 =>
              (f_ref23_Tag.f k a4).bind fun y16 =>
                if (y15.1 == y16.1) = true then
                  (f_audit_Follows.f k a1 a2 a3 a4).bind fun y17 =>
                    some (((y17.1 == y13.1) && true), ())
                else
                  some (false, ())
          else
            some (false, ())
theorem j1_ok {r a1 a2 a3 a4 a5} {k p4 p5} (H : j1 a1 a2 a3 a4 a5 k p4 p5 = some r) : Gw P 0 (Q r) (Px c0 55 []) (s1 a1 a2 a3 a4 a5 p4 p5) := by
  unfold j1 at H
  rcases of_ite H with ⟨hb6, H⟩ | ⟨hb6, H⟩
  · refine C1 hb6 ?_
    refine Rg V_ok 0 [] az ?_
    exact Lf (Eq.trans (by kernel_rfl) H)
  · refine C0 hb6 ?_
    obtain ⟨y7, e10, H⟩ := of_bind H
    obtain ⟨y8, e11, H⟩ := of_bind H
    obtain ⟨y9, e12, H⟩ := of_bind H
    refine Rg V_ok 0 [(2, hr f_audit_Of.S y7), (5, hr f_ref23_Of.S y8), (6, hr f_ref13_Same.S y9)] (ac (f_audit_Of.rl e10) (ac (f_ref23_Of.rl e11) (ac (f_ref13_Same.rl e12) az))) ?_
    obtain ⟨y13, e14, H⟩ := of_bind H
    refine Rg V_ok 0 [(4, hr f_ref23_Follows.S y13)] (ac (f_ref23_Follows.rl e14) az) ?_
    rcases of_ite H with ⟨hb18, H⟩ | ⟨hb18, H⟩
    · obtain ⟨y15, e19, H⟩ := of_bind H
      obtain ⟨y16, e20, H⟩ := of_bind H
      rcases of_ite H with ⟨hb21, H⟩ | ⟨hb21, H⟩
      · obtain ⟨y17, e22, H⟩ := of_bind H
        refine Rg V_ok 0 [(0, {bv := some true}), (3, hr f_audit_Tag.S y15), (5, hr f_ref23_Tag.S y16), (7, {bv := some true}), (13, hr f_audit_Follows.S y17)] (ac hb18 (ac (f_audit_Tag.rl e19) (ac (f_ref23_Tag.rl e20) (ac hb21 (ac (f_audit_Follows.rl e22) az))))) ?_
        exact Lf (Eq.trans (by kernel_rfl) H)
      · refine Rg V_ok 0 [(0, {bv := some true}), (3, hr f_audit_Tag.S y15), (5, hr f_ref23_Tag.S y16), (7, {bv := some false})] (ac hb18 (ac (f_audit_Tag.rl e19) (ac (f_ref23_Tag.rl e20) (ac hb21 az)))) ?_
        exact Lf (Eq.trans (by kernel_rfl) H)
    · refine Rg V_ok 0 [(0, {bv := some false})] (ac hb18 az) ?_
      exact Lf (Eq.trans (by kernel_rfl) H)
noncomputable def f (k : Nat) (a1 : T5477.T) (a2 : List (List T1383.T)) (a3 : T70a7.T) (a4 : List Td8a9.T) (a5 : Int) : Option R :=
  (f_law23_awake.f k).bind fun y1 =>
    (f_law12_Few.f k a2).bind fun y3 =>
      if (!y1.1) = true then
        j1 a1 a2 a3 a4 a5 k y1.1 true
      else
        if (!y3.1) = true then
          j1 a1 a2 a3 a4 a5 k y1.1 true
        else
          if (decide ((a1.2.2.length : Int) > (60 : Int))) = true then
            j1 a1 a2 a3 a4 a5 k y1.1 true
          else
            j1 a1 a2 a3 a4 a5 k y1.1 (decide ((a4.length : Int) > (200 : Int)))
noncomputable def S : Spec := ⟨ps, rs, .any, none, fun x r => ∃ k, f k x.1 x.2.1 x.2.2.1 x.2.2.2.1 x.2.2.2.2.1 = some r⟩
theorem rl {k a1 a2 a3 a4 a5 r} (e : f k a1 a2 a3 a4 a5 = some r) : S.rel (a1, a2, a3, a4, a5, ()) r := ⟨k, e⟩
theorem f_ok {r k a1 a2 a3 a4 a5} (H : f k a1 a2 a3 a4 a5 = some r) : Gw P 0 (Q r) (Px c0 1 []) (⟨65, [(0, .cv (.agg (encC .any T5477 a1))), (1, .cv (.one (.sl (.slice T1383) a2 .any))), (2, .cv (.agg (encC .any T70a7 a3))), (3, .cv (.one (.sl Td8a9 a4 .any))), (4, .cv (.one (.i a5)))], []⟩) := by
  unfold f at H
  refine Rg V_ok 2 [(0, hb 0), (1, hb 1)] az ?_
  obtain ⟨y1, e2, H⟩ := of_bind H
  refine Rg V_ok 0 [(0, hr f_law23_awake.S y1)] (ac (f_law23_awake.rl e2) az) ?_
  obtain ⟨y3, e4, H⟩ := of_bind H
  refine Rg V_ok 0 [(1, hr f_law12_Few.S y3)] (ac (f_law12_Few.rl e4) az) ?_
  rcases of_ite H with ⟨hb5, H⟩ | ⟨hb5, H⟩
  · refine Rg V_ok 0 [(1, {bv := some true})] (ac hb5 az) ?_
    exact Jm (tn [1, 3, 4, 5, 7, 11, 34] 2) (j1_ok H)
  · rcases of_ite H with ⟨hb23, H⟩ | ⟨hb23, H⟩
    · refine Rg V_ok 0 [(1, {bv := some false}), (5, {bv := some true})] (ac hb5 (ac hb23 az)) ?_
      exact Jm (tn [1, 3, 4, 5, 7, 11, 34] 2) (j1_ok H)
    · rcases of_ite H with ⟨hb24, H⟩ | ⟨hb24, H⟩
      · refine Rg V_ok 0 [(1, {bv := some false}), (5, {bv := some false}), (11, {bv := some true})] (ac hb5 (ac hb23 (ac hb24 az))) ?_
        exact Jm (tn [1, 3, 4, 5, 7, 11, 34] 2) (j1_ok H)
      · refine Rg V_ok 0 [(1, {bv := some false}), (5, {bv := some false}), (11, {bv := some false})] (ac hb5 (ac hb23 (ac hb24 az))) ?_
        exact Jm (tn [1, 3, 4, 5, 7, 11, 34] 2) (j1_ok H)
theorem fits : Fits P 3 S := fits_of V_ok Go.Proofs.Try.func3 (by kernel_rfl) (by decide) (by decide) rfl (fun x r ⟨k, H⟩ => of_G (f_ok H))
end f_law23_AuditTells
/-! ### function 4, wayfinder/wayfinderlaw23.AuditWalks -/
namespace f_law23_AuditWalks
noncomputable def c0 : Code := (Go.Proofs.Try.f4.body).getD .skip
abbrev ps : Sg := [(true, T5477), (false, (.slice (.slice T1383))), (true, T70a7), (false, (.int .i64))]
abbrev rs : Sg := [(false, .bool)]
noncomputable def V : Env := { tt := tt, Γ := slk [(8, f_law23_awake.S), (9, f_law12_Few.S), (16, f_audit_Follows.S), (17, f_path_Walk.S)] }
theorem V_ok : EnvOk P V := { ck := tt_ck, fits := slk_cons f_law23_awake.fits (slk_cons f_law12_Few.fits (slk_cons f_audit_Follows.fits (slk_cons f_path_Walk.fits (slk_nil)))), mixed := mixed }
abbrev R := Tup rs
noncomputable abbrev Q (r : R) : Exit → St → Prop := Qr tt Go.Proofs.Try.f4.results ⟨ps, rs, .any, none, fun _ _ => True⟩ r
noncomputable def s1 (a1 : T5477.T) (a2 : List (List T1383.T)) (a3 : T70a7.T) (a4 : Int) (p3 p4 : Bool) : St := ⟨117, [(1, .cv (.one (.sl (.slice T1383) a2 .any))), (3, .cv (.one (.i a4))), (4, .cv (.one (.ptr 0 0))), (6, .cv (.one (.ptr 1 0))), (9, .cv (.one (.bool p3))), (31, .cv (.one (.bool p4)))], [(.box 3, (encC .any T5477 a1)), (.box 7, (encC .any T70a7 a3))]⟩
noncomputable def s2 (a1 : T5477.T) (a2 : List (List T1383.T)) (a3 : T70a7.T) (a4 : Int) (p3 : List Td8a9.T) (p4 : Bool) : St := ⟨117, [(1, .cv (.one (.sl (.slice T1383) a2 .any))), (3, .cv (.one (.i a4))), (4, .cv (.one (.ptr 0 0))), (6, .cv (.one (.ptr 1 0))), (11, .cv (.one (.sl Td8a9 p3 .any))), (44, .cv (.one (.bool p4)))], [(.box 3, (encC .any T5477 a1)), (.box 7, (encC .any T70a7 a3))]⟩
noncomputable def j2 (a1 : T5477.T) (a2 : List (List T1383.T)) (a3 : T70a7.T) (a4 : Int) (k : Nat) (p3 : List Td8a9.T) (p4 : Bool) : Option R :=
  if p4 = true then
  (f_audit_Follows.f k a1 a2 a3 p3).bind fun y11 =>
    some (y11.1, ())
else
  if 0 ≤ (0 : Int) ∧ (0 : Int) ≤ a4 ∧ a4 ≤ (p3.length : Int) then
    if ((p3.take a4.toNat).drop (0 : Int).toNat).length * 56 ≤ 140737488355328 then
      if 0 ≤ (IntKind.i64.wrap (a4 - 1)) then
        if (IntKind.i64.wrap (a4 - 1)) < (((p3.take a4.toNat).drop (0 : Int).toNat).length : Int) then
          if (IntKind.i64.wrap (a4 - 1)) < (p3.length : Int) then
            if p3.length * 56 ≤ 140737488355328 then
              if (p3.length + 1) * 56 ≤ 140737488355328 then
                (f_audit_Follows.f k a1 a2 a3 ((p3.take a4.toNat).drop (0 : Int).toNat)).bind fun y20 =>
                  if y20.1 = true then
                    (f_audit_Follows.f k a1 a2 a3 (((p3.take a4.toNat).drop (0 : Int).toNat).set (IntKind.i64.wrap (a4 - 1)).toNat ((att Td8a9 ((p3.take a4.toNat).drop (0 : Int).toNat) (IntKind.i64.wrap (a4 - 1))).1, (((att Td8a9 ((p3.take a4.toNat).drop (0 : Int).toNat) (IntKind.i64.wrap (a4 - 1))).2).1, ((((att Td8a9 ((p3.take a4.toNat).drop (0 : Int).toNat) (IntKind.i64.wrap (a4 - 1))).2).2).1, (((((att Td8a9 ((p3.take a4.toNat).drop (0 : Int).toNat) (IntKind.i64.wrap (a4 - 1))).2).2).2).1, ((((((att Td8a9 ((p3.take a4.toNat).drop (0 : Int).toNat) (IntKind.i64.wrap (a4 - 1))).2).2).2).2).1, (6, ((((((att Td8a9 ((p3.take a4.toNat).drop (0 : Int).toNat) (IntKind.i64.wrap (a4 - 1))).2).2).2).2).2).2)))))))).bind fun y21 =>
                      if y21.1 = true then
                        (f_audit_Follows.f k a1 a2 a3 (((p3.take a4.toNat).drop (0 : Int).toNat).set (IntKind.i64.wrap (a4 - 1)).toNat ((att Td8a9 ((p3.take a4.toNat).drop (0 : Int).toNat) (IntKind.i64.wrap (a4 - 1))).1, (((att Td8a9 ((p3.take a4.toNat).drop (0 : Int).toNat) (IntKind.i64.wrap (a4 - 1))).2).1, ((((att Td8a9 ((p3.take a4.toNat).drop (0 : Int).toNat) (IntKind.i64.wrap (a4 - 1))).2).2).1, (((((att Td8a9 ((p3.take a4.toNat).drop (0 : Int).toNat) (IntKind.i64.wrap (a4 - 1))).2).2).2).1, ((((((att Td8a9 ((p3.take a4.toNat).drop (0 : Int).toNat) (IntKind.i64.wrap (a4 - 1))).2).2).2).2).1, (7, ((((((att Td8a9 ((p3.take a4.toNat).drop (0 : Int).toNat) (IntKind.i64.wrap (a4 - 1))).2).2).2).2).2).2)))))))).bind fun y22 =>
                          if ((y22.1 == ((((((((att Td8a9 p3 (IntKind.i64.wrap (a4 - 1))).2).2).2).2).2).1) == (0 : Int))) && true) = true then
                            (f_audit_Follows.f k a1 a2 a3 (p3 ++ [(att Td8a9 p3 (IntKind.i64.wrap (a4 - 1)))])).bind fun y23 =>
                              some ((!y23.1), ())
                          else
                            some (false, ())
                      else
                        some (false, ())
                  else
                    some (false, ())
              else none
            else none
          else none
        else none
      else none
    else none
  else none
theorem j2_ok {r a1 a2 a3 a4} {k p3 p4} (H : j2 a1 a2 a3 a4 k p3 p4 = some r) : Gw P 0 (Q r) (Px c0 223 []) (s2 a1 a2 a3 a4 p3 p4) := by
  unfold j2 at H
  rcases of_ite H with ⟨hb10, H⟩ | ⟨hb10, H⟩
  · refine C1 hb10 ?_
    obtain ⟨y11, e12, H⟩ := of_bind H
    refine Rg V_ok 0 [(4, hr f_audit_Follows.S y11)] (ac (f_audit_Follows.rl e12) az) ?_
    exact Lf (Eq.trans (by kernel_rfl) H)
  · refine C0 hb10 ?_
    obtain ⟨n13, H⟩ := of_if H
    obtain ⟨n14, H⟩ := of_if H
    refine Rg V_ok 1 [(3, hb 2)] (ac n13 (ac n14 az)) ?_
    refine Rg V_ok 1 [(3, hb 3)] (ac n13 (ac n14 az)) ?_
    obtain ⟨n15, H⟩ := of_if H
    obtain ⟨n16, H⟩ := of_if H
    refine Rg V_ok 0 [] (ac n15 (ac n16 az)) ?_
    refine Rg V_ok 1 [(3, hb 4)] (ac n13 (ac n14 az)) ?_
    refine Rg V_ok 0 [] (ac n15 (ac n16 az)) ?_
    obtain ⟨n17, H⟩ := of_if H
    refine Rg V_ok 0 [] (ac n15 (ac n17 az)) ?_
    obtain ⟨n18, H⟩ := of_if H
    obtain ⟨n19, H⟩ := of_if H
    refine Rg V_ok 2 [(1, hb 5), (8, hb 6)] (ac n18 (ac n15 (ac n17 (ac n19 az)))) ?_
    obtain ⟨y20, e24, H⟩ := of_bind H
    rcases of_ite H with ⟨hb25, H⟩ | ⟨hb25, H⟩
    · obtain ⟨y21, e26, H⟩ := of_bind H
      rcases of_ite H with ⟨hb27, H⟩ | ⟨hb27, H⟩
      · obtain ⟨y22, e28, H⟩ := of_bind H
        rcases of_ite H with ⟨hb29, H⟩ | ⟨hb29, H⟩
        · obtain ⟨y23, e30, H⟩ := of_bind H
          refine Rg V_ok 0 [(4, {res := some ⟨f_audit_Follows.S.rs, y20⟩, bv := some true}), (10, hr f_audit_Follows.S y21), (11, {bv := some true}), (17, hr f_audit_Follows.S y22), (20, {bv := some true}), (26, hr f_audit_Follows.S y23)] (ac (f_audit_Follows.rl e24) (ac hb25 (ac (f_audit_Follows.rl e26) (ac hb27 (ac (f_audit_Follows.rl e28) (ac hb29 (ac (f_audit_Follows.rl e30) az))))))) ?_
          exact Lf (Eq.trans (by kernel_rfl) H)
        · refine Rg V_ok 0 [(4, {res := some ⟨f_audit_Follows.S.rs, y20⟩, bv := some true}), (10, hr f_audit_Follows.S y21), (11, {bv := some true}), (17, hr f_audit_Follows.S y22), (20, {bv := some false})] (ac (f_audit_Follows.rl e24) (ac hb25 (ac (f_audit_Follows.rl e26) (ac hb27 (ac (f_audit_Follows.rl e28) (ac hb29 az)))))) ?_
          exact Lf (Eq.trans (by kernel_rfl) H)
      · refine Rg V_ok 0 [(4, {res := some ⟨f_audit_Follows.S.rs, y20⟩, bv := some true}), (10, hr f_audit_Follows.S y21), (11, {bv := some false})] (ac (f_audit_Follows.rl e24) (ac hb25 (ac (f_audit_Follows.rl e26) (ac hb27 az)))) ?_
        exact Lf (Eq.trans (by kernel_rfl) H)
    · refine Rg V_ok 0 [(4, {res := some ⟨f_audit_Follows.S.rs, y20⟩, bv := some false})] (ac (f_audit_Follows.rl e24) (ac hb25 az)) ?_
      exact Lf (Eq.trans (by kernel_rfl) H)
noncomputable def j1 (a1 : T5477.T) (a2 : List (List T1383.T)) (a3 : T70a7.T) (a4 : Int) (k : Nat) (p3 p4 : Bool) : Option R :=
  if p4 = true then
  some (p3, ())
else
  (f_path_Walk.f k a1 a2 a3).bind fun y7 =>
    if (decide (a4 < (1 : Int))) = true then
      j2 a1 a2 a3 a4 k y7.1 true
    else
      j2 a1 a2 a3 a4 k y7.1 (decide (a4 > (y7.1.length : Int)))
theorem j1_ok {r a1 a2 a3 a4} {k p3 p4} (H : j1 a1 a2 a3 a4 k p3 p4 = some r) : Gw P 0 (Q r) (Px c0 55 []) (s1 a1 a2 a3 a4 p3 p4) := by
  unfold j1 at H
  rcases of_ite H with ⟨hb6, H⟩ | ⟨hb6, H⟩
  · refine C1 hb6 ?_
    refine Rg V_ok 0 [] az ?_
    exact Lf (Eq.trans (by kernel_rfl) H)
  · refine C0 hb6 ?_
    obtain ⟨y7, e8, H⟩ := of_bind H
    refine Rg V_ok 0 [(3, hr f_path_Walk.S y7)] (ac (f_path_Walk.rl e8) az) ?_
    rcases of_ite H with ⟨hb9, H⟩ | ⟨hb9, H⟩
    · refine Rg V_ok 0 [(1, {bv := some true})] (ac hb9 az) ?_
      exact Jm (tn [1, 3, 4, 6, 11, 44] 2) (j2_ok H)
    · refine Rg V_ok 0 [(1, {bv := some false})] (ac hb9 az) ?_
      exact Jm (tn [1, 3, 4, 6, 11, 44] 2) (j2_ok H)
noncomputable def f (k : Nat) (a1 : T5477.T) (a2 : List (List T1383.T)) (a3 : T70a7.T) (a4 : Int) : Option R :=
  (f_law23_awake.f k).bind fun y1 =>
    (f_law12_Few.f k a2).bind fun y3 =>
      if (!y1.1) = true then
        j1 a1 a2 a3 a4 k y1.1 true
      else
        if (!y3.1) = true then
          j1 a1 a2 a3 a4 k y1.1 true
        else
          j1 a1 a2 a3 a4 k y1.1 (decide ((a1.2.2.length : Int) > (60 : Int)))
noncomputable def S : Spec := ⟨ps, rs, .any, none, fun x r => ∃ k, f k x.1 x.2.1 x.2.2.1 x.2.2.2.1 = some r⟩
theorem rl {k a1 a2 a3 a4 r} (e : f k a1 a2 a3 a4 = some r) : S.rel (a1, a2, a3, a4, ()) r := ⟨k, e⟩
theorem f_ok {r k a1 a2 a3 a4} (H : f k a1 a2 a3 a4 = some r) : Gw P 0 (Q r) (Px c0 1 []) (⟨117, [(0, .cv (.agg (encC .any T5477 a1))), (1, .cv (.one (.sl (.slice T1383) a2 .any))), (2, .cv (.agg (encC .any T70a7 a3))), (3, .cv (.one (.i a4)))], []⟩) := by
  unfold f at H
  refine Rg V_ok 2 [(0, hb 0), (1, hb 1)] az ?_
  obtain ⟨y1, e2, H⟩ := of_bind H
  refine Rg V_ok 0 [(0, hr f_law23_awake.S y1)] (ac (f_law23_awake.rl e2) az) ?_
  obtain ⟨y3, e4, H⟩ := of_bind H
  refine Rg V_ok 0 [(1, hr f_law12_Few.S y3)] (ac (f_law12_Few.rl e4) az) ?_
  rcases of_ite H with ⟨hb5, H⟩ | ⟨hb5, H⟩
  · refine Rg V_ok 0 [(1, {bv := some true})] (ac hb5 az) ?_
    exact Jm (tn [1, 3, 4, 6, 9, 31] 2) (j1_ok H)
  · rcases of_ite H with ⟨hb31, H⟩ | ⟨hb31, H⟩
    · refine Rg V_ok 0 [(1, {bv := some false}), (5, {bv := some true})] (ac hb5 (ac hb31 az)) ?_
      exact Jm (tn [1, 3, 4, 6, 9, 31] 2) (j1_ok H)
    · refine Rg V_ok 0 [(1, {bv := some false}), (5, {bv := some false})] (ac hb5 (ac hb31 az)) ?_
      exact Jm (tn [1, 3, 4, 6, 9, 31] 2) (j1_ok H)
theorem fits : Fits P 4 S := fits_of V_ok Go.Proofs.Try.func4 (by kernel_rfl) (by decide) (by decide) rfl (fun x r ⟨k, H⟩ => of_G (f_ok H))
end f_law23_AuditWalks
/-! ### function 5, wayfinder/wayfinderlaw23.AuditParts -/
namespace f_law23_AuditParts
noncomputable def c0 : Code := (Go.Proofs.Try.f5.body).getD .skip
abbrev ps : Sg := [(false, (.slice Td8a9)), (false, (.int .i64))]
abbrev rs : Sg := [(false, .bool)]
noncomputable def V : Env := { tt := tt, Γ := slk [(8, f_law23_awake.S), (11, f_audit_Of.S)] }
theorem V_ok : EnvOk P V := { ck := tt_ck, fits := slk_cons f_law23_awake.fits (slk_cons f_audit_Of.fits (slk_nil)), mixed := mixed }
abbrev R := Tup rs
noncomputable abbrev Q (r : R) : Exit → St → Prop := Qr tt Go.Proofs.Try.f5.results ⟨ps, rs, .any, none, fun _ _ => True⟩ r
noncomputable def s1 (a1 : List Td8a9.T) (a2 : Int) (p3 p4 : Bool) : St := ⟨55, [(0, .cv (.one (.sl Td8a9 a1 .any))), (1, .cv (.one (.i a2))), (5, .cv (.one (.bool p3))), (16, .cv (.one (.bool p4)))], []⟩
noncomputable def s2 (a1 : List Td8a9.T) (a2 : Int) (p3 : List Td8a9.T) (p4 p5 : Int) : St := ⟨55, [(0, .cv (.one (.sl Td8a9 a1 .any))), (1, .cv (.one (.i a2))), (6, .cv (.one (.sl Td8a9 p3 .any))), (7, .cv (.one (.i p4))), (8, .cv (.one (.i p5)))], []⟩
noncomputable def s4 (a1 : List Td8a9.T) (a2 : Int) (p3 : List Td8a9.T) (p4 p5 : Int) : St := ⟨55, [(0, .cv (.one (.sl Td8a9 a1 .any))), (1, .cv (.one (.i a2))), (6, .cv (.one (.sl Td8a9 p3 .any))), (7, .cv (.one (.i p4))), (8, .cv (.one (.i p5)))], []⟩
noncomputable def j4 (a1 : List Td8a9.T) (a2 : Int) (L2 : List Td8a9.T → Int → Int → Option R) (k : Nat) (p3 : List Td8a9.T) (p4 p5 : Int) : Option R :=
  L2 p3 p4 (IntKind.i64.wrap (p5 + 1))
theorem j4_ok {r a1 a2} {L2 : List Td8a9.T → Int → Int → Option R} {m2 : Nat} (hL2 : ∀ p3 p4 p5, L2 p3 p4 p5 = some r → Gw P 0 (Q r) (Pb c0 351 [] m2) (s2 a1 a2 p3 p4 p5)) {k p3 p4 p5} (H : j4 a1 a2 L2 k p3 p4 p5 = some r) : Gw P 0 (Q r) (Px c0 3679 [m2]) (s4 a1 a2 p3 p4 p5) := by
  unfold j4 at H
  refine Rg V_ok 0 [] az ?_
  exact Jm (tn [0, 1, 6, 7, 8] 0) (hL2 p3 p4 (IntKind.i64.wrap (p5 + 1)) H)
noncomputable def s3 (a1 : List Td8a9.T) (a2 : Int) (p3 : List Td8a9.T) (p4 p5 : Int) (p6 : Bool) : St := ⟨55, [(0, .cv (.one (.sl Td8a9 a1 .any))), (1, .cv (.one (.i a2))), (6, .cv (.one (.sl Td8a9 p3 .any))), (7, .cv (.one (.i p4))), (8, .cv (.one (.i p5))), (48, .cv (.one (.bool p6)))], []⟩
noncomputable def j3 (a1 : List Td8a9.T) (a2 : Int) (L2 : List Td8a9.T → Int → Int → Option R) (k : Nat) (p3 : List Td8a9.T) (p4 p5 : Int) (p6 : Bool) : Option R :=
  if p6 = true then
  some (false, ())
else
  j4 a1 a2 L2 k p3 (IntKind.i64.wrap (p4 + 1)) p5
theorem j3_ok {r a1 a2} {L2 : List Td8a9.T → Int → Int → Option R} {m2 : Nat} (hL2 : ∀ p3 p4 p5, L2 p3 p4 p5 = some r → Gw P 0 (Q r) (Pb c0 351 [] m2) (s2 a1 a2 p3 p4 p5)) {k p3 p4 p5 p6} (H : j3 a1 a2 L2 k p3 p4 p5 p6 = some r) : Gw P 0 (Q r) (Px c0 53855 [m2]) (s3 a1 a2 p3 p4 p5 p6) := by
  unfold j3 at H
  rcases of_ite H with ⟨hb12, H⟩ | ⟨hb12, H⟩
  · refine C1 hb12 ?_
    refine Rg V_ok 0 [] az ?_
    exact Lf (Eq.trans (by kernel_rfl) H)
  · refine C0 hb12 ?_
    refine Rg V_ok 0 [] az ?_
    exact Jm (tn [0, 1, 6, 7, 8] 0) (j4_ok hL2 H)
noncomputable def b2 (a1 : List Td8a9.T) (a2 : Int) (L2 : List Td8a9.T → Int → Int → Option R) (k : Nat) (p3 : List Td8a9.T) (p4 p5 : Int) : Option R :=
  if (decide (p5 < (a1.length : Int))) = true then
  if 0 ≤ p5 then
    if p5 < (a1.length : Int) then
      if ((((att Td8a9 a1 p5).2).1) != a2) = true then
        j4 a1 a2 L2 k p3 p4 p5
      else
        if (decide (p4 ≥ (p3.length : Int))) = true then
          j3 a1 a2 L2 k p3 p4 p5 true
        else
          if 0 ≤ p4 then
            if p4 < (p3.length : Int) then
              j3 a1 a2 L2 k p3 p4 p5 (!((((att Td8a9 p3 p4).1) == ((att Td8a9 a1 p5).1)) && (((((att Td8a9 p3 p4).2).1) == (((att Td8a9 a1 p5).2).1)) && ((((((att Td8a9 p3 p4).2).2).1) == ((((att Td8a9 a1 p5).2).2).1)) && (((((((att Td8a9 p3 p4).2).2).2).1) == (((((att Td8a9 a1 p5).2).2).2).1)) && ((((((((att Td8a9 p3 p4).2).2).2).2).1) == ((((((att Td8a9 a1 p5).2).2).2).2).1)) && (((((((((att Td8a9 p3 p4).2).2).2).2).2).1) == (((((((att Td8a9 a1 p5).2).2).2).2).2).1)) && (((((((((att Td8a9 p3 p4).2).2).2).2).2).2) == (((((((att Td8a9 a1 p5).2).2).2).2).2).2)) && true))))))))
            else none
          else none
    else none
  else none
else
  some ((p4 == (p3.length : Int)), ())
theorem b2_ok {r a1 a2} {L2 : List Td8a9.T → Int → Int → Option R} {m2 : Nat} (hL2 : ∀ p3 p4 p5, L2 p3 p4 p5 = some r → Gw P 0 (Q r) (Pb c0 351 [] m2) (s2 a1 a2 p3 p4 p5)) {k p3 p4 p5} (H : b2 a1 a2 L2 k p3 p4 p5 = some r) : Gw P 0 (Q r) (Px c0 607 [m2]) (s2 a1 a2 p3 p4 p5) := by
  unfold b2 at H
  refine Rg V_ok 0 [] az ?_
  rcases of_ite H with ⟨hb7, H⟩ | ⟨hb7, H⟩
  · refine C1 hb7 ?_
    obtain ⟨n8, H⟩ := of_if H
    obtain ⟨n9, H⟩ := of_if H
    refine Rg V_ok 0 [] (ac n8 (ac n9 az)) ?_
    rcases of_ite H with ⟨hb10, H⟩ | ⟨hb10, H⟩
    · refine C1 hb10 ?_
      exact Jm (tn [0, 1, 6, 7, 8] 0) (j4_ok hL2 H)
    · refine C0 hb10 ?_
      rcases of_ite H with ⟨hb11, H⟩ | ⟨hb11, H⟩
      · refine Rg V_ok 0 [(3, {bv := some true})] (ac hb11 az) ?_
        exact Jm (tn [0, 1, 6, 7, 8, 48] 0) (j3_ok hL2 H)
      · obtain ⟨n13, H⟩ := of_if H
        obtain ⟨n14, H⟩ := of_if H
        refine Rg V_ok 0 [(3, {bv := some false})] (ac hb11 (ac n13 (ac n14 (ac n8 (ac n9 az))))) ?_
        exact Jm (tn [0, 1, 6, 7, 8, 48] 0) (j3_ok hL2 H)
  · refine C0 hb7 ?_
    refine Rg V_ok 0 [] az ?_
    exact Lf (Eq.trans (by kernel_rfl) H)
noncomputable def l2 (a1 : List Td8a9.T) (a2 : Int) (k : Nat) : Nat → List Td8a9.T → Int → Int → Option R
  | 0, _, _, _ => none
  | m + 1, p3, p4, p5 => b2 a1 a2 (l2 a1 a2 k m) k p3 p4 p5
theorem l2_ok {r a1 a2} (k : Nat) : ∀ (m2 : Nat) (p3 : List Td8a9.T) (p4 : Int) (p5 : Int), l2 a1 a2 k m2 p3 p4 p5 = some r → Gw P 0 (Q r) (Pb c0 351 [] m2) (s2 a1 a2 p3 p4 p5)
  | 0, _, _, _, H => by cases H
  | m2 + 1, p3, p4, p5, H => SU (by kernel_rfl) (b2_ok (l2_ok k m2) H)
noncomputable def j1 (a1 : List Td8a9.T) (a2 : Int) (k : Nat) (p3 p4 : Bool) : Option R :=
  if p4 = true then
  some (p3, ())
else
  (f_audit_Of.f k a1 a2).bind fun y5 =>
    l2 a1 a2 k k y5.1 0 0
theorem j1_ok {r a1 a2} {k p3 p4} (H : j1 a1 a2 k p3 p4 = some r) : Gw P 0 (Q r) (Px c0 27 []) (s1 a1 a2 p3 p4) := by
  unfold j1 at H
  rcases of_ite H with ⟨hb4, H⟩ | ⟨hb4, H⟩
  · refine C1 hb4 ?_
    refine Rg V_ok 0 [] az ?_
    exact Lf (Eq.trans (by kernel_rfl) H)
  · refine C0 hb4 ?_
    obtain ⟨y5, e6, H⟩ := of_bind H
    refine Rg V_ok 0 [(2, hr f_audit_Of.S y5)] (ac (f_audit_Of.rl e6) az) ?_
    refine Rg V_ok 0 [] az ?_
    refine Rg V_ok 0 [] az ?_
    exact LP k (Jm (tn [0, 1, 6, 7, 8] 0) (l2_ok k k y5.1 0 0 H))
noncomputable def f (k : Nat) (a1 : List Td8a9.T) (a2 : Int) : Option R :=
  (f_law23_awake.f k).bind fun y1 =>
    if (!y1.1) = true then
      j1 a1 a2 k y1.1 true
    else
      j1 a1 a2 k y1.1 (decide ((a1.length : Int) > (100 : Int)))
noncomputable def S : Spec := ⟨ps, rs, .any, none, fun x r => ∃ k, f k x.1 x.2.1 = some r⟩
theorem rl {k a1 a2 r} (e : f k a1 a2 = some r) : S.rel (a1, a2, ()) r := ⟨k, e⟩
theorem f_ok {r k a1 a2} (H : f k a1 a2 = some r) : Gw P 0 (Q r) (Px c0 1 []) (⟨55, [(0, .cv (.one (.sl Td8a9 a1 .any))), (1, .cv (.one (.i a2)))], []⟩) := by
  unfold f at H
  refine Rg V_ok 0 [] az ?_
  obtain ⟨y1, e2, H⟩ := of_bind H
  refine Rg V_ok 0 [(0, hr f_law23_awake.S y1)] (ac (f_law23_awake.rl e2) az) ?_
  rcases of_ite H with ⟨hb3, H⟩ | ⟨hb3, H⟩
  · refine Rg V_ok 0 [(1, {bv := some true})] (ac hb3 az) ?_
    exact Jm (tn [0, 1, 5, 16] 0) (j1_ok H)
  · refine Rg V_ok 0 [(1, {bv := some false})] (ac hb3 az) ?_
    exact Jm (tn [0, 1, 5, 16] 0) (j1_ok H)
theorem fits : Fits P 5 S := fits_of V_ok Go.Proofs.Try.func5 (by kernel_rfl) (by decide) (by decide) rfl (fun x r ⟨k, H⟩ => of_G (f_ok H))
end f_law23_AuditParts
/-! ### function 6, wayfinder/wayfinderlaw23.AuditBegins -/
namespace f_law23_AuditBegins
noncomputable def c0 : Code := (Go.Proofs.Try.f6.body).getD .skip
abbrev ps : Sg := [(true, T5477), (false, (.slice (.slice T1383))), (true, T70a7), (false, (.slice Td8a9)), (false, (.int .i64))]
abbrev rs : Sg := [(false, .bool)]
noncomputable def V : Env := { tt := tt, Γ := slk [(8, f_law23_awake.S), (9, f_law12_Few.S), (16, f_audit_Follows.S)] }
theorem V_ok : EnvOk P V := { ck := tt_ck, fits := slk_cons f_law23_awake.fits (slk_cons f_law12_Few.fits (slk_cons f_audit_Follows.fits (slk_nil))), mixed := mixed }
abbrev R := Tup rs
noncomputable abbrev Q (r : R) : Exit → St → Prop := Qr tt Go.Proofs.Try.f6.results ⟨ps, rs, .any, none, fun _ _ => True⟩ r
noncomputable def s1 (a1 : T5477.T) (a2 : List (List T1383.T)) (a3 : T70a7.T) (a4 : List Td8a9.T) (a5 : Int) (p4 p5 : Bool) : St := ⟨59, [(1, .cv (.one (.sl (.slice T1383) a2 .any))), (3, .cv (.one (.sl Td8a9 a4 .any))), (4, .cv (.one (.i a5))), (5, .cv (.one (.ptr 0 0))), (7, .cv (.one (.ptr 1 0))), (11, .cv (.one (.bool p4))), (42, .cv (.one (.bool p5)))], [(.box 3, (encC .any T5477 a1)), (.box 7, (encC .any T70a7 a3))]⟩
noncomputable def j1 (a1 : T5477.T) (a2 : List (List T1383.T)) (a3 : T70a7.T) (a4 : List Td8a9.T) (a5 : Int) (k : Nat) (p4 p5 : Bool) : Option R :=
  if p5 = true then
  some (p4, ())
else
  (f_audit_Follows.f k a1 a2 a3 a4).bind fun y7 =>
    if (!y7.1) = true then
      some (true, ())
    else
      if 0 ≤ (0 : Int) ∧ (0 : Int) ≤ a5 ∧ a5 ≤ (a4.length : Int) then
        (f_audit_Follows.f k a1 a2 a3 ((a4.take a5.toNat).drop (0 : Int).toNat)).bind fun y8 =>
          some (y8.1, ())
      else none
theorem j1_ok {r a1 a2 a3 a4 a5} {k p4 p5} (H : j1 a1 a2 a3 a4 a5 k p4 p5 = some r) : Gw P 0 (Q r) (Px c0 55 []) (s1 a1 a2 a3 a4 a5 p4 p5) := by
  unfold j1 at H
  rcases of_ite H with ⟨hb6, H⟩ | ⟨hb6, H⟩
  · refine C1 hb6 ?_
    refine Rg V_ok 0 [] az ?_
    exact Lf (Eq.trans (by kernel_rfl) H)
  · refine C0 hb6 ?_
    obtain ⟨y7, e9, H⟩ := of_bind H
    rcases of_ite H with ⟨hb10, H⟩ | ⟨hb10, H⟩
    · refine Rg V_ok 0 [(4, hr f_audit_Follows.S y7), (5, {bv := some true})] (ac (f_audit_Follows.rl e9) (ac hb10 az)) ?_
      exact Lf (Eq.trans (by kernel_rfl) H)
    · obtain ⟨n11, H⟩ := of_if H
      obtain ⟨y8, e12, H⟩ := of_bind H
      refine Rg V_ok 0 [(4, hr f_audit_Follows.S y7), (5, {bv := some false}), (13, hr f_audit_Follows.S y8)] (ac (f_audit_Follows.rl e9) (ac hb10 (ac n11 (ac (f_audit_Follows.rl e12) az)))) ?_
      exact Lf (Eq.trans (by kernel_rfl) H)
noncomputable def f (k : Nat) (a1 : T5477.T) (a2 : List (List T1383.T)) (a3 : T70a7.T) (a4 : List Td8a9.T) (a5 : Int) : Option R :=
  (f_law23_awake.f k).bind fun y1 =>
    (f_law12_Few.f k a2).bind fun y3 =>
      if (!y1.1) = true then
        j1 a1 a2 a3 a4 a5 k y1.1 true
      else
        if (!y3.1) = true then
          j1 a1 a2 a3 a4 a5 k y1.1 true
        else
          if (decide ((a1.2.2.length : Int) > (60 : Int))) = true then
            j1 a1 a2 a3 a4 a5 k y1.1 true
          else
            if (decide ((a4.length : Int) > (30 : Int))) = true then
              j1 a1 a2 a3 a4 a5 k y1.1 true
            else
              if (decide (a5 < (0 : Int))) = true then
                j1 a1 a2 a3 a4 a5 k y1.1 true
              else
                j1 a1 a2 a3 a4 a5 k y1.1 (decide (a5 > (a4.length : Int)))
noncomputable def S : Spec := ⟨ps, rs, .any, none, fun x r => ∃ k, f k x.1 x.2.1 x.2.2.1 x.2.2.2.1 x.2.2.2.2.1 = some r⟩
theorem rl {k a1 a2 a3 a4 a5 r} (e : f k a1 a2 a3 a4 a5 = some r) : S.rel (a1, a2, a3, a4, a5, ()) r := ⟨k, e⟩
theorem f_ok {r k a1 a2 a3 a4 a5} (H : f k a1 a2 a3 a4 a5 = some r) : Gw P 0 (Q r) (Px c0 1 []) (⟨59, [(0, .cv (.agg (encC .any T5477 a1))), (1, .cv (.one (.sl (.slice T1383) a2 .any))), (2, .cv (.agg (encC .any T70a7 a3))), (3, .cv (.one (.sl Td8a9 a4 .any))), (4, .cv (.one (.i a5)))], []⟩) := by
  unfold f at H
  refine Rg V_ok 2 [(0, hb 0), (1, hb 1)] az ?_
  obtain ⟨y1, e2, H⟩ := of_bind H
  refine Rg V_ok 0 [(0, hr f_law23_awake.S y1)] (ac (f_law23_awake.rl e2) az) ?_
  obtain ⟨y3, e4, H⟩ := of_bind H
  refine Rg V_ok 0 [(1, hr f_law12_Few.S y3)] (ac (f_law12_Few.rl e4) az) ?_
  rcases of_ite H with ⟨hb5, H⟩ | ⟨hb5, H⟩
  · refine Rg V_ok 0 [(1, {bv := some true})] (ac hb5 az) ?_
    exact Jm (tn [1, 3, 4, 5, 7, 11, 42] 2) (j1_ok H)
  · rcases of_ite H with ⟨hb13, H⟩ | ⟨hb13, H⟩
    · refine Rg V_ok 0 [(1, {bv := some false}), (5, {bv := some true})] (ac hb5 (ac hb13 az)) ?_
      exact Jm (tn [1, 3, 4, 5, 7, 11, 42] 2) (j1_ok H)
    · rcases of_ite H with ⟨hb14, H⟩ | ⟨hb14, H⟩
      · refine Rg V_ok 0 [(1, {bv := some false}), (5, {bv := some false}), (11, {bv := some true})] (ac hb5 (ac hb13 (ac hb14 az))) ?_
        exact Jm (tn [1, 3, 4, 5, 7, 11, 42] 2) (j1_ok H)
      · rcases of_ite H with ⟨hb15, H⟩ | ⟨hb15, H⟩
        · refine Rg V_ok 0 [(1, {bv := some false}), (5, {bv := some false}), (11, {bv := some false}), (16, {bv := some true})] (ac hb5 (ac hb13 (ac hb14 (ac hb15 az)))) ?_
          exact Jm (tn [1, 3, 4, 5, 7, 11, 42] 2) (j1_ok H)
        · rcases of_ite H with ⟨hb16, H⟩ | ⟨hb16, H⟩
          · refine Rg V_ok 0 [(1, {bv := some false}), (5, {bv := some false}), (11, {bv := some false}), (16, {bv := some false}), (20, {bv := some true})] (ac hb5 (ac hb13 (ac hb14 (ac hb15 (ac hb16 az))))) ?_
            exact Jm (tn [1, 3, 4, 5, 7, 11, 42] 2) (j1_ok H)
          · refine Rg V_ok 0 [(1, {bv := some false}), (5, {bv := some false}), (11, {bv := some false}), (16, {bv := some false}), (20, {bv := some false})] (ac hb5 (ac hb13 (ac hb14 (ac hb15 (ac hb16 az))))) ?_
            exact Jm (tn [1, 3, 4, 5, 7, 11, 42] 2) (j1_ok H)
theorem fits : Fits P 6 S := fits_of V_ok Go.Proofs.Try.func6 (by kernel_rfl) (by decide) (by decide) rfl (fun x r ⟨k, H⟩ => of_G (f_ok H))
end f_law23_AuditBegins
/-! ### function 7, wayfinder/wayfinderlaw23.AuditTags -/
namespace f_law23_AuditTags
noncomputable def c0 : Code := (Go.Proofs.Try.f7.body).getD .skip
abbrev ps : Sg := [(true, T5477), (false, (.slice (.slice T1383))), (true, T70a7), (false, (.int .i64))]
abbrev rs : Sg := [(false, .bool)]
noncomputable def V : Env := { tt := tt, Γ := slk [(8, f_law23_awake.S), (9, f_law12_Few.S), (14, f_audit_Tag.S), (17, f_path_Walk.S)] }
theorem V_ok : EnvOk P V := { ck := tt_ck, fits := slk_cons f_law23_awake.fits (slk_cons f_law12_Few.fits (slk_cons f_audit_Tag.fits (slk_cons f_path_Walk.fits (slk_nil)))), mixed := mixed }
abbrev R := Tup rs
noncomputable abbrev Q (r : R) : Exit → St → Prop := Qr tt Go.Proofs.Try.f7.results ⟨ps, rs, .any, none, fun _ _ => True⟩ r
noncomputable def s1 (a1 : T5477.T) (a2 : List (List T1383.T)) (a3 : T70a7.T) (a4 : Int) (p3 p4 : Bool) : St := ⟨55, [(1, .cv (.one (.sl (.slice T1383) a2 .any))), (3, .cv (.one (.i a4))), (4, .cv (.one (.ptr 0 0))), (6, .cv (.one (.ptr 1 0))), (9, .cv (.one (.bool p3))), (27, .cv (.one (.bool p4)))], [(.box 3, (encC .any T5477 a1)), (.box 7, (encC .any T70a7 a3))]⟩
noncomputable def j1 (a1 : T5477.T) (a2 : List (List T1383.T)) (a3 : T70a7.T) (a4 : Int) (k : Nat) (p3 p4 : Bool) : Option R :=
  if p4 = true then
  some (p3, ())
else
  (f_path_Walk.f k a1 a2 a3).bind fun y7 =>
    if y7.1.length * 56 ≤ 140737488355328 then
      if (y7.1.length + 1) * 56 ≤ 140737488355328 then
        (f_audit_Tag.f k y7.1).bind fun y11 =>
          if (y11.1 != a3.1.2.2.2.2) = true then
            some (false, ())
          else
            if (a4 == a3.1.2.2.2.2) = true then
              some (true, ())
            else
              (f_audit_Tag.f k (y7.1 ++ [(0, (0, (0, (0, (a4, (0, 0))))))])).bind fun y14 =>
                some ((y14.1 == (-1 : Int)), ())
      else none
    else none
theorem j1_ok {r a1 a2 a3 a4} {k p3 p4} (H : j1 a1 a2 a3 a4 k p3 p4 = some r) : Gw P 0 (Q r) (Px c0 55 []) (s1 a1 a2 a3 a4 p3 p4) := by
  unfold j1 at H
  rcases of_ite H with ⟨hb6, H⟩ | ⟨hb6, H⟩
  · refine C1 hb6 ?_
    refine Rg V_ok 0 [] az ?_
    exact Lf (Eq.trans (by kernel_rfl) H)
  · refine C0 hb6 ?_
    obtain ⟨y7, e8, H⟩ := of_bind H
    refine Rg V_ok 0 [(3, hr f_path_Walk.S y7)] (ac (f_path_Walk.rl e8) az) ?_
    obtain ⟨n9, H⟩ := of_if H
    obtain ⟨n10, H⟩ := of_if H
    refine Rg V_ok 2 [(1, hb 2), (5, hb 3)] (ac n9 (ac n10 az)) ?_
    obtain ⟨y11, e12, H⟩ := of_bind H
    refine Rg V_ok 0 [(1, hr f_audit_Tag.S y11)] (ac (f_audit_Tag.rl e12) az) ?_
    rcases of_ite H with ⟨hb13, H⟩ | ⟨hb13, H⟩
    · refine C1 hb13 ?_
      refine Rg V_ok 0 [] az ?_
      exact Lf (Eq.trans (by kernel_rfl) H)
    · refine C0 hb13 ?_
      rcases of_ite H with ⟨hb15, H⟩ | ⟨hb15, H⟩
      · refine Rg V_ok 0 [(4, {bv := some true})] (ac hb15 az) ?_
        exact Lf (Eq.trans (by kernel_rfl) H)
      · obtain ⟨y14, e16, H⟩ := of_bind H
        refine Rg V_ok 0 [(4, {bv := some false}), (7, hr f_audit_Tag.S y14)] (ac hb15 (ac (f_audit_Tag.rl e16) az)) ?_
        exact Lf (Eq.trans (by kernel_rfl) H)
noncomputable def f (k : Nat) (a1 : T5477.T) (a2 : List (List T1383.T)) (a3 : T70a7.T) (a4 : Int) : Option R :=
  (f_law23_awake.f k).bind fun y1 =>
    (f_law12_Few.f k a2).bind fun y3 =>
      if (!y1.1) = true then
        j1 a1 a2 a3 a4 k y1.1 true
      else
        if (!y3.1) = true then
          j1 a1 a2 a3 a4 k y1.1 true
        else
          j1 a1 a2 a3 a4 k y1.1 (decide ((a1.2.2.length : Int) > (60 : Int)))
noncomputable def S : Spec := ⟨ps, rs, .any, none, fun x r => ∃ k, f k x.1 x.2.1 x.2.2.1 x.2.2.2.1 = some r⟩
theorem rl {k a1 a2 a3 a4 r} (e : f k a1 a2 a3 a4 = some r) : S.rel (a1, a2, a3, a4, ()) r := ⟨k, e⟩
theorem f_ok {r k a1 a2 a3 a4} (H : f k a1 a2 a3 a4 = some r) : Gw P 0 (Q r) (Px c0 1 []) (⟨55, [(0, .cv (.agg (encC .any T5477 a1))), (1, .cv (.one (.sl (.slice T1383) a2 .any))), (2, .cv (.agg (encC .any T70a7 a3))), (3, .cv (.one (.i a4)))], []⟩) := by
  unfold f at H
  refine Rg V_ok 2 [(0, hb 0), (1, hb 1)] az ?_
  obtain ⟨y1, e2, H⟩ := of_bind H
  refine Rg V_ok 0 [(0, hr f_law23_awake.S y1)] (ac (f_law23_awake.rl e2) az) ?_
  obtain ⟨y3, e4, H⟩ := of_bind H
  refine Rg V_ok 0 [(1, hr f_law12_Few.S y3)] (ac (f_law12_Few.rl e4) az) ?_
  rcases of_ite H with ⟨hb5, H⟩ | ⟨hb5, H⟩
  · refine Rg V_ok 0 [(1, {bv := some true})] (ac hb5 az) ?_
    exact Jm (tn [1, 3, 4, 6, 9, 27] 2) (j1_ok H)
  · rcases of_ite H with ⟨hb17, H⟩ | ⟨hb17, H⟩
    · refine Rg V_ok 0 [(1, {bv := some false}), (5, {bv := some true})] (ac hb5 (ac hb17 az)) ?_
      exact Jm (tn [1, 3, 4, 6, 9, 27] 2) (j1_ok H)
    · refine Rg V_ok 0 [(1, {bv := some false}), (5, {bv := some false})] (ac hb5 (ac hb17 az)) ?_
      exact Jm (tn [1, 3, 4, 6, 9, 27] 2) (j1_ok H)
theorem fits : Fits P 7 S := fits_of V_ok Go.Proofs.Try.func7 (by kernel_rfl) (by decide) (by decide) rfl (fun x r ⟨k, H⟩ => of_G (f_ok H))
end f_law23_AuditTags
/-! ### function 25, wayfinder/audit.Tag$1 -/
namespace f_audit_Tag_1
noncomputable def c0 : Code := (Go.Proofs.Try.f25.body).getD .skip
abbrev ps : Sg := [(true, Td8a9)]
abbrev rs : Sg := [(false, .bool)]
noncomputable def V : Env := { tt := tt, Γ := slk [] }
theorem V_ok : EnvOk P V := { ck := tt_ck, fits := slk_nil, mixed := mixed }
abbrev R := Tup rs
noncomputable abbrev Q (r : R) : Exit → St → Prop := Qr tt Go.Proofs.Try.f25.results ⟨ps, rs, .any, none, fun _ _ => True⟩ r
noncomputable def f (k : Nat) (a1 : Td8a9.T) : Option R :=
  some ((a1.2.2.2.2.2.1 != (6 : Int)), ())
noncomputable def S : Spec := ⟨ps, rs, .any, none, fun x r => ∃ k, f k x.1 = some r⟩
theorem rl {k a1 r} (e : f k a1 = some r) : S.rel (a1, ()) r := ⟨k, e⟩
theorem f_ok {r k a1} (H : f k a1 = some r) : Gw P 0 (Q r) (Px c0 1 []) (⟨6, [(0, .cv (.agg (encC .any Td8a9 a1)))], []⟩) := by
  unfold f at H
  refine Rg V_ok 1 [(0, hb 0)] az ?_
  refine Rg V_ok 0 [] az ?_
  exact Lf (Eq.trans (by kernel_rfl) H)
theorem fits : Fits P 25 S := fits_of V_ok Go.Proofs.Try.func25 (by kernel_rfl) (by decide) (by decide) rfl (fun x r ⟨k, H⟩ => of_G (f_ok H))
end f_audit_Tag_1
/-! ### function 32, wayfinder/audit.Clean$2 -/
namespace f_audit_Clean_2
noncomputable def c0 : Code := (Go.Proofs.Try.f32.body).getD .skip
abbrev ps : Sg := [(true, T814c)]
abbrev rs : Sg := [(false, .bool)]
noncomputable def V : Env := { tt := tt, Γ := slk [] }
theorem V_ok : EnvOk P V := { ck := tt_ck, fits := slk_nil, mixed := mixed }
abbrev R := Tup rs
noncomputable abbrev Q (r : R) : Exit → St → Prop := Qr tt Go.Proofs.Try.f32.results ⟨ps, rs, .any, none, fun _ _ => True⟩ r
noncomputable def f (k : Nat) (a1 : T814c.T) : Option R :=
  some (((a1.2.length : Int) == (0 : Int)), ())
noncomputable def S : Spec := ⟨ps, rs, .any, none, fun x r => ∃ k, f k x.1 = some r⟩
theorem rl {k a1 r} (e : f k a1 = some r) : S.rel (a1, ()) r := ⟨k, e⟩
theorem f_ok {r k a1} (H : f k a1 = some r) : Gw P 0 (Q r) (Px c0 1 []) (⟨7, [(0, .cv (.agg [.i a1.1, .sl T1383 a1.2 .any]))], []⟩) := by
  unfold f at H
  refine Rg V_ok 1 [(0, hb 0)] az ?_
  refine Rg V_ok 0 [] az ?_
  exact Lf (Eq.trans (by kernel_rfl) H)
theorem fits : Fits P 32 S := fits_of V_ok Go.Proofs.Try.func32 (by kernel_rfl) (by decide) (by decide) rfl (fun x r ⟨k, H⟩ => of_G (f_ok H))
end f_audit_Clean_2
/-! ### function 64, (*wayfinder/control.controller).live$1 -/
namespace f_control_controller_live_1
noncomputable def c0 : Code := (Go.Proofs.Try.f64.body).getD .skip
abbrev ps : Sg := [(true, T814c), (true, T814c)]
abbrev rs : Sg := [(false, (.int .i64))]
noncomputable def V : Env := { tt := tt, Γ := slk [] }
theorem V_ok : EnvOk P V := { ck := tt_ck, fits := slk_nil, mixed := mixed }
abbrev R := Tup rs
noncomputable abbrev Q (r : R) : Exit → St → Prop := Qr tt Go.Proofs.Try.f64.results ⟨ps, rs, .any, none, fun _ _ => True⟩ r
noncomputable def f (k : Nat) (a1 a2 : T814c.T) : Option R :=
  if (decide (a1.1 < a2.1)) = true then
    some ((-1 : Int), ())
  else
    if (decide (a1.1 > a2.1)) = true then
      some ((1 : Int), ())
    else
      some ((0 : Int), ())
noncomputable def S : Spec := ⟨ps, rs, .any, none, fun x r => ∃ k, f k x.1 x.2.1 = some r⟩
theorem rl {k a1 a2 r} (e : f k a1 a2 = some r) : S.rel (a1, a2, ()) r := ⟨k, e⟩
theorem f_ok {r k a1 a2} (H : f k a1 a2 = some r) : Gw P 0 (Q r) (Px c0 1 []) (⟨17, [(0, .cv (.agg [.i a1.1, .sl T1383 a1.2 .any])), (1, .cv (.agg [.i a2.1, .sl T1383 a2.2 .any]))], []⟩) := by
  unfold f at H
  refine Rg V_ok 2 [(0, hb 0), (1, hb 1)] az ?_
  refine Rg V_ok 0 [] az ?_
  rcases of_ite H with ⟨hb1, H⟩ | ⟨hb1, H⟩
  · refine C1 hb1 ?_
    refine Rg V_ok 0 [] az ?_
    exact Lf (Eq.trans (by kernel_rfl) H)
  · refine C0 hb1 ?_
    refine Rg V_ok 0 [] az ?_
    rcases of_ite H with ⟨hb2, H⟩ | ⟨hb2, H⟩
    · refine C1 hb2 ?_
      refine Rg V_ok 0 [] az ?_
      exact Lf (Eq.trans (by kernel_rfl) H)
    · refine C0 hb2 ?_
      refine Rg V_ok 0 [] az ?_
      exact Lf (Eq.trans (by kernel_rfl) H)
theorem fits : Fits P 64 S := fits_of V_ok Go.Proofs.Try.func64 (by kernel_rfl) (by decide) (by decide) rfl (fun x r ⟨k, H⟩ => of_G (f_ok H))
end f_control_controller_live_1
/-! ### function 86, (wayfinder/pick.ranked).compare -/
namespace f_pick_ranked_compare
noncomputable def c0 : Code := (Go.Proofs.Try.f86.body).getD .skip
abbrev ps : Sg := [(true, T1383), (true, T1383)]
abbrev rs : Sg := [(false, (.int .i64))]
noncomputable def V : Env := { tt := tt, Γ := slk [(74, f_rule_Ahead.S)] }
theorem V_ok : EnvOk P V := { ck := tt_ck, fits := slk_cons f_rule_Ahead.fits (slk_nil), mixed := mixed }
abbrev R := Tup rs
noncomputable abbrev Q (r : R) : Exit → St → Prop := Qr tt Go.Proofs.Try.f86.results ⟨ps, rs, .any, none, fun _ _ => True⟩ r
noncomputable def f (k : Nat) (a1 a2 : T1383.T) : Option R :=
  (f_rule_Ahead.f k a1 a2).bind fun y1 =>
    if y1.1 = true then
      some ((-1 : Int), ())
    else
      (f_rule_Ahead.f k a2 a1).bind fun y4 =>
        if y4.1 = true then
          some ((1 : Int), ())
        else
          some ((0 : Int), ())
noncomputable def S : Spec := ⟨ps, rs, .any, none, fun x r => ∃ k, f k x.1 x.2.1 = some r⟩
theorem rl {k a1 a2 r} (e : f k a1 a2 = some r) : S.rel (a1, a2, ()) r := ⟨k, e⟩
theorem f_ok {r k a1 a2} (H : f k a1 a2 = some r) : Gw P 0 (Q r) (Px c0 1 []) (⟨13, [(0, .cv (.agg (encC .any T1383 a1))), (1, .cv (.agg (encC .any T1383 a2)))], []⟩) := by
  unfold f at H
  refine Rg V_ok 2 [(0, hb 0), (1, hb 1)] az ?_
  obtain ⟨y1, e2, H⟩ := of_bind H
  refine Rg V_ok 0 [(2, hr f_rule_Ahead.S y1)] (ac (f_rule_Ahead.rl e2) az) ?_
  rcases of_ite H with ⟨hb3, H⟩ | ⟨hb3, H⟩
  · refine C1 hb3 ?_
    refine Rg V_ok 0 [] az ?_
    exact Lf (Eq.trans (by kernel_rfl) H)
  · refine C0 hb3 ?_
    obtain ⟨y4, e5, H⟩ := of_bind H
    refine Rg V_ok 0 [(2, hr f_rule_Ahead.S y4)] (ac (f_rule_Ahead.rl e5) az) ?_
    rcases of_ite H with ⟨hb6, H⟩ | ⟨hb6, H⟩
    · refine C1 hb6 ?_
      refine Rg V_ok 0 [] az ?_
      exact Lf (Eq.trans (by kernel_rfl) H)
    · refine C0 hb6 ?_
      refine Rg V_ok 0 [] az ?_
      exact Lf (Eq.trans (by kernel_rfl) H)
theorem fits : Fits P 86 S := fits_of V_ok Go.Proofs.Try.func86 (by kernel_rfl) (by decide) (by decide) rfl (fun x r ⟨k, H⟩ => of_G (f_ok H))
end f_pick_ranked_compare
/-! ### function 98, cmp.isNaN[int] -/
namespace f_cmp_isNaN_int
noncomputable def c0 : Code := (Go.Proofs.Try.f98.body).getD .skip
abbrev ps : Sg := [(false, (.int .i64))]
abbrev rs : Sg := [(false, .bool)]
noncomputable def V : Env := { tt := tt, Γ := slk [] }
theorem V_ok : EnvOk P V := { ck := tt_ck, fits := slk_nil, mixed := mixed }
abbrev R := Tup rs
noncomputable abbrev Q (r : R) : Exit → St → Prop := Qr tt Go.Proofs.Try.f98.results ⟨ps, rs, .any, none, fun _ _ => True⟩ r
noncomputable def f (k : Nat) (a1 : Int) : Option R :=
  some ((a1 != a1), ())
noncomputable def S : Spec := ⟨ps, rs, .any, none, fun x r => ∃ k, f k x.1 = some r⟩
theorem rl {k a1 r} (e : f k a1 = some r) : S.rel (a1, ()) r := ⟨k, e⟩
theorem f_ok {r k a1} (H : f k a1 = some r) : Gw P 0 (Q r) (Px c0 1 []) (⟨6, [(0, .cv (.one (.i a1)))], []⟩) := by
  unfold f at H
  refine Rg V_ok 0 [] az ?_
  refine Rg V_ok 0 [] az ?_
  exact Lf (Eq.trans (by kernel_rfl) H)
theorem fits : Fits P 98 S := fits_of V_ok Go.Proofs.Try.func98 (by kernel_rfl) (by decide) (by decide) rfl (fun x r ⟨k, H⟩ => of_G (f_ok H))
end f_cmp_isNaN_int
end Go.Proofs.Ytajddhechcneoaa.V
