/- Functions of the program, as Lean functions, and that the code answers so. Printed by vgen.py. -/
import Derived.Test.YtkhjemahenkdiaaDoorVF0
namespace Go.Proofs.YtkhjemahenkdiaaDoor.V
open Go Go.RowKit
set_option linter.unusedVariables false
set_option linter.unusedSimpArgs false
set_option maxRecDepth 100000
set_option maxHeartbeats 4000000
/-! ### function 60, slices.Clone[[]wayfinder/api.Conf,wayfinder/api.Conf], where it is called -/
namespace i_slices_Clone_Conf_522
noncomputable def c0 : Code := (Go.Proofs.Tryd.f60.body).getD .skip
noncomputable def V : Env := { tt := tt, Γ := slk [] }
theorem V_ok : EnvOk P V := { ck := tt_ck, fits := slk_nil, mixed := mixed }
abbrev R := (List (List (List T1383.T))) × Unit
noncomputable def s0 (x1 : List (List (List T1383.T))) (x2 : T26b3.T) (x3 : Int) (x4 : Int) (x5 : Int) (x6 : Int) (x7 : Int) (x8 : Int) (x9 : Int) (x10 : T26b3.T) : St := ⟨8, [(0, .cv (.one (.sl (.slice (.slice T1383)) x1 .any)))], [(.box 13, (encC .any T26b3 x2)), (.box 13, [.nils, .int .i64 x3, .int .i64 x4, .int .i64 x5, .int .i64 x6, .int .i64 x7, .int .i64 x8, .nils, .nils, .nils, .nils, .nils, .int .i64 x9]), (.box 13, (encC .any T26b3 x10))]⟩
noncomputable def out (x2 : T26b3.T) (x3 : Int) (x4 : Int) (x5 : Int) (x6 : Int) (x7 : Int) (x8 : Int) (x9 : Int) (x10 : T26b3.T) (r : R) : St := ⟨8, [(2, .cv (.one (.own 3)))], [(.box 13, (encC .any T26b3 x2)), (.box 13, [.nils, .int .i64 x3, .int .i64 x4, .int .i64 x5, .int .i64 x6, .int .i64 x7, .int .i64 x8, .nils, .nils, .nils, .nils, .nils, .int .i64 x9]), (.box 13, (encC .any T26b3 x10)), (.buf 64 (.slice (.slice T1383)) r.1, [])]⟩
abbrev Q (x2 : T26b3.T) (x3 : Int) (x4 : Int) (x5 : Int) (x6 : Int) (x7 : Int) (x8 : Int) (x9 : Int) (x10 : T26b3.T) (r : R) := CallQ 3 (out x2 x3 x4 x5 x6 x7 x8 x9 x10 r)
noncomputable def f (k : Nat) (x1 : List (List (List T1383.T))) (x2 : T26b3.T) (x3 : Int) (x4 : Int) (x5 : Int) (x6 : Int) (x7 : Int) (x8 : Int) (x9 : Int) (x10 : T26b3.T) : Option R :=
  if (0 + x1.length) * 24 ≤ 140737488355328 then
    if 0 = 0 ∨ 0 < x1.length then
      some (([] ++ x1), ())
    else none
  else none
theorem f_ok {r k x1 x2 x3 x4 x5 x6 x7 x8 x9 x10} (H : f k x1 x2 x3 x4 x5 x6 x7 x8 x9 x10 = some r) : Gw P 3 (Q x2 x3 x4 x5 x6 x7 x8 x9 x10 r) (Px c0 1 []) (s0 x1 x2 x3 x4 x5 x6 x7 x8 x9 x10) := by
  unfold f at H
  refine Rg V_ok 0 [] az (by kernel_rfl) ?_
  refine NL (t := 0) (e := (.slice (.slice T1383))) (xs := x1) (by kernel_rfl) (by kernel_rfl) (fun hx1 => ?_) ?_
  · subst hx1
    replace H := Eq.trans (by kernel_rfl : (some ([], ()) : Option R) = _) H
    refine Rg V_ok 0 [] az (by kernel_rfl) ?_
    refine C1 rfl (by kernel_rfl) ?_
    refine Rg V_ok 0 [] az (by kernel_rfl) ?_
    obtain rfl := Option.some.inj H
    exact Lq {fz := [], gr := 1, ad := [.ownT 2 3 64 (.slice (.slice T1383))], live := [2], src := [some 0, some 1, some 2, some 3]} (by kernel_rfl)
  · refine Rg V_ok 0 [] az (by kernel_rfl) ?_
    refine C0 rfl (by kernel_rfl) ?_
    obtain ⟨n2, H⟩ := of_if H
    obtain ⟨n3, H⟩ := of_if H
    refine Rg V_ok 1 [(2, hb 3)] (ac n2 (ac n3 az)) (by kernel_rfl) ?_
    obtain rfl := Option.some.inj H
    exact Lq {fz := [], gr := 0, ad := [], live := [2], src := [some 0, some 1, some 2, some 3]} (by kernel_rfl)
theorem ok {r k x1 x2 x3 x4 x5 x6 x7 x8 x9 x10} (H : f k x1 x2 x3 x4 x5 x6 x7 x8 x9 x10 = some r) : W P 3 c0 (s0 x1 x2 x3 x4 x5 x6 x7 x8 x9 x10) (CallQ 3 (out x2 x3 x4 x5 x6 x7 x8 x9 x10 r)) := of_G (f_ok H)
theorem at_ : FnAt P 60 8 c0 Go.Proofs.Tryd.f60.results := fnAt Go.Proofs.Tryd.func60 (by kernel_rfl) (by decide) (by kernel_rfl) (by kernel_rfl)
end i_slices_Clone_Conf_522
/-! ### function 61, slices.Clone[wayfinder/api.Conf,[]wayfinder/api.Rule], where it is called -/
namespace i_slices_Clone_Conf_Rule_c93
noncomputable def c0 : Code := (Go.Proofs.Tryd.f61.body).getD .skip
noncomputable def V : Env := { tt := tt, Γ := slk [] }
theorem V_ok : EnvOk P V := { ck := tt_ck, fits := slk_nil, mixed := mixed }
abbrev R := (List (List T1383.T)) × Unit
noncomputable def s0 (x1 : List (List T1383.T)) (x2 : T26b3.T) (x3 : Int) (x4 : Int) (x5 : Int) (x6 : Int) (x7 : Int) (x8 : Int) (x9 : Int) (x10 : Int) (x11 : Int) (x12 : Int) (x13 : Int) (x14 : Int) (x15 : Int) (x16 : List Int) (x17 : List T23b6.T) (x18 : List T713d.T) (x19 : List Int) (x20 : List Int) (x21 : Int) (x22 : List (List (List T1383.T))) : St := ⟨8, [(0, .cv (.one (.sl (.slice T1383) x1 .any)))], [(.box 13, (encC .any T26b3 x2)), (.box 13, [.nils, .int .i64 x3, .int .i64 x4, .int .i64 x5, .int .i64 x6, .int .i64 x7, .int .i64 x8, .nils, .nils, .nils, .nils, .nils, .int .i64 x9]), (.box 13, [.own 3, .int .i64 x10, .int .i64 x11, .int .i64 x12, .int .i64 x13, .int .i64 x14, .int .i64 x15, .sl (.int .i64) x16 .any, .sl T23b6 x17 .any, .sl T713d x18 .any, .sl (.int .i64) x19 .any, .sl (.int .i64) x20 .any, .int .i64 x21]), (.buf 64 (.slice (.slice T1383)) x22, [])]⟩
noncomputable def out (x2 : T26b3.T) (x3 : Int) (x4 : Int) (x5 : Int) (x6 : Int) (x7 : Int) (x8 : Int) (x9 : Int) (x10 : Int) (x11 : Int) (x12 : Int) (x13 : Int) (x14 : Int) (x15 : Int) (x16 : List Int) (x17 : List T23b6.T) (x18 : List T713d.T) (x19 : List Int) (x20 : List Int) (x21 : Int) (x22 : List (List (List T1383.T))) (r : R) : St := ⟨8, [(2, .cv (.one (.own 4)))], [(.box 13, (encC .any T26b3 x2)), (.box 13, [.nils, .int .i64 x3, .int .i64 x4, .int .i64 x5, .int .i64 x6, .int .i64 x7, .int .i64 x8, .nils, .nils, .nils, .nils, .nils, .int .i64 x9]), (.box 13, [.own 3, .int .i64 x10, .int .i64 x11, .int .i64 x12, .int .i64 x13, .int .i64 x14, .int .i64 x15, .sl (.int .i64) x16 .any, .sl T23b6 x17 .any, .sl T713d x18 .any, .sl (.int .i64) x19 .any, .sl (.int .i64) x20 .any, .int .i64 x21]), (.buf 64 (.slice (.slice T1383)) x22, []), (.buf 52 (.slice T1383) r.1, [])]⟩
abbrev Q (x2 : T26b3.T) (x3 : Int) (x4 : Int) (x5 : Int) (x6 : Int) (x7 : Int) (x8 : Int) (x9 : Int) (x10 : Int) (x11 : Int) (x12 : Int) (x13 : Int) (x14 : Int) (x15 : Int) (x16 : List Int) (x17 : List T23b6.T) (x18 : List T713d.T) (x19 : List Int) (x20 : List Int) (x21 : Int) (x22 : List (List (List T1383.T))) (r : R) := CallQ 4 (out x2 x3 x4 x5 x6 x7 x8 x9 x10 x11 x12 x13 x14 x15 x16 x17 x18 x19 x20 x21 x22 r)
noncomputable def f (k : Nat) (x1 : List (List T1383.T)) (x2 : T26b3.T) (x3 : Int) (x4 : Int) (x5 : Int) (x6 : Int) (x7 : Int) (x8 : Int) (x9 : Int) (x10 : Int) (x11 : Int) (x12 : Int) (x13 : Int) (x14 : Int) (x15 : Int) (x16 : List Int) (x17 : List T23b6.T) (x18 : List T713d.T) (x19 : List Int) (x20 : List Int) (x21 : Int) (x22 : List (List (List T1383.T))) : Option R :=
  if (0 + x1.length) * 24 ≤ 140737488355328 then
    if 0 = 0 ∨ 0 < x1.length then
      some (([] ++ x1), ())
    else none
  else none
theorem f_ok {r k x1 x2 x3 x4 x5 x6 x7 x8 x9 x10 x11 x12 x13 x14 x15 x16 x17 x18 x19 x20 x21 x22} (H : f k x1 x2 x3 x4 x5 x6 x7 x8 x9 x10 x11 x12 x13 x14 x15 x16 x17 x18 x19 x20 x21 x22 = some r) : Gw P 4 (Q x2 x3 x4 x5 x6 x7 x8 x9 x10 x11 x12 x13 x14 x15 x16 x17 x18 x19 x20 x21 x22 r) (Px c0 1 []) (s0 x1 x2 x3 x4 x5 x6 x7 x8 x9 x10 x11 x12 x13 x14 x15 x16 x17 x18 x19 x20 x21 x22) := by
  unfold f at H
  refine Rg V_ok 0 [] az (by kernel_rfl) ?_
  refine NL (t := 0) (e := (.slice T1383)) (xs := x1) (by kernel_rfl) (by kernel_rfl) (fun hx1 => ?_) ?_
  · subst hx1
    replace H := Eq.trans (by kernel_rfl : (some ([], ()) : Option R) = _) H
    refine Rg V_ok 0 [] az (by kernel_rfl) ?_
    refine C1 rfl (by kernel_rfl) ?_
    refine Rg V_ok 0 [] az (by kernel_rfl) ?_
    obtain rfl := Option.some.inj H
    exact Lq {fz := [], gr := 1, ad := [.ownT 2 4 52 (.slice T1383)], live := [2], src := [some 0, some 1, some 2, some 3, some 4]} (by kernel_rfl)
  · refine Rg V_ok 0 [] az (by kernel_rfl) ?_
    refine C0 rfl (by kernel_rfl) ?_
    obtain ⟨n2, H⟩ := of_if H
    obtain ⟨n3, H⟩ := of_if H
    refine Rg V_ok 1 [(2, hb 4)] (ac n2 (ac n3 az)) (by kernel_rfl) ?_
    obtain rfl := Option.some.inj H
    exact Lq {fz := [], gr := 0, ad := [], live := [2], src := [some 0, some 1, some 2, some 3, some 4]} (by kernel_rfl)
theorem ok {r k x1 x2 x3 x4 x5 x6 x7 x8 x9 x10 x11 x12 x13 x14 x15 x16 x17 x18 x19 x20 x21 x22} (H : f k x1 x2 x3 x4 x5 x6 x7 x8 x9 x10 x11 x12 x13 x14 x15 x16 x17 x18 x19 x20 x21 x22 = some r) : W P 4 c0 (s0 x1 x2 x3 x4 x5 x6 x7 x8 x9 x10 x11 x12 x13 x14 x15 x16 x17 x18 x19 x20 x21 x22) (CallQ 4 (out x2 x3 x4 x5 x6 x7 x8 x9 x10 x11 x12 x13 x14 x15 x16 x17 x18 x19 x20 x21 x22 r)) := of_G (f_ok H)
theorem at_ : FnAt P 61 8 c0 Go.Proofs.Tryd.f61.results := fnAt Go.Proofs.Tryd.func61 (by kernel_rfl) (by decide) (by kernel_rfl) (by kernel_rfl)
end i_slices_Clone_Conf_Rule_c93
/-! ### function 62, slices.Clone[[]wayfinder/api.Rule,wayfinder/api.Rule], where it is called -/
namespace i_slices_Clone_Rule_bd4
noncomputable def c0 : Code := (Go.Proofs.Tryd.f62.body).getD .skip
noncomputable def V : Env := { tt := tt, Γ := slk [] }
theorem V_ok : EnvOk P V := { ck := tt_ck, fits := slk_nil, mixed := mixed }
abbrev R := (List T1383.T) × Unit
noncomputable def s0 (x1 : List T1383.T) (x2 : T26b3.T) (x3 : Int) (x4 : Int) (x5 : Int) (x6 : Int) (x7 : Int) (x8 : Int) (x9 : Int) (x10 : Int) (x11 : Int) (x12 : Int) (x13 : Int) (x14 : Int) (x15 : Int) (x16 : List Int) (x17 : List T23b6.T) (x18 : List T713d.T) (x19 : List Int) (x20 : List Int) (x21 : Int) (x22 : List (List T1383.T)) (x23 : List (List (List T1383.T))) : St := ⟨8, [(0, .cv (.one (.sl T1383 x1 .any)))], [(.box 13, (encC .any T26b3 x2)), (.box 13, [.nils, .int .i64 x3, .int .i64 x4, .int .i64 x5, .int .i64 x6, .int .i64 x7, .int .i64 x8, .nils, .nils, .nils, .nils, .nils, .int .i64 x9]), (.box 13, [.own 4, .int .i64 x10, .int .i64 x11, .int .i64 x12, .int .i64 x13, .int .i64 x14, .int .i64 x15, .sl (.int .i64) x16 .any, .sl T23b6 x17 .any, .sl T713d x18 .any, .sl (.int .i64) x19 .any, .sl (.int .i64) x20 .any, .int .i64 x21]), (.buf 52 (.slice T1383) x22, []), (.buf 64 (.slice (.slice T1383)) x23, [])]⟩
noncomputable def out (x2 : T26b3.T) (x3 : Int) (x4 : Int) (x5 : Int) (x6 : Int) (x7 : Int) (x8 : Int) (x9 : Int) (x10 : Int) (x11 : Int) (x12 : Int) (x13 : Int) (x14 : Int) (x15 : Int) (x16 : List Int) (x17 : List T23b6.T) (x18 : List T713d.T) (x19 : List Int) (x20 : List Int) (x21 : Int) (x22 : List (List T1383.T)) (x23 : List (List (List T1383.T))) (r : R) : St := ⟨8, [(2, .cv (.one (.own 5)))], [(.box 13, (encC .any T26b3 x2)), (.box 13, [.nils, .int .i64 x3, .int .i64 x4, .int .i64 x5, .int .i64 x6, .int .i64 x7, .int .i64 x8, .nils, .nils, .nils, .nils, .nils, .int .i64 x9]), (.box 13, [.own 4, .int .i64 x10, .int .i64 x11, .int .i64 x12, .int .i64 x13, .int .i64 x14, .int .i64 x15, .sl (.int .i64) x16 .any, .sl T23b6 x17 .any, .sl T713d x18 .any, .sl (.int .i64) x19 .any, .sl (.int .i64) x20 .any, .int .i64 x21]), (.buf 52 (.slice T1383) x22, []), (.buf 64 (.slice (.slice T1383)) x23, []), (.buf 39 T1383 r.1, [])]⟩
abbrev Q (x2 : T26b3.T) (x3 : Int) (x4 : Int) (x5 : Int) (x6 : Int) (x7 : Int) (x8 : Int) (x9 : Int) (x10 : Int) (x11 : Int) (x12 : Int) (x13 : Int) (x14 : Int) (x15 : Int) (x16 : List Int) (x17 : List T23b6.T) (x18 : List T713d.T) (x19 : List Int) (x20 : List Int) (x21 : Int) (x22 : List (List T1383.T)) (x23 : List (List (List T1383.T))) (r : R) := CallQ 5 (out x2 x3 x4 x5 x6 x7 x8 x9 x10 x11 x12 x13 x14 x15 x16 x17 x18 x19 x20 x21 x22 x23 r)
noncomputable def f (k : Nat) (x1 : List T1383.T) (x2 : T26b3.T) (x3 : Int) (x4 : Int) (x5 : Int) (x6 : Int) (x7 : Int) (x8 : Int) (x9 : Int) (x10 : Int) (x11 : Int) (x12 : Int) (x13 : Int) (x14 : Int) (x15 : Int) (x16 : List Int) (x17 : List T23b6.T) (x18 : List T713d.T) (x19 : List Int) (x20 : List Int) (x21 : Int) (x22 : List (List T1383.T)) (x23 : List (List (List T1383.T))) : Option R :=
  if (0 + x1.length) * 48 ≤ 140737488355328 then
    if 0 = 0 ∨ 0 < x1.length then
      some (([] ++ x1), ())
    else none
  else none
theorem f_ok {r k x1 x2 x3 x4 x5 x6 x7 x8 x9 x10 x11 x12 x13 x14 x15 x16 x17 x18 x19 x20 x21 x22 x23} (H : f k x1 x2 x3 x4 x5 x6 x7 x8 x9 x10 x11 x12 x13 x14 x15 x16 x17 x18 x19 x20 x21 x22 x23 = some r) : Gw P 5 (Q x2 x3 x4 x5 x6 x7 x8 x9 x10 x11 x12 x13 x14 x15 x16 x17 x18 x19 x20 x21 x22 x23 r) (Px c0 1 []) (s0 x1 x2 x3 x4 x5 x6 x7 x8 x9 x10 x11 x12 x13 x14 x15 x16 x17 x18 x19 x20 x21 x22 x23) := by
  unfold f at H
  refine Rg V_ok 0 [] az (by kernel_rfl) ?_
  refine NL (t := 0) (e := T1383) (xs := x1) (by kernel_rfl) (by kernel_rfl) (fun hx1 => ?_) ?_
  · subst hx1
    replace H := Eq.trans (by kernel_rfl : (some ([], ()) : Option R) = _) H
    refine Rg V_ok 0 [] az (by kernel_rfl) ?_
    refine C1 rfl (by kernel_rfl) ?_
    refine Rg V_ok 0 [] az (by kernel_rfl) ?_
    obtain rfl := Option.some.inj H
    exact Lq {fz := [], gr := 1, ad := [.ownT 2 5 39 T1383], live := [2], src := [some 0, some 1, some 2, some 3, some 4, some 5]} (by kernel_rfl)
  · refine Rg V_ok 0 [] az (by kernel_rfl) ?_
    refine C0 rfl (by kernel_rfl) ?_
    obtain ⟨n2, H⟩ := of_if H
    obtain ⟨n3, H⟩ := of_if H
    refine Rg V_ok 1 [(2, hb 5)] (ac n2 (ac n3 az)) (by kernel_rfl) ?_
    obtain rfl := Option.some.inj H
    exact Lq {fz := [], gr := 0, ad := [], live := [2], src := [some 0, some 1, some 2, some 3, some 4, some 5]} (by kernel_rfl)
theorem ok {r k x1 x2 x3 x4 x5 x6 x7 x8 x9 x10 x11 x12 x13 x14 x15 x16 x17 x18 x19 x20 x21 x22 x23} (H : f k x1 x2 x3 x4 x5 x6 x7 x8 x9 x10 x11 x12 x13 x14 x15 x16 x17 x18 x19 x20 x21 x22 x23 = some r) : W P 5 c0 (s0 x1 x2 x3 x4 x5 x6 x7 x8 x9 x10 x11 x12 x13 x14 x15 x16 x17 x18 x19 x20 x21 x22 x23) (CallQ 5 (out x2 x3 x4 x5 x6 x7 x8 x9 x10 x11 x12 x13 x14 x15 x16 x17 x18 x19 x20 x21 x22 x23 r)) := of_G (f_ok H)
theorem at_ : FnAt P 62 8 c0 Go.Proofs.Tryd.f62.results := fnAt Go.Proofs.Tryd.func62 (by kernel_rfl) (by decide) (by kernel_rfl) (by kernel_rfl)
end i_slices_Clone_Rule_bd4
/-! ### function 63, slices.Clone[[]wayfinder/api.Peer,wayfinder/api.Peer], where it is called -/
namespace i_slices_Clone_Peer_b0b
noncomputable def c0 : Code := (Go.Proofs.Tryd.f63.body).getD .skip
noncomputable def V : Env := { tt := tt, Γ := slk [] }
theorem V_ok : EnvOk P V := { ck := tt_ck, fits := slk_nil, mixed := mixed }
abbrev R := (List T23b6.T) × Unit
noncomputable def s0 (x1 : List T23b6.T) (x2 : T26b3.T) (x3 : Int) (x4 : Int) (x5 : Int) (x6 : Int) (x7 : Int) (x8 : Int) (x9 : Int) (x10 : Int) (x11 : Int) (x12 : Int) (x13 : Int) (x14 : Int) (x15 : Int) (x16 : List Int) (x17 : List T23b6.T) (x18 : List T713d.T) (x19 : List Int) (x20 : List Int) (x21 : Int) (x22 : List (List (List T1383.T))) : St := ⟨8, [(0, .cv (.one (.sl T23b6 x1 .any)))], [(.box 13, (encC .any T26b3 x2)), (.box 13, [.nils, .int .i64 x3, .int .i64 x4, .int .i64 x5, .int .i64 x6, .int .i64 x7, .int .i64 x8, .nils, .nils, .nils, .nils, .nils, .int .i64 x9]), (.box 13, [.own 3, .int .i64 x10, .int .i64 x11, .int .i64 x12, .int .i64 x13, .int .i64 x14, .int .i64 x15, .sl (.int .i64) x16 .any, .sl T23b6 x17 .any, .sl T713d x18 .any, .sl (.int .i64) x19 .any, .sl (.int .i64) x20 .any, .int .i64 x21]), (.buf 64 (.slice (.slice T1383)) x22, [])]⟩
noncomputable def out (x2 : T26b3.T) (x3 : Int) (x4 : Int) (x5 : Int) (x6 : Int) (x7 : Int) (x8 : Int) (x9 : Int) (x10 : Int) (x11 : Int) (x12 : Int) (x13 : Int) (x14 : Int) (x15 : Int) (x16 : List Int) (x17 : List T23b6.T) (x18 : List T713d.T) (x19 : List Int) (x20 : List Int) (x21 : Int) (x22 : List (List (List T1383.T))) (r : R) : St := ⟨8, [(2, .cv (.one (.own 4)))], [(.box 13, (encC .any T26b3 x2)), (.box 13, [.nils, .int .i64 x3, .int .i64 x4, .int .i64 x5, .int .i64 x6, .int .i64 x7, .int .i64 x8, .nils, .nils, .nils, .nils, .nils, .int .i64 x9]), (.box 13, [.own 3, .int .i64 x10, .int .i64 x11, .int .i64 x12, .int .i64 x13, .int .i64 x14, .int .i64 x15, .sl (.int .i64) x16 .any, .sl T23b6 x17 .any, .sl T713d x18 .any, .sl (.int .i64) x19 .any, .sl (.int .i64) x20 .any, .int .i64 x21]), (.buf 64 (.slice (.slice T1383)) x22, []), (.buf 50 T23b6 r.1, [])]⟩
abbrev Q (x2 : T26b3.T) (x3 : Int) (x4 : Int) (x5 : Int) (x6 : Int) (x7 : Int) (x8 : Int) (x9 : Int) (x10 : Int) (x11 : Int) (x12 : Int) (x13 : Int) (x14 : Int) (x15 : Int) (x16 : List Int) (x17 : List T23b6.T) (x18 : List T713d.T) (x19 : List Int) (x20 : List Int) (x21 : Int) (x22 : List (List (List T1383.T))) (r : R) := CallQ 4 (out x2 x3 x4 x5 x6 x7 x8 x9 x10 x11 x12 x13 x14 x15 x16 x17 x18 x19 x20 x21 x22 r)
noncomputable def f (k : Nat) (x1 : List T23b6.T) (x2 : T26b3.T) (x3 : Int) (x4 : Int) (x5 : Int) (x6 : Int) (x7 : Int) (x8 : Int) (x9 : Int) (x10 : Int) (x11 : Int) (x12 : Int) (x13 : Int) (x14 : Int) (x15 : Int) (x16 : List Int) (x17 : List T23b6.T) (x18 : List T713d.T) (x19 : List Int) (x20 : List Int) (x21 : Int) (x22 : List (List (List T1383.T))) : Option R :=
  if (0 + x1.length) * 56 ≤ 140737488355328 then
    if 0 = 0 ∨ 0 < x1.length then
      some (([] ++ x1), ())
    else none
  else none
theorem f_ok {r k x1 x2 x3 x4 x5 x6 x7 x8 x9 x10 x11 x12 x13 x14 x15 x16 x17 x18 x19 x20 x21 x22} (H : f k x1 x2 x3 x4 x5 x6 x7 x8 x9 x10 x11 x12 x13 x14 x15 x16 x17 x18 x19 x20 x21 x22 = some r) : Gw P 4 (Q x2 x3 x4 x5 x6 x7 x8 x9 x10 x11 x12 x13 x14 x15 x16 x17 x18 x19 x20 x21 x22 r) (Px c0 1 []) (s0 x1 x2 x3 x4 x5 x6 x7 x8 x9 x10 x11 x12 x13 x14 x15 x16 x17 x18 x19 x20 x21 x22) := by
  unfold f at H
  refine Rg V_ok 0 [] az (by kernel_rfl) ?_
  refine NL (t := 0) (e := T23b6) (xs := x1) (by kernel_rfl) (by kernel_rfl) (fun hx1 => ?_) ?_
  · subst hx1
    replace H := Eq.trans (by kernel_rfl : (some ([], ()) : Option R) = _) H
    refine Rg V_ok 0 [] az (by kernel_rfl) ?_
    refine C1 rfl (by kernel_rfl) ?_
    refine Rg V_ok 0 [] az (by kernel_rfl) ?_
    obtain rfl := Option.some.inj H
    exact Lq {fz := [], gr := 1, ad := [.ownT 2 4 50 T23b6], live := [2], src := [some 0, some 1, some 2, some 3, some 4]} (by kernel_rfl)
  · refine Rg V_ok 0 [] az (by kernel_rfl) ?_
    refine C0 rfl (by kernel_rfl) ?_
    obtain ⟨n2, H⟩ := of_if H
    obtain ⟨n3, H⟩ := of_if H
    refine Rg V_ok 1 [(2, hb 4)] (ac n2 (ac n3 az)) (by kernel_rfl) ?_
    obtain rfl := Option.some.inj H
    exact Lq {fz := [], gr := 0, ad := [], live := [2], src := [some 0, some 1, some 2, some 3, some 4]} (by kernel_rfl)
theorem ok {r k x1 x2 x3 x4 x5 x6 x7 x8 x9 x10 x11 x12 x13 x14 x15 x16 x17 x18 x19 x20 x21 x22} (H : f k x1 x2 x3 x4 x5 x6 x7 x8 x9 x10 x11 x12 x13 x14 x15 x16 x17 x18 x19 x20 x21 x22 = some r) : W P 4 c0 (s0 x1 x2 x3 x4 x5 x6 x7 x8 x9 x10 x11 x12 x13 x14 x15 x16 x17 x18 x19 x20 x21 x22) (CallQ 4 (out x2 x3 x4 x5 x6 x7 x8 x9 x10 x11 x12 x13 x14 x15 x16 x17 x18 x19 x20 x21 x22 r)) := of_G (f_ok H)
theorem at_ : FnAt P 63 8 c0 Go.Proofs.Tryd.f63.results := fnAt Go.Proofs.Tryd.func63 (by kernel_rfl) (by decide) (by kernel_rfl) (by kernel_rfl)
end i_slices_Clone_Peer_b0b
/-! ### function 25, wayfinder/control.own, where it is called -/
namespace i_control_own_776m
noncomputable def c0 : Code := (Go.Proofs.Tryd.f25.body).getD .skip
noncomputable def V : Env := { tt := tt, Γ := slk [(64, f_slices_Clone_Msg.S), (65, f_slices_Clone_int.S), (66, f_slices_Clone_Given.S)] }
theorem V_ok : EnvOk P V := { ck := tt_ck, fits := slk_cons f_slices_Clone_Msg.fits (slk_cons f_slices_Clone_int.fits (slk_cons f_slices_Clone_Given.fits (slk_nil))), mixed := mixed }
abbrev R := (Int) × (Int) × (Int) × (Int) × (Int) × (Int) × (List Int) × (List T713d.T) × (List Int) × (List Int) × (Int) × (List (List (List T1383.T))) × (List T23b6.T) × Unit
noncomputable def s0 (x1 : T26b3.T) (x2 : T26b3.T) (x3 : Int) (x4 : Int) (x5 : Int) (x6 : Int) (x7 : Int) (x8 : Int) (x9 : Int) : St := ⟨85, [(0, .cv (.agg (encC .any T26b3 x1)))], [(.box 13, (encC .any T26b3 x2)), (.box 13, [.nils, .int .i64 x3, .int .i64 x4, .int .i64 x5, .int .i64 x6, .int .i64 x7, .int .i64 x8, .nils, .nils, .nils, .nils, .nils, .int .i64 x9])]⟩
noncomputable def out (x2 : T26b3.T) (x3 : Int) (x4 : Int) (x5 : Int) (x6 : Int) (x7 : Int) (x8 : Int) (x9 : Int) (r : R) : St := ⟨85, [(2, .cv (.one (.ptr 2 0)))], [(.box 13, (encC .any T26b3 x2)), (.box 13, [.nils, .int .i64 x3, .int .i64 x4, .int .i64 x5, .int .i64 x6, .int .i64 x7, .int .i64 x8, .nils, .nils, .nils, .nils, .nils, .int .i64 x9]), (.box 13, [.own 3, .int .i64 r.1, .int .i64 r.2.1, .int .i64 r.2.2.1, .int .i64 r.2.2.2.1, .int .i64 r.2.2.2.2.1, .int .i64 r.2.2.2.2.2.1, .sl (.int .i64) r.2.2.2.2.2.2.1 .any, .own 4, .sl T713d r.2.2.2.2.2.2.2.1 .any, .sl (.int .i64) r.2.2.2.2.2.2.2.2.1 .any, .sl (.int .i64) r.2.2.2.2.2.2.2.2.2.1 .any, .int .i64 r.2.2.2.2.2.2.2.2.2.2.1]), (.buf 64 (.slice (.slice T1383)) r.2.2.2.2.2.2.2.2.2.2.2.1, []), (.buf 50 T23b6 r.2.2.2.2.2.2.2.2.2.2.2.2.1, [])]⟩
abbrev Q (x2 : T26b3.T) (x3 : Int) (x4 : Int) (x5 : Int) (x6 : Int) (x7 : Int) (x8 : Int) (x9 : Int) (r : R) := CallQ 2 (out x2 x3 x4 x5 x6 x7 x8 x9 r)
noncomputable def s1 (x2 : T26b3.T) (x3 : Int) (x4 : Int) (x5 : Int) (x6 : Int) (x7 : Int) (x8 : Int) (x9 : Int) (p1 : Int) (p2 : Int) (p11 : Int) (p12 : Int) (p13 : Int) (p14 : Int) (p15 : Int) (p16 : Int) (p17 : List Int) (p18 : List T23b6.T) (p19 : List T713d.T) (p20 : List Int) (p21 : List Int) (p22 : Int) (p23 : List (List (List T1383.T))) : St := ⟨85, [(1, .cv (.one (.ptr 2 0))), (13, .cv (.one (.own 3))), (14, .cv (.one (.int .i64 p1))), (15, .cv (.one (.int .i64 p2)))], [(.box 13, (encC .any T26b3 x2)), (.box 13, [.nils, .int .i64 x3, .int .i64 x4, .int .i64 x5, .int .i64 x6, .int .i64 x7, .int .i64 x8, .nils, .nils, .nils, .nils, .nils, .int .i64 x9]), (.box 13, [.own 3, .int .i64 p11, .int .i64 p12, .int .i64 p13, .int .i64 p14, .int .i64 p15, .int .i64 p16, .sl (.int .i64) p17 .any, .sl T23b6 p18 .any, .sl T713d p19 .any, .sl (.int .i64) p20 .any, .sl (.int .i64) p21 .any, .int .i64 p22]), (.buf 64 (.slice (.slice T1383)) p23, [])]⟩
noncomputable def s2 (x2 : T26b3.T) (x3 : Int) (x4 : Int) (x5 : Int) (x6 : Int) (x7 : Int) (x8 : Int) (x9 : Int) (p1 : Int) (p2 : Int) (p3 : Int) (p4 : Int) (p5 : Int) (p14 : Int) (p15 : Int) (p16 : Int) (p17 : Int) (p18 : Int) (p19 : Int) (p20 : List Int) (p21 : List T23b6.T) (p22 : List T713d.T) (p23 : List Int) (p24 : List Int) (p25 : Int) (p26 : List (List T1383.T)) (p27 : List (List (List T1383.T))) : St := ⟨85, [(1, .cv (.one (.ptr 2 0))), (3, .cv (.one (.int .i64 p1))), (4, .cv (.one (.own 3))), (13, .cv (.one (.own 4))), (14, .cv (.one (.int .i64 p2))), (15, .cv (.one (.int .i64 p3))), (22, .cv (.one (.own 3))), (23, .cv (.one (.int .i64 p4))), (24, .cv (.one (.int .i64 p5)))], [(.box 13, (encC .any T26b3 x2)), (.box 13, [.nils, .int .i64 x3, .int .i64 x4, .int .i64 x5, .int .i64 x6, .int .i64 x7, .int .i64 x8, .nils, .nils, .nils, .nils, .nils, .int .i64 x9]), (.box 13, [.own 4, .int .i64 p14, .int .i64 p15, .int .i64 p16, .int .i64 p17, .int .i64 p18, .int .i64 p19, .sl (.int .i64) p20 .any, .sl T23b6 p21 .any, .sl T713d p22 .any, .sl (.int .i64) p23 .any, .sl (.int .i64) p24 .any, .int .i64 p25]), (.buf 52 (.slice T1383) p26, []), (.buf 64 (.slice (.slice T1383)) p27, [])]⟩
noncomputable def b2 (x2 : T26b3.T) (x3 : Int) (x4 : Int) (x5 : Int) (x6 : Int) (x7 : Int) (x8 : Int) (x9 : Int) (L1 : Int → Int → Int → Int → Int → Int → Int → Int → List Int → List T23b6.T → List T713d.T → List Int → List Int → Int → List (List (List T1383.T)) → Option R) (L2 : Int → Int → Int → Int → Int → Int → Int → Int → Int → Int → Int → List Int → List T23b6.T → List T713d.T → List Int → List Int → Int → List (List T1383.T) → List (List (List T1383.T)) → Option R) (k : Nat) (p1 : Int) (p2 : Int) (p3 : Int) (p4 : Int) (p5 : Int) (p14 : Int) (p15 : Int) (p16 : Int) (p17 : Int) (p18 : Int) (p19 : Int) (p20 : List Int) (p21 : List T23b6.T) (p22 : List T713d.T) (p23 : List Int) (p24 : List Int) (p25 : Int) (p26 : List (List T1383.T)) (p27 : List (List (List T1383.T))) : Option R :=
  if (decide (p5 < p4)) = true then
  if 0 ≤ p5 then
    if p5 < (p26.length : Int) then
      (i_slices_Clone_Rule_bd4.f k (att (.slice T1383) p26 p5) x2 x3 x4 x5 x6 x7 x8 x9 p14 p15 p16 p17 p18 p19 p20 p21 p22 p23 p24 p25 p26 p27).bind fun y11 =>
        L2 p1 p2 p3 p4 (IntKind.i64.wrap (p5 + 1)) p14 p15 p16 p17 p18 p19 p20 p21 p22 p23 p24 p25 (p26.set p5.toNat y11.1) p27
    else none
  else none
else
  if 0 ≤ p1 then
    if p1 < (p27.length : Int) then
      L1 p2 (IntKind.i64.wrap (p3 + 1)) p14 p15 p16 p17 p18 p19 p20 p21 p22 p23 p24 p25 (p27.set p1.toNat p26)
    else none
  else none
theorem b2_ok {r x2 x3 x4 x5 x6 x7 x8 x9} {L1 : Int → Int → Int → Int → Int → Int → Int → Int → List Int → List T23b6.T → List T713d.T → List Int → List Int → Int → List (List (List T1383.T)) → Option R} {m1 : Nat} (hL1 : ∀ p1 p2 p11 p12 p13 p14 p15 p16 p17 p18 p19 p20 p21 p22 p23, L1 p1 p2 p11 p12 p13 p14 p15 p16 p17 p18 p19 p20 p21 p22 p23 = some r → Gw P 2 (Q x2 x3 x4 x5 x6 x7 x8 x9 r) (Pb c0 43 [] m1) (s1 x2 x3 x4 x5 x6 x7 x8 x9 p1 p2 p11 p12 p13 p14 p15 p16 p17 p18 p19 p20 p21 p22 p23)) {L2 : Int → Int → Int → Int → Int → Int → Int → Int → Int → Int → Int → List Int → List T23b6.T → List T713d.T → List Int → List Int → Int → List (List T1383.T) → List (List (List T1383.T)) → Option R} {m2 : Nat} (hL2 : ∀ p1 p2 p3 p4 p5 p14 p15 p16 p17 p18 p19 p20 p21 p22 p23 p24 p25 p26 p27, L2 p1 p2 p3 p4 p5 p14 p15 p16 p17 p18 p19 p20 p21 p22 p23 p24 p25 p26 p27 = some r → Gw P 2 (Q x2 x3 x4 x5 x6 x7 x8 x9 r) (Pb c0 44235 [m1] m2) (s2 x2 x3 x4 x5 x6 x7 x8 x9 p1 p2 p3 p4 p5 p14 p15 p16 p17 p18 p19 p20 p21 p22 p23 p24 p25 p26 p27)) {k p1 p2 p3 p4 p5 p14 p15 p16 p17 p18 p19 p20 p21 p22 p23 p24 p25 p26 p27} (H : b2 x2 x3 x4 x5 x6 x7 x8 x9 L1 L2 k p1 p2 p3 p4 p5 p14 p15 p16 p17 p18 p19 p20 p21 p22 p23 p24 p25 p26 p27 = some r) : Gw P 2 (Q x2 x3 x4 x5 x6 x7 x8 x9 r) (Px c0 77003 [m1, m2]) (s2 x2 x3 x4 x5 x6 x7 x8 x9 p1 p2 p3 p4 p5 p14 p15 p16 p17 p18 p19 p20 p21 p22 p23 p24 p25 p26 p27) := by
  unfold b2 at H
  refine Rg V_ok 0 [] az (by kernel_rfl) ?_
  rcases of_ite H with ⟨hb8, H⟩ | ⟨hb8, H⟩
  · refine C1 hb8 (by kernel_rfl) ?_
    obtain ⟨n9, H⟩ := of_if H
    obtain ⟨n10, H⟩ := of_if H
    refine Rg V_ok 0 [] (ac n9 (ac n10 az)) (by kernel_rfl) ?_
    refine GT {live := [1, 3, 4, 5, 6, 13, 14, 15, 22, 23, 24], src := [some 0, some 1, some 2, some 3, some 4]} (by kernel_rfl) (RI (by kernel_rfl) ?_)
    refine EV V_ok 0 [] 3 az (by kernel_rfl) ?_
    obtain ⟨y11, e12, H⟩ := of_bind H
    refine CL V_ok i_slices_Clone_Rule_bd4.at_ (i_slices_Clone_Rule_bd4.ok e12) (by kernel_rfl) (by kernel_rfl) (by kernel_rfl) ?_
    refine FZO 5 (by kernel_rfl) ?_
    refine EV V_ok 0 [] 2 (ac n9 (ac n10 az)) (by kernel_rfl) ?_
    refine RN (by kernel_rfl) (by kernel_rfl) ?_
    refine Rg V_ok 0 [] az (by kernel_rfl) ?_
    exact Jm {fz := [], gr := 0, ad := [], live := [1, 3, 4, 13, 14, 15, 22, 23, 24], src := [some 0, some 1, some 2, some 3, some 4]} (by kernel_rfl) (by kernel_rfl) (hL2 p1 p2 p3 p4 (IntKind.i64.wrap (p5 + 1)) p14 p15 p16 p17 p18 p19 p20 p21 p22 p23 p24 p25 (p26.set p5.toNat y11.1) p27 H)
  · refine C0 hb8 (by kernel_rfl) ?_
    refine FZ 3 (by kernel_rfl) ?_
    obtain ⟨n13, H⟩ := of_if H
    obtain ⟨n14, H⟩ := of_if H
    refine Rg V_ok 0 [] (ac n13 (ac n14 az)) (by kernel_rfl) ?_
    refine Rg V_ok 0 [] az (by kernel_rfl) ?_
    exact Jm {fz := [], gr := 0, ad := [], live := [1, 13, 14, 15], src := [some 0, some 1, some 2, some 4]} (by kernel_rfl) (by kernel_rfl) (hL1 p2 (IntKind.i64.wrap (p3 + 1)) p14 p15 p16 p17 p18 p19 p20 p21 p22 p23 p24 p25 (p27.set p1.toNat p26) H)
noncomputable def l2 (x2 : T26b3.T) (x3 : Int) (x4 : Int) (x5 : Int) (x6 : Int) (x7 : Int) (x8 : Int) (x9 : Int) (L1 : Int → Int → Int → Int → Int → Int → Int → Int → List Int → List T23b6.T → List T713d.T → List Int → List Int → Int → List (List (List T1383.T)) → Option R) (k : Nat) : Nat → Int → Int → Int → Int → Int → Int → Int → Int → Int → Int → Int → List Int → List T23b6.T → List T713d.T → List Int → List Int → Int → List (List T1383.T) → List (List (List T1383.T)) → Option R
  | 0, _, _, _, _, _, _, _, _, _, _, _, _, _, _, _, _, _, _, _ => none
  | m + 1, p1, p2, p3, p4, p5, p14, p15, p16, p17, p18, p19, p20, p21, p22, p23, p24, p25, p26, p27 => b2 x2 x3 x4 x5 x6 x7 x8 x9 L1 (l2 x2 x3 x4 x5 x6 x7 x8 x9 L1 k m) k p1 p2 p3 p4 p5 p14 p15 p16 p17 p18 p19 p20 p21 p22 p23 p24 p25 p26 p27
theorem l2_ok {r x2 x3 x4 x5 x6 x7 x8 x9} {L1 : Int → Int → Int → Int → Int → Int → Int → Int → List Int → List T23b6.T → List T713d.T → List Int → List Int → Int → List (List (List T1383.T)) → Option R} {m1 : Nat} (hL1 : ∀ p1 p2 p11 p12 p13 p14 p15 p16 p17 p18 p19 p20 p21 p22 p23, L1 p1 p2 p11 p12 p13 p14 p15 p16 p17 p18 p19 p20 p21 p22 p23 = some r → Gw P 2 (Q x2 x3 x4 x5 x6 x7 x8 x9 r) (Pb c0 43 [] m1) (s1 x2 x3 x4 x5 x6 x7 x8 x9 p1 p2 p11 p12 p13 p14 p15 p16 p17 p18 p19 p20 p21 p22 p23)) (k : Nat) : ∀ (m2 : Nat) (p1 : Int) (p2 : Int) (p3 : Int) (p4 : Int) (p5 : Int) (p14 : Int) (p15 : Int) (p16 : Int) (p17 : Int) (p18 : Int) (p19 : Int) (p20 : List Int) (p21 : List T23b6.T) (p22 : List T713d.T) (p23 : List Int) (p24 : List Int) (p25 : Int) (p26 : List (List T1383.T)) (p27 : List (List (List T1383.T))), l2 x2 x3 x4 x5 x6 x7 x8 x9 L1 k m2 p1 p2 p3 p4 p5 p14 p15 p16 p17 p18 p19 p20 p21 p22 p23 p24 p25 p26 p27 = some r → Gw P 2 (Q x2 x3 x4 x5 x6 x7 x8 x9 r) (Pb c0 44235 [m1] m2) (s2 x2 x3 x4 x5 x6 x7 x8 x9 p1 p2 p3 p4 p5 p14 p15 p16 p17 p18 p19 p20 p21 p22 p23 p24 p25 p26 p27)
  | 0, _, _, _, _, _, _, _, _, _, _, _, _, _, _, _, _, _, _, _, H => by cases H
  | m2 + 1, p1, p2, p3, p4, p5, p14, p15, p16, p17, p18, p19, p20, p21, p22, p23, p24, p25, p26, p27, H => SU (by kernel_rfl) (b2_ok hL1 (l2_ok hL1 k m2) H)
noncomputable def s3 (x2 : T26b3.T) (x3 : Int) (x4 : Int) (x5 : Int) (x6 : Int) (x7 : Int) (x8 : Int) (x9 : Int) (p1 : Int) (p2 : Int) (p11 : Int) (p12 : Int) (p13 : Int) (p14 : Int) (p15 : Int) (p16 : Int) (p17 : List Int) (p18 : List T713d.T) (p19 : List Int) (p20 : List Int) (p21 : Int) (p22 : List (List (List T1383.T))) (p23 : List T23b6.T) : St := ⟨85, [(1, .cv (.one (.ptr 2 0))), (47, .cv (.one (.int .i64 p1))), (48, .cv (.one (.int .i64 p2)))], [(.box 13, (encC .any T26b3 x2)), (.box 13, [.nils, .int .i64 x3, .int .i64 x4, .int .i64 x5, .int .i64 x6, .int .i64 x7, .int .i64 x8, .nils, .nils, .nils, .nils, .nils, .int .i64 x9]), (.box 13, [.own 3, .int .i64 p11, .int .i64 p12, .int .i64 p13, .int .i64 p14, .int .i64 p15, .int .i64 p16, .sl (.int .i64) p17 .any, .own 4, .sl T713d p18 .any, .sl (.int .i64) p19 .any, .sl (.int .i64) p20 .any, .int .i64 p21]), (.buf 64 (.slice (.slice T1383)) p22, []), (.buf 50 T23b6 p23, [])]⟩
noncomputable def b3 (x2 : T26b3.T) (x3 : Int) (x4 : Int) (x5 : Int) (x6 : Int) (x7 : Int) (x8 : Int) (x9 : Int) (L3 : Int → Int → Int → Int → Int → Int → Int → Int → List Int → List T713d.T → List Int → List Int → Int → List (List (List T1383.T)) → List T23b6.T → Option R) (k : Nat) (p1 : Int) (p2 : Int) (p11 : Int) (p12 : Int) (p13 : Int) (p14 : Int) (p15 : Int) (p16 : Int) (p17 : List Int) (p18 : List T713d.T) (p19 : List Int) (p20 : List Int) (p21 : Int) (p22 : List (List (List T1383.T))) (p23 : List T23b6.T) : Option R :=
  if (decide (p2 < p1)) = true then
  if 0 ≤ p2 then
    if p2 < (p23.length : Int) then
      (f_slices_Clone_Msg.f k (((((att T23b6 p23 p2).2).2).2).2)).bind fun y18 =>
        L3 p1 (IntKind.i64.wrap (p2 + 1)) p11 p12 p13 p14 p15 p16 p17 p18 p19 p20 p21 p22 (p23.set p2.toNat ((att T23b6 p23 p2).1, (((att T23b6 p23 p2).2).1, ((((att T23b6 p23 p2).2).2).1, (((((att T23b6 p23 p2).2).2).2).1, y18.1)))))
    else none
  else none
else
  (f_slices_Clone_int.f k p17).bind fun y22 =>
    (f_slices_Clone_Given.f k p18).bind fun y23 =>
      (f_slices_Clone_int.f k p19).bind fun y24 =>
        (f_slices_Clone_int.f k p20).bind fun y25 =>
          some (p11, (p12, (p13, (p14, (p15, (p16, (y22.1, (y23.1, (y24.1, (y25.1, (p21, (p22, (p23, ())))))))))))))
theorem b3_ok {r x2 x3 x4 x5 x6 x7 x8 x9} {L3 : Int → Int → Int → Int → Int → Int → Int → Int → List Int → List T713d.T → List Int → List Int → Int → List (List (List T1383.T)) → List T23b6.T → Option R} {m3 : Nat} (hL3 : ∀ p1 p2 p11 p12 p13 p14 p15 p16 p17 p18 p19 p20 p21 p22 p23, L3 p1 p2 p11 p12 p13 p14 p15 p16 p17 p18 p19 p20 p21 p22 p23 = some r → Gw P 2 (Q x2 x3 x4 x5 x6 x7 x8 x9 r) (Pb c0 175 [] m3) (s3 x2 x3 x4 x5 x6 x7 x8 x9 p1 p2 p11 p12 p13 p14 p15 p16 p17 p18 p19 p20 p21 p22 p23)) {k p1 p2 p11 p12 p13 p14 p15 p16 p17 p18 p19 p20 p21 p22 p23} (H : b3 x2 x3 x4 x5 x6 x7 x8 x9 L3 k p1 p2 p11 p12 p13 p14 p15 p16 p17 p18 p19 p20 p21 p22 p23 = some r) : Gw P 2 (Q x2 x3 x4 x5 x6 x7 x8 x9 r) (Px c0 303 [m3]) (s3 x2 x3 x4 x5 x6 x7 x8 x9 p1 p2 p11 p12 p13 p14 p15 p16 p17 p18 p19 p20 p21 p22 p23) := by
  unfold b3 at H
  refine Rg V_ok 0 [] az (by kernel_rfl) ?_
  rcases of_ite H with ⟨hb17, H⟩ | ⟨hb17, H⟩
  · refine C1 hb17 (by kernel_rfl) ?_
    refine Rg V_ok 0 [] az (by kernel_rfl) ?_
    obtain ⟨n19, H⟩ := of_if H
    obtain ⟨n20, H⟩ := of_if H
    obtain ⟨y18, e21, H⟩ := of_bind H
    refine Rg V_ok 0 [(10, hr f_slices_Clone_Msg.S y18)] (ac n19 (ac n20 (ac (f_slices_Clone_Msg.rl e21) (ac n19 (ac n20 az))))) (by kernel_rfl) ?_
    refine Rg V_ok 0 [] az (by kernel_rfl) ?_
    exact Jm {fz := [], gr := 0, ad := [], live := [1, 47, 48], src := [some 0, some 1, some 2, some 3, some 4]} (by kernel_rfl) (by kernel_rfl) (hL3 p1 (IntKind.i64.wrap (p2 + 1)) p11 p12 p13 p14 p15 p16 p17 p18 p19 p20 p21 p22 (p23.set p2.toNat ((att T23b6 p23 p2).1, (((att T23b6 p23 p2).2).1, ((((att T23b6 p23 p2).2).2).1, (((((att T23b6 p23 p2).2).2).2).1, y18.1))))) H)
  · refine C0 hb17 (by kernel_rfl) ?_
    obtain ⟨y22, e26, H⟩ := of_bind H
    obtain ⟨y23, e27, H⟩ := of_bind H
    obtain ⟨y24, e28, H⟩ := of_bind H
    obtain ⟨y25, e29, H⟩ := of_bind H
    refine Rg V_ok 0 [(2, hr f_slices_Clone_int.S y22), (5, hr f_slices_Clone_Given.S y23), (8, hr f_slices_Clone_int.S y24), (11, hr f_slices_Clone_int.S y25)] (ac (f_slices_Clone_int.rl e26) (ac (f_slices_Clone_Given.rl e27) (ac (f_slices_Clone_int.rl e28) (ac (f_slices_Clone_int.rl e29) az)))) (by kernel_rfl) ?_
    refine Rg V_ok 1 [(2, hb 5)] az (by kernel_rfl) ?_
    obtain rfl := Option.some.inj H
    exact Lq {fz := [], gr := 0, ad := [], live := [2], src := [some 0, some 1, some 5, some 3, some 4]} (by kernel_rfl)
noncomputable def l3 (x2 : T26b3.T) (x3 : Int) (x4 : Int) (x5 : Int) (x6 : Int) (x7 : Int) (x8 : Int) (x9 : Int) (k : Nat) : Nat → Int → Int → Int → Int → Int → Int → Int → Int → List Int → List T713d.T → List Int → List Int → Int → List (List (List T1383.T)) → List T23b6.T → Option R
  | 0, _, _, _, _, _, _, _, _, _, _, _, _, _, _, _ => none
  | m + 1, p1, p2, p11, p12, p13, p14, p15, p16, p17, p18, p19, p20, p21, p22, p23 => b3 x2 x3 x4 x5 x6 x7 x8 x9 (l3 x2 x3 x4 x5 x6 x7 x8 x9 k m) k p1 p2 p11 p12 p13 p14 p15 p16 p17 p18 p19 p20 p21 p22 p23
theorem l3_ok {r x2 x3 x4 x5 x6 x7 x8 x9} (k : Nat) : ∀ (m3 : Nat) (p1 : Int) (p2 : Int) (p11 : Int) (p12 : Int) (p13 : Int) (p14 : Int) (p15 : Int) (p16 : Int) (p17 : List Int) (p18 : List T713d.T) (p19 : List Int) (p20 : List Int) (p21 : Int) (p22 : List (List (List T1383.T))) (p23 : List T23b6.T), l3 x2 x3 x4 x5 x6 x7 x8 x9 k m3 p1 p2 p11 p12 p13 p14 p15 p16 p17 p18 p19 p20 p21 p22 p23 = some r → Gw P 2 (Q x2 x3 x4 x5 x6 x7 x8 x9 r) (Pb c0 175 [] m3) (s3 x2 x3 x4 x5 x6 x7 x8 x9 p1 p2 p11 p12 p13 p14 p15 p16 p17 p18 p19 p20 p21 p22 p23)
  | 0, _, _, _, _, _, _, _, _, _, _, _, _, _, _, _, H => by cases H
  | m3 + 1, p1, p2, p11, p12, p13, p14, p15, p16, p17, p18, p19, p20, p21, p22, p23, H => SU (by kernel_rfl) (b3_ok (l3_ok k m3) H)
noncomputable def b1 (x2 : T26b3.T) (x3 : Int) (x4 : Int) (x5 : Int) (x6 : Int) (x7 : Int) (x8 : Int) (x9 : Int) (L1 : Int → Int → Int → Int → Int → Int → Int → Int → List Int → List T23b6.T → List T713d.T → List Int → List Int → Int → List (List (List T1383.T)) → Option R) (k : Nat) (p1 : Int) (p2 : Int) (p11 : Int) (p12 : Int) (p13 : Int) (p14 : Int) (p15 : Int) (p16 : Int) (p17 : List Int) (p18 : List T23b6.T) (p19 : List T713d.T) (p20 : List Int) (p21 : List Int) (p22 : Int) (p23 : List (List (List T1383.T))) : Option R :=
  if (decide (p2 < p1)) = true then
  if 0 ≤ p2 then
    if p2 < (p23.length : Int) then
      (i_slices_Clone_Conf_Rule_c93.f k (att (.slice (.slice T1383)) p23 p2) x2 x3 x4 x5 x6 x7 x8 x9 p11 p12 p13 p14 p15 p16 p17 p18 p19 p20 p21 p22 p23).bind fun y6 =>
        l2 x2 x3 x4 x5 x6 x7 x8 x9 L1 k k p2 p1 p2 (y6.1.length : Int) 0 p11 p12 p13 p14 p15 p16 p17 p18 p19 p20 p21 p22 y6.1 p23
    else none
  else none
else
  (i_slices_Clone_Peer_b0b.f k p18 x2 x3 x4 x5 x6 x7 x8 x9 p11 p12 p13 p14 p15 p16 p17 p18 p19 p20 p21 p22 p23).bind fun y15 =>
    l3 x2 x3 x4 x5 x6 x7 x8 x9 k k (y15.1.length : Int) 0 p11 p12 p13 p14 p15 p16 p17 p19 p20 p21 p22 p23 y15.1
theorem b1_ok {r x2 x3 x4 x5 x6 x7 x8 x9} {L1 : Int → Int → Int → Int → Int → Int → Int → Int → List Int → List T23b6.T → List T713d.T → List Int → List Int → Int → List (List (List T1383.T)) → Option R} {m1 : Nat} (hL1 : ∀ p1 p2 p11 p12 p13 p14 p15 p16 p17 p18 p19 p20 p21 p22 p23, L1 p1 p2 p11 p12 p13 p14 p15 p16 p17 p18 p19 p20 p21 p22 p23 = some r → Gw P 2 (Q x2 x3 x4 x5 x6 x7 x8 x9 r) (Pb c0 43 [] m1) (s1 x2 x3 x4 x5 x6 x7 x8 x9 p1 p2 p11 p12 p13 p14 p15 p16 p17 p18 p19 p20 p21 p22 p23)) {k p1 p2 p11 p12 p13 p14 p15 p16 p17 p18 p19 p20 p21 p22 p23} (H : b1 x2 x3 x4 x5 x6 x7 x8 x9 L1 k p1 p2 p11 p12 p13 p14 p15 p16 p17 p18 p19 p20 p21 p22 p23 = some r) : Gw P 2 (Q x2 x3 x4 x5 x6 x7 x8 x9 r) (Px c0 75 [m1]) (s1 x2 x3 x4 x5 x6 x7 x8 x9 p1 p2 p11 p12 p13 p14 p15 p16 p17 p18 p19 p20 p21 p22 p23) := by
  unfold b1 at H
  refine Rg V_ok 0 [] az (by kernel_rfl) ?_
  rcases of_ite H with ⟨hb3, H⟩ | ⟨hb3, H⟩
  · refine C1 hb3 (by kernel_rfl) ?_
    obtain ⟨n4, H⟩ := of_if H
    obtain ⟨n5, H⟩ := of_if H
    refine Rg V_ok 0 [] (ac n4 (ac n5 az)) (by kernel_rfl) ?_
    refine GT {live := [1, 3, 4, 13, 14, 15], src := [some 0, some 1, some 2, some 3]} (by kernel_rfl) (RI (by kernel_rfl) ?_)
    refine EV V_ok 0 [] 1 az (by kernel_rfl) ?_
    obtain ⟨y6, e7, H⟩ := of_bind H
    refine CL V_ok i_slices_Clone_Conf_Rule_c93.at_ (i_slices_Clone_Conf_Rule_c93.ok e7) (by kernel_rfl) (by kernel_rfl) (by kernel_rfl) ?_
    refine EV V_ok 0 [] 1 az (by kernel_rfl) ?_
    refine RN (by kernel_rfl) (by kernel_rfl) ?_
    refine Rg V_ok 0 [] az (by kernel_rfl) ?_
    exact LP k (Jm {fz := [], gr := 0, ad := [], live := [1, 3, 4, 13, 14, 15, 22, 23, 24], src := [some 0, some 1, some 2, some 4, some 3]} (by kernel_rfl) (by kernel_rfl) (l2_ok hL1 k k p2 p1 p2 (y6.1.length : Int) 0 p11 p12 p13 p14 p15 p16 p17 p18 p19 p20 p21 p22 y6.1 p23 H))
  · refine C0 hb3 (by kernel_rfl) ?_
    refine GT {live := [1], src := [some 0, some 1, some 2, some 3]} (by kernel_rfl) (RI (by kernel_rfl) ?_)
    refine EV V_ok 0 [] 2 az (by kernel_rfl) ?_
    obtain ⟨y15, e16, H⟩ := of_bind H
    refine CL V_ok i_slices_Clone_Peer_b0b.at_ (i_slices_Clone_Peer_b0b.ok e16) (by kernel_rfl) (by kernel_rfl) (by kernel_rfl) ?_
    refine EV V_ok 0 [] 2 az (by kernel_rfl) ?_
    refine RN (by kernel_rfl) (by kernel_rfl) ?_
    refine Rg V_ok 0 [] az (by kernel_rfl) ?_
    exact LP k (Jm {fz := [], gr := 0, ad := [], live := [1, 47, 48], src := [some 0, some 1, some 2, some 3, some 4]} (by kernel_rfl) (by kernel_rfl) (l3_ok k k (y15.1.length : Int) 0 p11 p12 p13 p14 p15 p16 p17 p19 p20 p21 p22 p23 y15.1 H))
noncomputable def l1 (x2 : T26b3.T) (x3 : Int) (x4 : Int) (x5 : Int) (x6 : Int) (x7 : Int) (x8 : Int) (x9 : Int) (k : Nat) : Nat → Int → Int → Int → Int → Int → Int → Int → Int → List Int → List T23b6.T → List T713d.T → List Int → List Int → Int → List (List (List T1383.T)) → Option R
  | 0, _, _, _, _, _, _, _, _, _, _, _, _, _, _, _ => none
  | m + 1, p1, p2, p11, p12, p13, p14, p15, p16, p17, p18, p19, p20, p21, p22, p23 => b1 x2 x3 x4 x5 x6 x7 x8 x9 (l1 x2 x3 x4 x5 x6 x7 x8 x9 k m) k p1 p2 p11 p12 p13 p14 p15 p16 p17 p18 p19 p20 p21 p22 p23
theorem l1_ok {r x2 x3 x4 x5 x6 x7 x8 x9} (k : Nat) : ∀ (m1 : Nat) (p1 : Int) (p2 : Int) (p11 : Int) (p12 : Int) (p13 : Int) (p14 : Int) (p15 : Int) (p16 : Int) (p17 : List Int) (p18 : List T23b6.T) (p19 : List T713d.T) (p20 : List Int) (p21 : List Int) (p22 : Int) (p23 : List (List (List T1383.T))), l1 x2 x3 x4 x5 x6 x7 x8 x9 k m1 p1 p2 p11 p12 p13 p14 p15 p16 p17 p18 p19 p20 p21 p22 p23 = some r → Gw P 2 (Q x2 x3 x4 x5 x6 x7 x8 x9 r) (Pb c0 43 [] m1) (s1 x2 x3 x4 x5 x6 x7 x8 x9 p1 p2 p11 p12 p13 p14 p15 p16 p17 p18 p19 p20 p21 p22 p23)
  | 0, _, _, _, _, _, _, _, _, _, _, _, _, _, _, _, H => by cases H
  | m1 + 1, p1, p2, p11, p12, p13, p14, p15, p16, p17, p18, p19, p20, p21, p22, p23, H => SU (by kernel_rfl) (b1_ok (l1_ok k m1) H)
noncomputable def f (k : Nat) (x1 : T26b3.T) (x2 : T26b3.T) (x3 : Int) (x4 : Int) (x5 : Int) (x6 : Int) (x7 : Int) (x8 : Int) (x9 : Int) : Option R :=
  (i_slices_Clone_Conf_522.f k x1.1 x2 x3 x4 x5 x6 x7 x8 x9 x1).bind fun y1 =>
    l1 x2 x3 x4 x5 x6 x7 x8 x9 k k (y1.1.length : Int) 0 x1.2.1 x1.2.2.1 x1.2.2.2.1 x1.2.2.2.2.1 x1.2.2.2.2.2.1 x1.2.2.2.2.2.2.1 x1.2.2.2.2.2.2.2.1 x1.2.2.2.2.2.2.2.2.1 x1.2.2.2.2.2.2.2.2.2.1 x1.2.2.2.2.2.2.2.2.2.2.1 x1.2.2.2.2.2.2.2.2.2.2.2.1 x1.2.2.2.2.2.2.2.2.2.2.2.2 y1.1
theorem f_ok {r k x1 x2 x3 x4 x5 x6 x7 x8 x9} (H : f k x1 x2 x3 x4 x5 x6 x7 x8 x9 = some r) : Gw P 2 (Q x2 x3 x4 x5 x6 x7 x8 x9 r) (Px c0 1 []) (s0 x1 x2 x3 x4 x5 x6 x7 x8 x9) := by
  unfold f at H
  refine Rg V_ok 1 [(0, hb 2)] az (by kernel_rfl) ?_
  refine GT {live := [1], src := [some 0, some 1, some 2]} (by kernel_rfl) (RI (by kernel_rfl) ?_)
  refine EV V_ok 0 [] 2 az (by kernel_rfl) ?_
  obtain ⟨y1, e2, H⟩ := of_bind H
  refine CL V_ok i_slices_Clone_Conf_522.at_ (i_slices_Clone_Conf_522.ok e2) (by kernel_rfl) (by kernel_rfl) (by kernel_rfl) ?_
  refine EV V_ok 0 [] 2 az (by kernel_rfl) ?_
  refine RN (by kernel_rfl) (by kernel_rfl) ?_
  refine Rg V_ok 0 [] az (by kernel_rfl) ?_
  exact LP k (Jm {fz := [], gr := 0, ad := [], live := [1, 13, 14, 15], src := [some 0, some 1, some 2, some 3]} (by kernel_rfl) (by kernel_rfl) (l1_ok k k (y1.1.length : Int) 0 x1.2.1 x1.2.2.1 x1.2.2.2.1 x1.2.2.2.2.1 x1.2.2.2.2.2.1 x1.2.2.2.2.2.2.1 x1.2.2.2.2.2.2.2.1 x1.2.2.2.2.2.2.2.2.1 x1.2.2.2.2.2.2.2.2.2.1 x1.2.2.2.2.2.2.2.2.2.2.1 x1.2.2.2.2.2.2.2.2.2.2.2.1 x1.2.2.2.2.2.2.2.2.2.2.2.2 y1.1 H))
theorem ok {r k x1 x2 x3 x4 x5 x6 x7 x8 x9} (H : f k x1 x2 x3 x4 x5 x6 x7 x8 x9 = some r) : W P 2 c0 (s0 x1 x2 x3 x4 x5 x6 x7 x8 x9) (CallQ 2 (out x2 x3 x4 x5 x6 x7 x8 x9 r)) := of_G (f_ok H)
theorem at_ : FnAt P 25 85 c0 Go.Proofs.Tryd.f25.results := fnAt Go.Proofs.Tryd.func25 (by kernel_rfl) (by decide) (by kernel_rfl) (by kernel_rfl)
end i_control_own_776m
/-! ### function 54, (*wayfinder/control.controller).two, where it is called -/
namespace i_control_controller_two_be2
noncomputable def c0 : Code := (Go.Proofs.Tryd.f54.body).getD .skip
noncomputable def V : Env := { tt := tt, Γ := slk [(87, f_slices_Contains_int.S)] }
theorem V_ok : EnvOk P V := { ck := tt_ck, fits := slk_cons f_slices_Contains_int.fits (slk_nil), mixed := mixed }
abbrev R := (Bool) × Unit
noncomputable def s0 (x1 : Int) (x2 : Int) (x3 : Int) (x4 : Int) (x5 : Int) (x6 : Int) (x7 : Int) (x8 : Int) (x9 : Int) (x10 : Int) (x11 : Int) (x12 : Int) (x13 : Int) (x14 : List Int) (x15 : List T713d.T) (x16 : List Int) (x17 : List Int) (x18 : Int) (x19 : List (List (List T1383.T))) (x20 : List T23b6.T) : St := ⟨10, [(0, .cv (.one (.ptr 1 0)))], [(.box 13, [.nils, .int .i64 x1, .int .i64 x2, .int .i64 x3, .int .i64 x4, .int .i64 x5, .int .i64 x6, .nils, .nils, .nils, .nils, .nils, .int .i64 x7]), (.box 13, [.own 2, .int .i64 x8, .int .i64 x9, .int .i64 x10, .int .i64 x11, .int .i64 x12, .int .i64 x13, .sl (.int .i64) x14 .any, .own 3, .sl T713d x15 .any, .sl (.int .i64) x16 .any, .sl (.int .i64) x17 .any, .int .i64 x18]), (.buf 64 (.slice (.slice T1383)) x19, []), (.buf 50 T23b6 x20, []), (.box 1, [.ptr 1 0])]⟩
noncomputable def out (x1 : Int) (x2 : Int) (x3 : Int) (x4 : Int) (x5 : Int) (x6 : Int) (x7 : Int) (x8 : Int) (x9 : Int) (x10 : Int) (x11 : Int) (x12 : Int) (x13 : Int) (x14 : List Int) (x15 : List T713d.T) (x16 : List Int) (x17 : List Int) (x18 : Int) (x19 : List (List (List T1383.T))) (x20 : List T23b6.T) (r : R) : St := ⟨10, [(2, .cv (.one (.bool r.1)))], [(.box 13, [.nils, .int .i64 x1, .int .i64 x2, .int .i64 x3, .int .i64 x4, .int .i64 x5, .int .i64 x6, .nils, .nils, .nils, .nils, .nils, .int .i64 x7]), (.box 13, [.own 2, .int .i64 x8, .int .i64 x9, .int .i64 x10, .int .i64 x11, .int .i64 x12, .int .i64 x13, .sl (.int .i64) x14 .any, .own 3, .sl T713d x15 .any, .sl (.int .i64) x16 .any, .sl (.int .i64) x17 .any, .int .i64 x18]), (.buf 64 (.slice (.slice T1383)) x19, []), (.buf 50 T23b6 x20, []), (.box 1, [.ptr 1 0])]⟩
abbrev Q (x1 : Int) (x2 : Int) (x3 : Int) (x4 : Int) (x5 : Int) (x6 : Int) (x7 : Int) (x8 : Int) (x9 : Int) (x10 : Int) (x11 : Int) (x12 : Int) (x13 : Int) (x14 : List Int) (x15 : List T713d.T) (x16 : List Int) (x17 : List Int) (x18 : Int) (x19 : List (List (List T1383.T))) (x20 : List T23b6.T) (r : R) := CallQ 5 (out x1 x2 x3 x4 x5 x6 x7 x8 x9 x10 x11 x12 x13 x14 x15 x16 x17 x18 x19 x20 r)
noncomputable def f (k : Nat) (x1 : Int) (x2 : Int) (x3 : Int) (x4 : Int) (x5 : Int) (x6 : Int) (x7 : Int) (x8 : Int) (x9 : Int) (x10 : Int) (x11 : Int) (x12 : Int) (x13 : Int) (x14 : List Int) (x15 : List T713d.T) (x16 : List Int) (x17 : List Int) (x18 : Int) (x19 : List (List (List T1383.T))) (x20 : List T23b6.T) : Option R :=
  (f_slices_Contains_int.f k [1, 2, 3] x12).bind fun y1 =>
    some (y1.1, ())
theorem f_ok {r k x1 x2 x3 x4 x5 x6 x7 x8 x9 x10 x11 x12 x13 x14 x15 x16 x17 x18 x19 x20} (H : f k x1 x2 x3 x4 x5 x6 x7 x8 x9 x10 x11 x12 x13 x14 x15 x16 x17 x18 x19 x20 = some r) : Gw P 5 (Q x1 x2 x3 x4 x5 x6 x7 x8 x9 x10 x11 x12 x13 x14 x15 x16 x17 x18 x19 x20 r) (Px c0 1 []) (s0 x1 x2 x3 x4 x5 x6 x7 x8 x9 x10 x11 x12 x13 x14 x15 x16 x17 x18 x19 x20) := by
  unfold f at H
  refine Rg V_ok 0 [] az (by kernel_rfl) ?_
  obtain ⟨y1, e2, H⟩ := of_bind H
  refine Rg V_ok 0 [(6, hr f_slices_Contains_int.S y1)] (ac (f_slices_Contains_int.rl e2) az) (by kernel_rfl) ?_
  obtain rfl := Option.some.inj H
  exact Lq {fz := [], gr := 0, ad := [], live := [2], src := [some 0, some 1, some 2, some 3, some 4]} (by kernel_rfl)
theorem ok {r k x1 x2 x3 x4 x5 x6 x7 x8 x9 x10 x11 x12 x13 x14 x15 x16 x17 x18 x19 x20} (H : f k x1 x2 x3 x4 x5 x6 x7 x8 x9 x10 x11 x12 x13 x14 x15 x16 x17 x18 x19 x20 = some r) : W P 5 c0 (s0 x1 x2 x3 x4 x5 x6 x7 x8 x9 x10 x11 x12 x13 x14 x15 x16 x17 x18 x19 x20) (CallQ 5 (out x1 x2 x3 x4 x5 x6 x7 x8 x9 x10 x11 x12 x13 x14 x15 x16 x17 x18 x19 x20 r)) := of_G (f_ok H)
theorem at_ : FnAt P 54 10 c0 Go.Proofs.Tryd.f54.results := fnAt Go.Proofs.Tryd.func54 (by kernel_rfl) (by decide) (by kernel_rfl) (by kernel_rfl)
end i_control_controller_two_be2
/-! ### function 53, (*wayfinder/control.controller).is$1, where it is called -/
namespace i_control_controller_is_1_9b0
noncomputable def c0 : Code := (Go.Proofs.Tryd.f53.body).getD .skip
noncomputable def V : Env := { tt := tt, Γ := slk [] }
theorem V_ok : EnvOk P V := { ck := tt_ck, fits := slk_nil, mixed := mixed }
abbrev R := (Bool) × Unit
noncomputable def s0 (x1 : Int) (x2 : Int) (x3 : Int) (x4 : Int) (x5 : Int) (x6 : Int) (x7 : Int) (x8 : Int) (x9 : Int) (x10 : Int) (x11 : Int) (x12 : Int) (x13 : Int) (x14 : Int) (x15 : List Int) (x16 : List T713d.T) (x17 : List Int) (x18 : List Int) (x19 : Int) (x20 : List (List (List T1383.T))) (x21 : List T23b6.T) : St := ⟨16, [(0, .cv (.one (.int .i64 x1))), (1, .cv (.one (.ptr 4 0)))], [(.box 13, [.nils, .int .i64 x2, .int .i64 x3, .int .i64 x4, .int .i64 x5, .int .i64 x6, .int .i64 x7, .nils, .nils, .nils, .nils, .nils, .int .i64 x8]), (.box 13, [.own 2, .int .i64 x9, .int .i64 x10, .int .i64 x11, .int .i64 x12, .int .i64 x13, .int .i64 x14, .sl (.int .i64) x15 .any, .own 3, .sl T713d x16 .any, .sl (.int .i64) x17 .any, .sl (.int .i64) x18 .any, .int .i64 x19]), (.buf 64 (.slice (.slice T1383)) x20, []), (.buf 50 T23b6 x21, []), (.box 1, [.ptr 1 0])]⟩
noncomputable def out (x2 : Int) (x3 : Int) (x4 : Int) (x5 : Int) (x6 : Int) (x7 : Int) (x8 : Int) (x9 : Int) (x10 : Int) (x11 : Int) (x12 : Int) (x13 : Int) (x14 : Int) (x15 : List Int) (x16 : List T713d.T) (x17 : List Int) (x18 : List Int) (x19 : Int) (x20 : List (List (List T1383.T))) (x21 : List T23b6.T) (r : R) : St := ⟨16, [(3, .cv (.one (.bool r.1)))], [(.box 13, [.nils, .int .i64 x2, .int .i64 x3, .int .i64 x4, .int .i64 x5, .int .i64 x6, .int .i64 x7, .nils, .nils, .nils, .nils, .nils, .int .i64 x8]), (.box 13, [.own 2, .int .i64 x9, .int .i64 x10, .int .i64 x11, .int .i64 x12, .int .i64 x13, .int .i64 x14, .sl (.int .i64) x15 .any, .own 3, .sl T713d x16 .any, .sl (.int .i64) x17 .any, .sl (.int .i64) x18 .any, .int .i64 x19]), (.buf 64 (.slice (.slice T1383)) x20, []), (.buf 50 T23b6 x21, []), (.box 1, [.ptr 1 0])]⟩
abbrev Q (x2 : Int) (x3 : Int) (x4 : Int) (x5 : Int) (x6 : Int) (x7 : Int) (x8 : Int) (x9 : Int) (x10 : Int) (x11 : Int) (x12 : Int) (x13 : Int) (x14 : Int) (x15 : List Int) (x16 : List T713d.T) (x17 : List Int) (x18 : List Int) (x19 : Int) (x20 : List (List (List T1383.T))) (x21 : List T23b6.T) (r : R) := CallQ 5 (out x2 x3 x4 x5 x6 x7 x8 x9 x10 x11 x12 x13 x14 x15 x16 x17 x18 x19 x20 x21 r)
noncomputable def f (k : Nat) (x1 : Int) (x2 : Int) (x3 : Int) (x4 : Int) (x5 : Int) (x6 : Int) (x7 : Int) (x8 : Int) (x9 : Int) (x10 : Int) (x11 : Int) (x12 : Int) (x13 : Int) (x14 : Int) (x15 : List Int) (x16 : List T713d.T) (x17 : List Int) (x18 : List Int) (x19 : Int) (x20 : List (List (List T1383.T))) (x21 : List T23b6.T) : Option R :=
  if (decide (x1 < (0 : Int))) = true then
    some (true, ())
  else
    some ((decide (x1 ≥ (x20.length : Int))), ())
theorem f_ok {r k x1 x2 x3 x4 x5 x6 x7 x8 x9 x10 x11 x12 x13 x14 x15 x16 x17 x18 x19 x20 x21} (H : f k x1 x2 x3 x4 x5 x6 x7 x8 x9 x10 x11 x12 x13 x14 x15 x16 x17 x18 x19 x20 x21 = some r) : Gw P 5 (Q x2 x3 x4 x5 x6 x7 x8 x9 x10 x11 x12 x13 x14 x15 x16 x17 x18 x19 x20 x21 r) (Px c0 1 []) (s0 x1 x2 x3 x4 x5 x6 x7 x8 x9 x10 x11 x12 x13 x14 x15 x16 x17 x18 x19 x20 x21) := by
  unfold f at H
  refine Rg V_ok 0 [] az (by kernel_rfl) ?_
  rcases of_ite H with ⟨hb1, H⟩ | ⟨hb1, H⟩
  · refine Rg V_ok 0 [(1, {bv := some true})] (ac hb1 az) (by kernel_rfl) ?_
    obtain rfl := Option.some.inj H
    exact Lq {fz := [], gr := 0, ad := [], live := [3], src := [some 0, some 1, some 2, some 3, some 4]} (by kernel_rfl)
  · refine Rg V_ok 0 [(1, {bv := some false})] (ac hb1 az) (by kernel_rfl) ?_
    obtain rfl := Option.some.inj H
    exact Lq {fz := [], gr := 0, ad := [], live := [3], src := [some 0, some 1, some 2, some 3, some 4]} (by kernel_rfl)
theorem ok {r k x1 x2 x3 x4 x5 x6 x7 x8 x9 x10 x11 x12 x13 x14 x15 x16 x17 x18 x19 x20 x21} (H : f k x1 x2 x3 x4 x5 x6 x7 x8 x9 x10 x11 x12 x13 x14 x15 x16 x17 x18 x19 x20 x21 = some r) : W P 5 c0 (s0 x1 x2 x3 x4 x5 x6 x7 x8 x9 x10 x11 x12 x13 x14 x15 x16 x17 x18 x19 x20 x21) (CallQ 5 (out x2 x3 x4 x5 x6 x7 x8 x9 x10 x11 x12 x13 x14 x15 x16 x17 x18 x19 x20 x21 r)) := of_G (f_ok H)
theorem at_ : FnAt P 53 16 c0 Go.Proofs.Tryd.f53.results := fnAt Go.Proofs.Tryd.func53 (by kernel_rfl) (by decide) (by kernel_rfl) (by kernel_rfl)
end i_control_controller_is_1_9b0
/-! ### function 88, slices.IndexFunc[[]int,int], where it is called -/
namespace i_slices_IndexFunc_int_3d2
noncomputable def c0 : Code := (Go.Proofs.Tryd.f88.body).getD .skip
noncomputable def V : Env := { tt := tt, Γ := slk [] }
theorem V_ok : EnvOk P V := { ck := tt_ck, fits := slk_nil, mixed := mixed }
abbrev R := (Int) × Unit
noncomputable def s0 (x1 : List Int) (x2 : Int) (x3 : Int) (x4 : Int) (x5 : Int) (x6 : Int) (x7 : Int) (x8 : Int) (x9 : Int) (x10 : Int) (x11 : Int) (x12 : Int) (x13 : Int) (x14 : Int) (x15 : List Int) (x16 : List T713d.T) (x17 : List Int) (x18 : List Int) (x19 : Int) (x20 : List (List (List T1383.T))) (x21 : List T23b6.T) : St := ⟨19, [(0, .cv (.one (.sl (.int .i64) x1 .any))), (1, .cv (.one (.fn 53 [] [(4, 0)])))], [(.box 13, [.nils, .int .i64 x2, .int .i64 x3, .int .i64 x4, .int .i64 x5, .int .i64 x6, .int .i64 x7, .nils, .nils, .nils, .nils, .nils, .int .i64 x8]), (.box 13, [.own 2, .int .i64 x9, .int .i64 x10, .int .i64 x11, .int .i64 x12, .int .i64 x13, .int .i64 x14, .sl (.int .i64) x15 .any, .own 3, .sl T713d x16 .any, .sl (.int .i64) x17 .any, .sl (.int .i64) x18 .any, .int .i64 x19]), (.buf 64 (.slice (.slice T1383)) x20, []), (.buf 50 T23b6 x21, []), (.box 1, [.ptr 1 0])]⟩
noncomputable def out (x2 : Int) (x3 : Int) (x4 : Int) (x5 : Int) (x6 : Int) (x7 : Int) (x8 : Int) (x9 : Int) (x10 : Int) (x11 : Int) (x12 : Int) (x13 : Int) (x14 : Int) (x15 : List Int) (x16 : List T713d.T) (x17 : List Int) (x18 : List Int) (x19 : Int) (x20 : List (List (List T1383.T))) (x21 : List T23b6.T) (r : R) : St := ⟨19, [(4, .cv (.one (.int .i64 r.1)))], [(.box 13, [.nils, .int .i64 x2, .int .i64 x3, .int .i64 x4, .int .i64 x5, .int .i64 x6, .int .i64 x7, .nils, .nils, .nils, .nils, .nils, .int .i64 x8]), (.box 13, [.own 2, .int .i64 x9, .int .i64 x10, .int .i64 x11, .int .i64 x12, .int .i64 x13, .int .i64 x14, .sl (.int .i64) x15 .any, .own 3, .sl T713d x16 .any, .sl (.int .i64) x17 .any, .sl (.int .i64) x18 .any, .int .i64 x19]), (.buf 64 (.slice (.slice T1383)) x20, []), (.buf 50 T23b6 x21, []), (.box 1, [.ptr 1 0])]⟩
abbrev Q (x2 : Int) (x3 : Int) (x4 : Int) (x5 : Int) (x6 : Int) (x7 : Int) (x8 : Int) (x9 : Int) (x10 : Int) (x11 : Int) (x12 : Int) (x13 : Int) (x14 : Int) (x15 : List Int) (x16 : List T713d.T) (x17 : List Int) (x18 : List Int) (x19 : Int) (x20 : List (List (List T1383.T))) (x21 : List T23b6.T) (r : R) := CallQ 5 (out x2 x3 x4 x5 x6 x7 x8 x9 x10 x11 x12 x13 x14 x15 x16 x17 x18 x19 x20 x21 r)
noncomputable def s1 (x1 : List Int) (x2 : Int) (x3 : Int) (x4 : Int) (x5 : Int) (x6 : Int) (x7 : Int) (x8 : Int) (x9 : Int) (x10 : Int) (x11 : Int) (x12 : Int) (x13 : Int) (x14 : Int) (x15 : List Int) (x16 : List T713d.T) (x17 : List Int) (x18 : List Int) (x19 : Int) (x20 : List (List (List T1383.T))) (x21 : List T23b6.T) (p2 : Int) (p3 : Int) : St := ⟨19, [(0, .cv (.one (.sl (.int .i64) x1 .any))), (1, .cv (.one (.fn 53 [] [(4, 0)]))), (7, .cv (.one (.int .i64 p2))), (8, .cv (.one (.int .i64 p3)))], [(.box 13, [.nils, .int .i64 x2, .int .i64 x3, .int .i64 x4, .int .i64 x5, .int .i64 x6, .int .i64 x7, .nils, .nils, .nils, .nils, .nils, .int .i64 x8]), (.box 13, [.own 2, .int .i64 x9, .int .i64 x10, .int .i64 x11, .int .i64 x12, .int .i64 x13, .int .i64 x14, .sl (.int .i64) x15 .any, .own 3, .sl T713d x16 .any, .sl (.int .i64) x17 .any, .sl (.int .i64) x18 .any, .int .i64 x19]), (.buf 64 (.slice (.slice T1383)) x20, []), (.buf 50 T23b6 x21, []), (.box 1, [.ptr 1 0])]⟩
noncomputable def b1 (x1 : List Int) (x2 : Int) (x3 : Int) (x4 : Int) (x5 : Int) (x6 : Int) (x7 : Int) (x8 : Int) (x9 : Int) (x10 : Int) (x11 : Int) (x12 : Int) (x13 : Int) (x14 : Int) (x15 : List Int) (x16 : List T713d.T) (x17 : List Int) (x18 : List Int) (x19 : Int) (x20 : List (List (List T1383.T))) (x21 : List T23b6.T) (L1 : Int → Int → Option R) (k : Nat) (p2 : Int) (p3 : Int) : Option R :=
  if (decide (p3 < p2)) = true then
  if 0 ≤ p3 then
    if p3 < (x1.length : Int) then
      (i_control_controller_is_1_9b0.f k (att (.int .i64) x1 p3) x2 x3 x4 x5 x6 x7 x8 x9 x10 x11 x12 x13 x14 x15 x16 x17 x18 x19 x20 x21).bind fun y4 =>
        if y4.1 = true then
          some (p3, ())
        else
          L1 p2 (IntKind.i64.wrap (p3 + 1))
    else none
  else none
else
  some ((-1), ())
theorem b1_ok {r x1 x2 x3 x4 x5 x6 x7 x8 x9 x10 x11 x12 x13 x14 x15 x16 x17 x18 x19 x20 x21} {L1 : Int → Int → Option R} {m1 : Nat} (hL1 : ∀ p2 p3, L1 p2 p3 = some r → Gw P 5 (Q x2 x3 x4 x5 x6 x7 x8 x9 x10 x11 x12 x13 x14 x15 x16 x17 x18 x19 x20 x21 r) (Pb c0 21 [] m1) (s1 x1 x2 x3 x4 x5 x6 x7 x8 x9 x10 x11 x12 x13 x14 x15 x16 x17 x18 x19 x20 x21 p2 p3)) {k p2 p3} (H : b1 x1 x2 x3 x4 x5 x6 x7 x8 x9 x10 x11 x12 x13 x14 x15 x16 x17 x18 x19 x20 x21 L1 k p2 p3 = some r) : Gw P 5 (Q x2 x3 x4 x5 x6 x7 x8 x9 x10 x11 x12 x13 x14 x15 x16 x17 x18 x19 x20 x21 r) (Px c0 37 [m1]) (s1 x1 x2 x3 x4 x5 x6 x7 x8 x9 x10 x11 x12 x13 x14 x15 x16 x17 x18 x19 x20 x21 p2 p3) := by
  unfold b1 at H
  refine Rg V_ok 0 [] az (by kernel_rfl) ?_
  rcases of_ite H with ⟨hb1, H⟩ | ⟨hb1, H⟩
  · refine C1 hb1 (by kernel_rfl) ?_
    refine Rg V_ok 0 [] az (by kernel_rfl) ?_
    refine GT {live := [0, 1, 5, 7, 8], src := [some 0, some 1, some 2, some 3, some 4]} (by kernel_rfl) (RI (by kernel_rfl) ?_)
    obtain ⟨n2, H⟩ := of_if H
    obtain ⟨n3, H⟩ := of_if H
    refine EV V_ok 0 [] 5 (ac n2 (ac n3 az)) (by kernel_rfl) ?_
    obtain ⟨y4, e5, H⟩ := of_bind H
    refine CL V_ok i_control_controller_is_1_9b0.at_ (i_control_controller_is_1_9b0.ok e5) (by kernel_rfl) (by kernel_rfl) (by kernel_rfl) ?_
    refine RN (by kernel_rfl) (by kernel_rfl) ?_
    rcases of_ite H with ⟨hb6, H⟩ | ⟨hb6, H⟩
    · refine C1 hb6 (by kernel_rfl) ?_
      refine Rg V_ok 0 [] az (by kernel_rfl) ?_
      obtain rfl := Option.some.inj H
      exact Lq {fz := [], gr := 0, ad := [], live := [4], src := [some 0, some 1, some 2, some 3, some 4]} (by kernel_rfl)
    · refine C0 hb6 (by kernel_rfl) ?_
      refine Rg V_ok 0 [] az (by kernel_rfl) ?_
      exact Jm {fz := [], gr := 0, ad := [], live := [0, 1, 7, 8], src := [some 0, some 1, some 2, some 3, some 4]} (by kernel_rfl) (by kernel_rfl) (hL1 p2 (IntKind.i64.wrap (p3 + 1)) H)
  · refine C0 hb1 (by kernel_rfl) ?_
    refine Rg V_ok 0 [] az (by kernel_rfl) ?_
    obtain rfl := Option.some.inj H
    exact Lq {fz := [], gr := 0, ad := [], live := [4], src := [some 0, some 1, some 2, some 3, some 4]} (by kernel_rfl)
noncomputable def l1 (x1 : List Int) (x2 : Int) (x3 : Int) (x4 : Int) (x5 : Int) (x6 : Int) (x7 : Int) (x8 : Int) (x9 : Int) (x10 : Int) (x11 : Int) (x12 : Int) (x13 : Int) (x14 : Int) (x15 : List Int) (x16 : List T713d.T) (x17 : List Int) (x18 : List Int) (x19 : Int) (x20 : List (List (List T1383.T))) (x21 : List T23b6.T) (k : Nat) : Nat → Int → Int → Option R
  | 0, _, _ => none
  | m + 1, p2, p3 => b1 x1 x2 x3 x4 x5 x6 x7 x8 x9 x10 x11 x12 x13 x14 x15 x16 x17 x18 x19 x20 x21 (l1 x1 x2 x3 x4 x5 x6 x7 x8 x9 x10 x11 x12 x13 x14 x15 x16 x17 x18 x19 x20 x21 k m) k p2 p3
theorem l1_ok {r x1 x2 x3 x4 x5 x6 x7 x8 x9 x10 x11 x12 x13 x14 x15 x16 x17 x18 x19 x20 x21} (k : Nat) : ∀ (m1 : Nat) (p2 : Int) (p3 : Int), l1 x1 x2 x3 x4 x5 x6 x7 x8 x9 x10 x11 x12 x13 x14 x15 x16 x17 x18 x19 x20 x21 k m1 p2 p3 = some r → Gw P 5 (Q x2 x3 x4 x5 x6 x7 x8 x9 x10 x11 x12 x13 x14 x15 x16 x17 x18 x19 x20 x21 r) (Pb c0 21 [] m1) (s1 x1 x2 x3 x4 x5 x6 x7 x8 x9 x10 x11 x12 x13 x14 x15 x16 x17 x18 x19 x20 x21 p2 p3)
  | 0, _, _, H => by cases H
  | m1 + 1, p2, p3, H => SU (by kernel_rfl) (b1_ok (l1_ok k m1) H)
noncomputable def f (k : Nat) (x1 : List Int) (x2 : Int) (x3 : Int) (x4 : Int) (x5 : Int) (x6 : Int) (x7 : Int) (x8 : Int) (x9 : Int) (x10 : Int) (x11 : Int) (x12 : Int) (x13 : Int) (x14 : Int) (x15 : List Int) (x16 : List T713d.T) (x17 : List Int) (x18 : List Int) (x19 : Int) (x20 : List (List (List T1383.T))) (x21 : List T23b6.T) : Option R :=
  l1 x1 x2 x3 x4 x5 x6 x7 x8 x9 x10 x11 x12 x13 x14 x15 x16 x17 x18 x19 x20 x21 k k (x1.length : Int) 0
theorem f_ok {r k x1 x2 x3 x4 x5 x6 x7 x8 x9 x10 x11 x12 x13 x14 x15 x16 x17 x18 x19 x20 x21} (H : f k x1 x2 x3 x4 x5 x6 x7 x8 x9 x10 x11 x12 x13 x14 x15 x16 x17 x18 x19 x20 x21 = some r) : Gw P 5 (Q x2 x3 x4 x5 x6 x7 x8 x9 x10 x11 x12 x13 x14 x15 x16 x17 x18 x19 x20 x21 r) (Px c0 1 []) (s0 x1 x2 x3 x4 x5 x6 x7 x8 x9 x10 x11 x12 x13 x14 x15 x16 x17 x18 x19 x20 x21) := by
  unfold f at H
  refine Rg V_ok 0 [] az (by kernel_rfl) ?_
  refine Rg V_ok 0 [] az (by kernel_rfl) ?_
  exact LP k (Jm {fz := [], gr := 0, ad := [], live := [0, 1, 7, 8], src := [some 0, some 1, some 2, some 3, some 4]} (by kernel_rfl) (by kernel_rfl) (l1_ok k k (x1.length : Int) 0 H))
theorem ok {r k x1 x2 x3 x4 x5 x6 x7 x8 x9 x10 x11 x12 x13 x14 x15 x16 x17 x18 x19 x20 x21} (H : f k x1 x2 x3 x4 x5 x6 x7 x8 x9 x10 x11 x12 x13 x14 x15 x16 x17 x18 x19 x20 x21 = some r) : W P 5 c0 (s0 x1 x2 x3 x4 x5 x6 x7 x8 x9 x10 x11 x12 x13 x14 x15 x16 x17 x18 x19 x20 x21) (CallQ 5 (out x2 x3 x4 x5 x6 x7 x8 x9 x10 x11 x12 x13 x14 x15 x16 x17 x18 x19 x20 x21 r)) := of_G (f_ok H)
theorem at_ : FnAt P 88 19 c0 Go.Proofs.Tryd.f88.results := fnAt Go.Proofs.Tryd.func88 (by kernel_rfl) (by decide) (by kernel_rfl) (by kernel_rfl)
end i_slices_IndexFunc_int_3d2
/-! ### function 55, slices.ContainsFunc[[]int,int], where it is called -/
namespace i_slices_ContainsFunc_int_3d2
noncomputable def c0 : Code := (Go.Proofs.Tryd.f55.body).getD .skip
noncomputable def V : Env := { tt := tt, Γ := slk [] }
theorem V_ok : EnvOk P V := { ck := tt_ck, fits := slk_nil, mixed := mixed }
abbrev R := (Bool) × Unit
noncomputable def s0 (x1 : List Int) (x2 : Int) (x3 : Int) (x4 : Int) (x5 : Int) (x6 : Int) (x7 : Int) (x8 : Int) (x9 : Int) (x10 : Int) (x11 : Int) (x12 : Int) (x13 : Int) (x14 : Int) (x15 : List Int) (x16 : List T713d.T) (x17 : List Int) (x18 : List Int) (x19 : Int) (x20 : List (List (List T1383.T))) (x21 : List T23b6.T) : St := ⟨9, [(0, .cv (.one (.sl (.int .i64) x1 .any))), (1, .cv (.one (.fn 53 [] [(4, 0)])))], [(.box 13, [.nils, .int .i64 x2, .int .i64 x3, .int .i64 x4, .int .i64 x5, .int .i64 x6, .int .i64 x7, .nils, .nils, .nils, .nils, .nils, .int .i64 x8]), (.box 13, [.own 2, .int .i64 x9, .int .i64 x10, .int .i64 x11, .int .i64 x12, .int .i64 x13, .int .i64 x14, .sl (.int .i64) x15 .any, .own 3, .sl T713d x16 .any, .sl (.int .i64) x17 .any, .sl (.int .i64) x18 .any, .int .i64 x19]), (.buf 64 (.slice (.slice T1383)) x20, []), (.buf 50 T23b6 x21, []), (.box 1, [.ptr 1 0])]⟩
noncomputable def out (x2 : Int) (x3 : Int) (x4 : Int) (x5 : Int) (x6 : Int) (x7 : Int) (x8 : Int) (x9 : Int) (x10 : Int) (x11 : Int) (x12 : Int) (x13 : Int) (x14 : Int) (x15 : List Int) (x16 : List T713d.T) (x17 : List Int) (x18 : List Int) (x19 : Int) (x20 : List (List (List T1383.T))) (x21 : List T23b6.T) (r : R) : St := ⟨9, [(4, .cv (.one (.bool r.1)))], [(.box 13, [.nils, .int .i64 x2, .int .i64 x3, .int .i64 x4, .int .i64 x5, .int .i64 x6, .int .i64 x7, .nils, .nils, .nils, .nils, .nils, .int .i64 x8]), (.box 13, [.own 2, .int .i64 x9, .int .i64 x10, .int .i64 x11, .int .i64 x12, .int .i64 x13, .int .i64 x14, .sl (.int .i64) x15 .any, .own 3, .sl T713d x16 .any, .sl (.int .i64) x17 .any, .sl (.int .i64) x18 .any, .int .i64 x19]), (.buf 64 (.slice (.slice T1383)) x20, []), (.buf 50 T23b6 x21, []), (.box 1, [.ptr 1 0])]⟩
abbrev Q (x2 : Int) (x3 : Int) (x4 : Int) (x5 : Int) (x6 : Int) (x7 : Int) (x8 : Int) (x9 : Int) (x10 : Int) (x11 : Int) (x12 : Int) (x13 : Int) (x14 : Int) (x15 : List Int) (x16 : List T713d.T) (x17 : List Int) (x18 : List Int) (x19 : Int) (x20 : List (List (List T1383.T))) (x21 : List T23b6.T) (r : R) := CallQ 5 (out x2 x3 x4 x5 x6 x7 x8 x9 x10 x11 x12 x13 x14 x15 x16 x17 x18 x19 x20 x21 r)
noncomputable def f (k : Nat) (x1 : List Int) (x2 : Int) (x3 : Int) (x4 : Int) (x5 : Int) (x6 : Int) (x7 : Int) (x8 : Int) (x9 : Int) (x10 : Int) (x11 : Int) (x12 : Int) (x13 : Int) (x14 : Int) (x15 : List Int) (x16 : List T713d.T) (x17 : List Int) (x18 : List Int) (x19 : Int) (x20 : List (List (List T1383.T))) (x21 : List T23b6.T) : Option R :=
  (i_slices_IndexFunc_int_3d2.f k x1 x2 x3 x4 x5 x6 x7 x8 x9 x10 x11 x12 x13 x14 x15 x16 x17 x18 x19 x20 x21).bind fun y1 =>
    some ((decide (y1.1 ≥ (0 : Int))), ())
theorem f_ok {r k x1 x2 x3 x4 x5 x6 x7 x8 x9 x10 x11 x12 x13 x14 x15 x16 x17 x18 x19 x20 x21} (H : f k x1 x2 x3 x4 x5 x6 x7 x8 x9 x10 x11 x12 x13 x14 x15 x16 x17 x18 x19 x20 x21 = some r) : Gw P 5 (Q x2 x3 x4 x5 x6 x7 x8 x9 x10 x11 x12 x13 x14 x15 x16 x17 x18 x19 x20 x21 r) (Px c0 1 []) (s0 x1 x2 x3 x4 x5 x6 x7 x8 x9 x10 x11 x12 x13 x14 x15 x16 x17 x18 x19 x20 x21) := by
  unfold f at H
  refine Rg V_ok 0 [] az (by kernel_rfl) ?_
  refine GT {live := [0, 1], src := [some 0, some 1, some 2, some 3, some 4]} (by kernel_rfl) (RI (by kernel_rfl) ?_)
  refine EV V_ok 0 [] 2 az (by kernel_rfl) ?_
  obtain ⟨y1, e2, H⟩ := of_bind H
  refine CL V_ok i_slices_IndexFunc_int_3d2.at_ (i_slices_IndexFunc_int_3d2.ok e2) (by kernel_rfl) (by kernel_rfl) (by kernel_rfl) ?_
  refine EV V_ok 0 [] 2 az (by kernel_rfl) ?_
  refine RN (by kernel_rfl) (by kernel_rfl) ?_
  obtain rfl := Option.some.inj H
  exact Lq {fz := [], gr := 0, ad := [], live := [4], src := [some 0, some 1, some 2, some 3, some 4]} (by kernel_rfl)
theorem ok {r k x1 x2 x3 x4 x5 x6 x7 x8 x9 x10 x11 x12 x13 x14 x15 x16 x17 x18 x19 x20 x21} (H : f k x1 x2 x3 x4 x5 x6 x7 x8 x9 x10 x11 x12 x13 x14 x15 x16 x17 x18 x19 x20 x21 = some r) : W P 5 c0 (s0 x1 x2 x3 x4 x5 x6 x7 x8 x9 x10 x11 x12 x13 x14 x15 x16 x17 x18 x19 x20 x21) (CallQ 5 (out x2 x3 x4 x5 x6 x7 x8 x9 x10 x11 x12 x13 x14 x15 x16 x17 x18 x19 x20 x21 r)) := of_G (f_ok H)
theorem at_ : FnAt P 55 9 c0 Go.Proofs.Tryd.f55.results := fnAt Go.Proofs.Tryd.func55 (by kernel_rfl) (by decide) (by kernel_rfl) (by kernel_rfl)
end i_slices_ContainsFunc_int_3d2
/-! ### function 23, (*wayfinder/control.controller).is, where it is called -/
namespace i_control_controller_is_a3f
noncomputable def c0 : Code := (Go.Proofs.Tryd.f23.body).getD .skip
noncomputable def V : Env := { tt := tt, Γ := slk [] }
theorem V_ok : EnvOk P V := { ck := tt_ck, fits := slk_nil, mixed := mixed }
abbrev R := (Bool) × Unit
noncomputable def s0 (x1 : Int) (x2 : Int) (x3 : Int) (x4 : Int) (x5 : Int) (x6 : Int) (x7 : Int) (x8 : Int) (x9 : Int) (x10 : Int) (x11 : Int) (x12 : Int) (x13 : Int) (x14 : List Int) (x15 : List T713d.T) (x16 : List Int) (x17 : List Int) (x18 : Int) (x19 : List (List (List T1383.T))) (x20 : List T23b6.T) : St := ⟨57, [(0, .cv (.one (.ptr 1 0)))], [(.box 13, [.nils, .int .i64 x1, .int .i64 x2, .int .i64 x3, .int .i64 x4, .int .i64 x5, .int .i64 x6, .nils, .nils, .nils, .nils, .nils, .int .i64 x7]), (.box 13, [.own 2, .int .i64 x8, .int .i64 x9, .int .i64 x10, .int .i64 x11, .int .i64 x12, .int .i64 x13, .sl (.int .i64) x14 .any, .own 3, .sl T713d x15 .any, .sl (.int .i64) x16 .any, .sl (.int .i64) x17 .any, .int .i64 x18]), (.buf 64 (.slice (.slice T1383)) x19, []), (.buf 50 T23b6 x20, [])]⟩
noncomputable def out (x1 : Int) (x2 : Int) (x3 : Int) (x4 : Int) (x5 : Int) (x6 : Int) (x7 : Int) (x8 : Int) (x9 : Int) (x10 : Int) (x11 : Int) (x12 : Int) (x13 : Int) (x14 : List Int) (x15 : List T713d.T) (x16 : List Int) (x17 : List Int) (x18 : Int) (x19 : List (List (List T1383.T))) (x20 : List T23b6.T) (r : R) : St := ⟨57, [(2, .cv (.one (.bool r.1)))], [(.box 13, [.nils, .int .i64 x1, .int .i64 x2, .int .i64 x3, .int .i64 x4, .int .i64 x5, .int .i64 x6, .nils, .nils, .nils, .nils, .nils, .int .i64 x7]), (.box 13, [.own 2, .int .i64 x8, .int .i64 x9, .int .i64 x10, .int .i64 x11, .int .i64 x12, .int .i64 x13, .sl (.int .i64) x14 .any, .own 3, .sl T713d x15 .any, .sl (.int .i64) x16 .any, .sl (.int .i64) x17 .any, .int .i64 x18]), (.buf 64 (.slice (.slice T1383)) x19, []), (.buf 50 T23b6 x20, [])]⟩
abbrev Q (x1 : Int) (x2 : Int) (x3 : Int) (x4 : Int) (x5 : Int) (x6 : Int) (x7 : Int) (x8 : Int) (x9 : Int) (x10 : Int) (x11 : Int) (x12 : Int) (x13 : Int) (x14 : List Int) (x15 : List T713d.T) (x16 : List Int) (x17 : List Int) (x18 : Int) (x19 : List (List (List T1383.T))) (x20 : List T23b6.T) (r : R) := CallQ 4 (out x1 x2 x3 x4 x5 x6 x7 x8 x9 x10 x11 x12 x13 x14 x15 x16 x17 x18 x19 x20 r)
noncomputable def s1 (x1 : Int) (x2 : Int) (x3 : Int) (x4 : Int) (x5 : Int) (x6 : Int) (x7 : Int) (x8 : Int) (x9 : Int) (x10 : Int) (x11 : Int) (x12 : Int) (x13 : Int) (x14 : List Int) (x15 : List T713d.T) (x16 : List Int) (x17 : List Int) (x18 : Int) (x19 : List (List (List T1383.T))) (x20 : List T23b6.T) (p1 : Bool) : St := ⟨57, [(1, .cv (.one (.ptr 4 0))), (3, .cv (.one (.fn 53 [] [(4, 0)]))), (4, .cv (.one (.bool p1)))], [(.box 13, [.nils, .int .i64 x1, .int .i64 x2, .int .i64 x3, .int .i64 x4, .int .i64 x5, .int .i64 x6, .nils, .nils, .nils, .nils, .nils, .int .i64 x7]), (.box 13, [.own 2, .int .i64 x8, .int .i64 x9, .int .i64 x10, .int .i64 x11, .int .i64 x12, .int .i64 x13, .sl (.int .i64) x14 .any, .own 3, .sl T713d x15 .any, .sl (.int .i64) x16 .any, .sl (.int .i64) x17 .any, .int .i64 x18]), (.buf 64 (.slice (.slice T1383)) x19, []), (.buf 50 T23b6 x20, []), (.box 1, [.ptr 1 0])]⟩
noncomputable def j1 (x1 : Int) (x2 : Int) (x3 : Int) (x4 : Int) (x5 : Int) (x6 : Int) (x7 : Int) (x8 : Int) (x9 : Int) (x10 : Int) (x11 : Int) (x12 : Int) (x13 : Int) (x14 : List Int) (x15 : List T713d.T) (x16 : List Int) (x17 : List Int) (x18 : Int) (x19 : List (List (List T1383.T))) (x20 : List T23b6.T) (k : Nat) (p1 : Bool) : Option R :=
  if p1 = true then
  (i_control_controller_is_1_9b0.f k x8 x1 x2 x3 x4 x5 x6 x7 x8 x9 x10 x11 x12 x13 x14 x15 x16 x17 x18 x19 x20).bind fun y6 =>
    if (!y6.1) = true then
      (i_slices_ContainsFunc_int_3d2.f k x14 x1 x2 x3 x4 x5 x6 x7 x8 x9 x10 x11 x12 x13 x14 x15 x16 x17 x18 x19 x20).bind fun y9 =>
        if (!y9.1) = true then
          some ((decide ((x20.length : Int) ≤ (100 : Int))), ())
        else
          some (false, ())
    else
      some (false, ())
else
  some (false, ())
theorem j1_ok {r x1 x2 x3 x4 x5 x6 x7 x8 x9 x10 x11 x12 x13 x14 x15 x16 x17 x18 x19 x20} {k p1} (H : j1 x1 x2 x3 x4 x5 x6 x7 x8 x9 x10 x11 x12 x13 x14 x15 x16 x17 x18 x19 x20 k p1 = some r) : Gw P 4 (Q x1 x2 x3 x4 x5 x6 x7 x8 x9 x10 x11 x12 x13 x14 x15 x16 x17 x18 x19 x20 r) (Px c0 15 []) (s1 x1 x2 x3 x4 x5 x6 x7 x8 x9 x10 x11 x12 x13 x14 x15 x16 x17 x18 x19 x20 p1) := by
  unfold j1 at H
  refine GT {live := [1, 3, 4], src := [some 0, some 1, some 2, some 3, some 4]} (by kernel_rfl) (RI (by kernel_rfl) ?_)
  refine EV V_ok 0 [] 2 az (by kernel_rfl) ?_
  rcases of_ite H with ⟨hb5, H⟩ | ⟨hb5, H⟩
  · refine FXO 28 hb5 (by kernel_rfl) ?_
    refine EV V_ok 0 [] 6 az (by kernel_rfl) ?_
    obtain ⟨y6, e7, H⟩ := of_bind H
    refine CL V_ok i_control_controller_is_1_9b0.at_ (i_control_controller_is_1_9b0.ok e7) (by kernel_rfl) (by kernel_rfl) (by kernel_rfl) ?_
    refine EV V_ok 0 [] 3 az (by kernel_rfl) ?_
    rcases of_ite H with ⟨hb8, H⟩ | ⟨hb8, H⟩
    · refine FXO 38 hb8 (by kernel_rfl) ?_
      refine EV V_ok 0 [] 6 az (by kernel_rfl) ?_
      obtain ⟨y9, e10, H⟩ := of_bind H
      refine CL V_ok i_slices_ContainsFunc_int_3d2.at_ (i_slices_ContainsFunc_int_3d2.ok e10) (by kernel_rfl) (by kernel_rfl) (by kernel_rfl) ?_
      refine EV V_ok 0 [] 3 az (by kernel_rfl) ?_
      rcases of_ite H with ⟨hb11, H⟩ | ⟨hb11, H⟩
      · refine FXO 48 hb11 (by kernel_rfl) ?_
        refine EV V_ok 0 [] 9 az (by kernel_rfl) ?_
        refine RN (by kernel_rfl) (by kernel_rfl) ?_
        obtain rfl := Option.some.inj H
        exact Lq {fz := [], gr := 0, ad := [], live := [2], src := [some 0, some 1, some 2, some 3]} (by kernel_rfl)
      · refine FXO 48 hb11 (by kernel_rfl) ?_
        refine EV V_ok 0 [] 9 az (by kernel_rfl) ?_
        refine RN (by kernel_rfl) (by kernel_rfl) ?_
        obtain rfl := Option.some.inj H
        exact Lq {fz := [], gr := 0, ad := [], live := [2], src := [some 0, some 1, some 2, some 3]} (by kernel_rfl)
    · refine FXO 38 hb8 (by kernel_rfl) ?_
      refine EV V_ok 0 [] 10 az (by kernel_rfl) ?_
      refine EV V_ok 0 [] 9 az (by kernel_rfl) ?_
      refine RN (by kernel_rfl) (by kernel_rfl) ?_
      obtain rfl := Option.some.inj H
      exact Lq {fz := [], gr := 0, ad := [], live := [2], src := [some 0, some 1, some 2, some 3]} (by kernel_rfl)
  · refine FXO 28 hb5 (by kernel_rfl) ?_
    refine EV V_ok 0 [] 10 az (by kernel_rfl) ?_
    refine EV V_ok 0 [] 10 az (by kernel_rfl) ?_
    refine EV V_ok 0 [] 9 az (by kernel_rfl) ?_
    refine RN (by kernel_rfl) (by kernel_rfl) ?_
    obtain rfl := Option.some.inj H
    exact Lq {fz := [], gr := 0, ad := [], live := [2], src := [some 0, some 1, some 2, some 3]} (by kernel_rfl)
noncomputable def f (k : Nat) (x1 : Int) (x2 : Int) (x3 : Int) (x4 : Int) (x5 : Int) (x6 : Int) (x7 : Int) (x8 : Int) (x9 : Int) (x10 : Int) (x11 : Int) (x12 : Int) (x13 : Int) (x14 : List Int) (x15 : List T713d.T) (x16 : List Int) (x17 : List Int) (x18 : Int) (x19 : List (List (List T1383.T))) (x20 : List T23b6.T) : Option R :=
  if (x9 == (-1 : Int)) = true then
    (i_control_controller_two_be2.f k x1 x2 x3 x4 x5 x6 x7 x8 x9 x10 x11 x12 x13 x14 x15 x16 x17 x18 x19 x20).bind fun y2 =>
      if (!y2.1) = true then
        j1 x1 x2 x3 x4 x5 x6 x7 x8 x9 x10 x11 x12 x13 x14 x15 x16 x17 x18 x19 x20 k true
      else
        (i_control_controller_is_1_9b0.f k x9 x1 x2 x3 x4 x5 x6 x7 x8 x9 x10 x11 x12 x13 x14 x15 x16 x17 x18 x19 x20).bind fun y12 =>
          j1 x1 x2 x3 x4 x5 x6 x7 x8 x9 x10 x11 x12 x13 x14 x15 x16 x17 x18 x19 x20 k (!y12.1)
  else
    (i_control_controller_is_1_9b0.f k x9 x1 x2 x3 x4 x5 x6 x7 x8 x9 x10 x11 x12 x13 x14 x15 x16 x17 x18 x19 x20).bind fun y14 =>
      j1 x1 x2 x3 x4 x5 x6 x7 x8 x9 x10 x11 x12 x13 x14 x15 x16 x17 x18 x19 x20 k (!y14.1)
theorem f_ok {r k x1 x2 x3 x4 x5 x6 x7 x8 x9 x10 x11 x12 x13 x14 x15 x16 x17 x18 x19 x20} (H : f k x1 x2 x3 x4 x5 x6 x7 x8 x9 x10 x11 x12 x13 x14 x15 x16 x17 x18 x19 x20 = some r) : Gw P 4 (Q x1 x2 x3 x4 x5 x6 x7 x8 x9 x10 x11 x12 x13 x14 x15 x16 x17 x18 x19 x20 r) (Px c0 1 []) (s0 x1 x2 x3 x4 x5 x6 x7 x8 x9 x10 x11 x12 x13 x14 x15 x16 x17 x18 x19 x20) := by
  unfold f at H
  refine Rg V_ok 1 [(0, hb 4)] az (by kernel_rfl) ?_
  refine Rg V_ok 0 [] az (by kernel_rfl) ?_
  refine GT {live := [1, 3], src := [some 0, some 1, some 2, some 3, some 4]} (by kernel_rfl) (RI (by kernel_rfl) ?_)
  refine EV V_ok 0 [] 7 az (by kernel_rfl) ?_
  rcases of_ite H with ⟨hb1, H⟩ | ⟨hb1, H⟩
  · refine FXO 12 hb1 (by kernel_rfl) ?_
    refine EV V_ok 0 [] 1 az (by kernel_rfl) ?_
    obtain ⟨y2, e3, H⟩ := of_bind H
    refine CL V_ok i_control_controller_two_be2.at_ (i_control_controller_two_be2.ok e3) (by kernel_rfl) (by kernel_rfl) (by kernel_rfl) ?_
    refine EV V_ok 0 [] 3 az (by kernel_rfl) ?_
    rcases of_ite H with ⟨hb4, H⟩ | ⟨hb4, H⟩
    · refine FXO 17 hb4 (by kernel_rfl) ?_
      refine EV V_ok 0 [] 10 az (by kernel_rfl) ?_
      refine RN (by kernel_rfl) (by kernel_rfl) ?_
      exact Jm {fz := [], gr := 0, ad := [], live := [1, 3, 4], src := [some 0, some 1, some 2, some 3, some 4]} (by kernel_rfl) (by kernel_rfl) (j1_ok H)
    · refine FXO 17 hb4 (by kernel_rfl) ?_
      refine EV V_ok 0 [] 6 az (by kernel_rfl) ?_
      obtain ⟨y12, e13, H⟩ := of_bind H
      refine CL V_ok i_control_controller_is_1_9b0.at_ (i_control_controller_is_1_9b0.ok e13) (by kernel_rfl) (by kernel_rfl) (by kernel_rfl) ?_
      refine EV V_ok 0 [] 3 az (by kernel_rfl) ?_
      refine RN (by kernel_rfl) (by kernel_rfl) ?_
      exact Jm {fz := [], gr := 0, ad := [], live := [1, 3, 4], src := [some 0, some 1, some 2, some 3, some 4]} (by kernel_rfl) (by kernel_rfl) (j1_ok H)
  · refine FXO 12 hb1 (by kernel_rfl) ?_
    refine EV V_ok 0 [] 5 az (by kernel_rfl) ?_
    refine EV V_ok 0 [] 6 az (by kernel_rfl) ?_
    obtain ⟨y14, e15, H⟩ := of_bind H
    refine CL V_ok i_control_controller_is_1_9b0.at_ (i_control_controller_is_1_9b0.ok e15) (by kernel_rfl) (by kernel_rfl) (by kernel_rfl) ?_
    refine EV V_ok 0 [] 3 az (by kernel_rfl) ?_
    refine RN (by kernel_rfl) (by kernel_rfl) ?_
    exact Jm {fz := [], gr := 0, ad := [], live := [1, 3, 4], src := [some 0, some 1, some 2, some 3, some 4]} (by kernel_rfl) (by kernel_rfl) (j1_ok H)
theorem ok {r k x1 x2 x3 x4 x5 x6 x7 x8 x9 x10 x11 x12 x13 x14 x15 x16 x17 x18 x19 x20} (H : f k x1 x2 x3 x4 x5 x6 x7 x8 x9 x10 x11 x12 x13 x14 x15 x16 x17 x18 x19 x20 = some r) : W P 4 c0 (s0 x1 x2 x3 x4 x5 x6 x7 x8 x9 x10 x11 x12 x13 x14 x15 x16 x17 x18 x19 x20) (CallQ 4 (out x1 x2 x3 x4 x5 x6 x7 x8 x9 x10 x11 x12 x13 x14 x15 x16 x17 x18 x19 x20 r)) := of_G (f_ok H)
theorem at_ : FnAt P 23 57 c0 Go.Proofs.Tryd.f23.results := fnAt Go.Proofs.Tryd.func23 (by kernel_rfl) (by decide) (by kernel_rfl) (by kernel_rfl)
end i_control_controller_is_a3f
/-! ### function 54, (*wayfinder/control.controller).two, where it is called -/
namespace i_control_controller_two_8df
noncomputable def c0 : Code := (Go.Proofs.Tryd.f54.body).getD .skip
noncomputable def V : Env := { tt := tt, Γ := slk [(87, f_slices_Contains_int.S)] }
theorem V_ok : EnvOk P V := { ck := tt_ck, fits := slk_cons f_slices_Contains_int.fits (slk_nil), mixed := mixed }
abbrev R := (Bool) × Unit
noncomputable def s0 (x1 : Int) (x2 : Int) (x3 : Int) (x4 : Int) (x5 : Int) (x6 : Int) (x7 : Int) (x8 : Int) (x9 : Int) (x10 : Int) (x11 : Int) (x12 : Int) (x13 : Int) (x14 : List Int) (x15 : List T713d.T) (x16 : List Int) (x17 : List Int) (x18 : Int) (x19 : T4414.T) (x20 : List (List (List T1383.T))) (x21 : List T23b6.T) (x22 : T4414.T) : St := ⟨10, [(0, .cv (.one (.ptr 1 0)))], [(.box 13, [.nils, .int .i64 x1, .int .i64 x2, .int .i64 x3, .int .i64 x4, .int .i64 x5, .int .i64 x6, .nils, .nils, .nils, .nils, .nils, .int .i64 x7]), (.box 13, [.own 3, .int .i64 x8, .int .i64 x9, .int .i64 x10, .int .i64 x11, .int .i64 x12, .int .i64 x13, .sl (.int .i64) x14 .any, .own 4, .sl T713d x15 .any, .sl (.int .i64) x16 .any, .sl (.int .i64) x17 .any, .int .i64 x18]), (.box 10, (encC .any T4414 x19)), (.buf 64 (.slice (.slice T1383)) x20, []), (.buf 50 T23b6 x21, []), (.box 10, (encC .any T4414 x22))]⟩
noncomputable def out (x1 : Int) (x2 : Int) (x3 : Int) (x4 : Int) (x5 : Int) (x6 : Int) (x7 : Int) (x8 : Int) (x9 : Int) (x10 : Int) (x11 : Int) (x12 : Int) (x13 : Int) (x14 : List Int) (x15 : List T713d.T) (x16 : List Int) (x17 : List Int) (x18 : Int) (x19 : T4414.T) (x20 : List (List (List T1383.T))) (x21 : List T23b6.T) (x22 : T4414.T) (r : R) : St := ⟨10, [(2, .cv (.one (.bool r.1)))], [(.box 13, [.nils, .int .i64 x1, .int .i64 x2, .int .i64 x3, .int .i64 x4, .int .i64 x5, .int .i64 x6, .nils, .nils, .nils, .nils, .nils, .int .i64 x7]), (.box 13, [.own 3, .int .i64 x8, .int .i64 x9, .int .i64 x10, .int .i64 x11, .int .i64 x12, .int .i64 x13, .sl (.int .i64) x14 .any, .own 4, .sl T713d x15 .any, .sl (.int .i64) x16 .any, .sl (.int .i64) x17 .any, .int .i64 x18]), (.box 10, (encC .any T4414 x19)), (.buf 64 (.slice (.slice T1383)) x20, []), (.buf 50 T23b6 x21, []), (.box 10, (encC .any T4414 x22))]⟩
abbrev Q (x1 : Int) (x2 : Int) (x3 : Int) (x4 : Int) (x5 : Int) (x6 : Int) (x7 : Int) (x8 : Int) (x9 : Int) (x10 : Int) (x11 : Int) (x12 : Int) (x13 : Int) (x14 : List Int) (x15 : List T713d.T) (x16 : List Int) (x17 : List Int) (x18 : Int) (x19 : T4414.T) (x20 : List (List (List T1383.T))) (x21 : List T23b6.T) (x22 : T4414.T) (r : R) := CallQ 6 (out x1 x2 x3 x4 x5 x6 x7 x8 x9 x10 x11 x12 x13 x14 x15 x16 x17 x18 x19 x20 x21 x22 r)
noncomputable def f (k : Nat) (x1 : Int) (x2 : Int) (x3 : Int) (x4 : Int) (x5 : Int) (x6 : Int) (x7 : Int) (x8 : Int) (x9 : Int) (x10 : Int) (x11 : Int) (x12 : Int) (x13 : Int) (x14 : List Int) (x15 : List T713d.T) (x16 : List Int) (x17 : List Int) (x18 : Int) (x19 : T4414.T) (x20 : List (List (List T1383.T))) (x21 : List T23b6.T) (x22 : T4414.T) : Option R :=
  (f_slices_Contains_int.f k [1, 2, 3] x12).bind fun y1 =>
    some (y1.1, ())
theorem f_ok {r k x1 x2 x3 x4 x5 x6 x7 x8 x9 x10 x11 x12 x13 x14 x15 x16 x17 x18 x19 x20 x21 x22} (H : f k x1 x2 x3 x4 x5 x6 x7 x8 x9 x10 x11 x12 x13 x14 x15 x16 x17 x18 x19 x20 x21 x22 = some r) : Gw P 6 (Q x1 x2 x3 x4 x5 x6 x7 x8 x9 x10 x11 x12 x13 x14 x15 x16 x17 x18 x19 x20 x21 x22 r) (Px c0 1 []) (s0 x1 x2 x3 x4 x5 x6 x7 x8 x9 x10 x11 x12 x13 x14 x15 x16 x17 x18 x19 x20 x21 x22) := by
  unfold f at H
  refine Rg V_ok 0 [] az (by kernel_rfl) ?_
  obtain ⟨y1, e2, H⟩ := of_bind H
  refine Rg V_ok 0 [(6, hr f_slices_Contains_int.S y1)] (ac (f_slices_Contains_int.rl e2) az) (by kernel_rfl) ?_
  obtain rfl := Option.some.inj H
  exact Lq {fz := [], gr := 0, ad := [], live := [2], src := [some 0, some 1, some 2, some 3, some 4, some 5]} (by kernel_rfl)
theorem ok {r k x1 x2 x3 x4 x5 x6 x7 x8 x9 x10 x11 x12 x13 x14 x15 x16 x17 x18 x19 x20 x21 x22} (H : f k x1 x2 x3 x4 x5 x6 x7 x8 x9 x10 x11 x12 x13 x14 x15 x16 x17 x18 x19 x20 x21 x22 = some r) : W P 6 c0 (s0 x1 x2 x3 x4 x5 x6 x7 x8 x9 x10 x11 x12 x13 x14 x15 x16 x17 x18 x19 x20 x21 x22) (CallQ 6 (out x1 x2 x3 x4 x5 x6 x7 x8 x9 x10 x11 x12 x13 x14 x15 x16 x17 x18 x19 x20 x21 x22 r)) := of_G (f_ok H)
theorem at_ : FnAt P 54 10 c0 Go.Proofs.Tryd.f54.results := fnAt Go.Proofs.Tryd.func54 (by kernel_rfl) (by decide) (by kernel_rfl) (by kernel_rfl)
end i_control_controller_two_8df
/-! ### function 58, (*wayfinder/control.controller).live$1, where it is called -/
namespace i_control_controller_live_1_de0
noncomputable def c0 : Code := (Go.Proofs.Tryd.f58.body).getD .skip
noncomputable def V : Env := { tt := tt, Γ := slk [] }
theorem V_ok : EnvOk P V := { ck := tt_ck, fits := slk_nil, mixed := mixed }
abbrev R := (Int) × Unit
noncomputable def s0 (x1 : T814c.T) (x2 : T814c.T) (x3 : Int) (x4 : Int) (x5 : Int) (x6 : Int) (x7 : Int) (x8 : Int) (x9 : Int) (x10 : Int) (x11 : Int) (x12 : Int) (x13 : Int) (x14 : Int) (x15 : Int) (x16 : List Int) (x17 : List T713d.T) (x18 : List Int) (x19 : List Int) (x20 : Int) (x21 : T4414.T) (x22 : List (List (List T1383.T))) (x23 : List T23b6.T) (x24 : T4414.T) (x25 : List T814c.T) : St := ⟨17, [(0, .cv (.agg [.int .i64 x1.1, .sl T1383 x1.2 .any])), (1, .cv (.agg [.int .i64 x2.1, .sl T1383 x2.2 .any]))], [(.box 13, [.nils, .int .i64 x3, .int .i64 x4, .int .i64 x5, .int .i64 x6, .int .i64 x7, .int .i64 x8, .nils, .nils, .nils, .nils, .nils, .int .i64 x9]), (.box 13, [.own 3, .int .i64 x10, .int .i64 x11, .int .i64 x12, .int .i64 x13, .int .i64 x14, .int .i64 x15, .sl (.int .i64) x16 .any, .own 4, .sl T713d x17 .any, .sl (.int .i64) x18 .any, .sl (.int .i64) x19 .any, .int .i64 x20]), (.box 10, (encC .any T4414 x21)), (.buf 64 (.slice (.slice T1383)) x22, []), (.buf 50 T23b6 x23, []), (.box 10, (encC .any T4414 x24)), (.buf 54 T814c x25, [])]⟩
noncomputable def out (x3 : Int) (x4 : Int) (x5 : Int) (x6 : Int) (x7 : Int) (x8 : Int) (x9 : Int) (x10 : Int) (x11 : Int) (x12 : Int) (x13 : Int) (x14 : Int) (x15 : Int) (x16 : List Int) (x17 : List T713d.T) (x18 : List Int) (x19 : List Int) (x20 : Int) (x21 : T4414.T) (x22 : List (List (List T1383.T))) (x23 : List T23b6.T) (x24 : T4414.T) (x25 : List T814c.T) (r : R) : St := ⟨17, [(4, .cv (.one (.int .i64 r.1)))], [(.box 13, [.nils, .int .i64 x3, .int .i64 x4, .int .i64 x5, .int .i64 x6, .int .i64 x7, .int .i64 x8, .nils, .nils, .nils, .nils, .nils, .int .i64 x9]), (.box 13, [.own 3, .int .i64 x10, .int .i64 x11, .int .i64 x12, .int .i64 x13, .int .i64 x14, .int .i64 x15, .sl (.int .i64) x16 .any, .own 4, .sl T713d x17 .any, .sl (.int .i64) x18 .any, .sl (.int .i64) x19 .any, .int .i64 x20]), (.box 10, (encC .any T4414 x21)), (.buf 64 (.slice (.slice T1383)) x22, []), (.buf 50 T23b6 x23, []), (.box 10, (encC .any T4414 x24)), (.buf 54 T814c x25, [])]⟩
abbrev Q (x3 : Int) (x4 : Int) (x5 : Int) (x6 : Int) (x7 : Int) (x8 : Int) (x9 : Int) (x10 : Int) (x11 : Int) (x12 : Int) (x13 : Int) (x14 : Int) (x15 : Int) (x16 : List Int) (x17 : List T713d.T) (x18 : List Int) (x19 : List Int) (x20 : Int) (x21 : T4414.T) (x22 : List (List (List T1383.T))) (x23 : List T23b6.T) (x24 : T4414.T) (x25 : List T814c.T) (r : R) := CallQ 7 (out x3 x4 x5 x6 x7 x8 x9 x10 x11 x12 x13 x14 x15 x16 x17 x18 x19 x20 x21 x22 x23 x24 x25 r)
noncomputable def f (k : Nat) (x1 : T814c.T) (x2 : T814c.T) (x3 : Int) (x4 : Int) (x5 : Int) (x6 : Int) (x7 : Int) (x8 : Int) (x9 : Int) (x10 : Int) (x11 : Int) (x12 : Int) (x13 : Int) (x14 : Int) (x15 : Int) (x16 : List Int) (x17 : List T713d.T) (x18 : List Int) (x19 : List Int) (x20 : Int) (x21 : T4414.T) (x22 : List (List (List T1383.T))) (x23 : List T23b6.T) (x24 : T4414.T) (x25 : List T814c.T) : Option R :=
  if (decide (x1.1 < x2.1)) = true then
    some ((-1), ())
  else
    if (decide (x1.1 > x2.1)) = true then
      some ((1 : Int), ())
    else
      some ((0 : Int), ())
theorem f_ok {r k x1 x2 x3 x4 x5 x6 x7 x8 x9 x10 x11 x12 x13 x14 x15 x16 x17 x18 x19 x20 x21 x22 x23 x24 x25} (H : f k x1 x2 x3 x4 x5 x6 x7 x8 x9 x10 x11 x12 x13 x14 x15 x16 x17 x18 x19 x20 x21 x22 x23 x24 x25 = some r) : Gw P 7 (Q x3 x4 x5 x6 x7 x8 x9 x10 x11 x12 x13 x14 x15 x16 x17 x18 x19 x20 x21 x22 x23 x24 x25 r) (Px c0 1 []) (s0 x1 x2 x3 x4 x5 x6 x7 x8 x9 x10 x11 x12 x13 x14 x15 x16 x17 x18 x19 x20 x21 x22 x23 x24 x25) := by
  unfold f at H
  refine Rg V_ok 2 [(0, hb 7), (1, hb 8)] az (by kernel_rfl) ?_
  refine Rg V_ok 0 [] az (by kernel_rfl) ?_
  rcases of_ite H with ⟨hb1, H⟩ | ⟨hb1, H⟩
  · refine C1 hb1 (by kernel_rfl) ?_
    refine Rg V_ok 0 [] az (by kernel_rfl) ?_
    obtain rfl := Option.some.inj H
    exact Lq {fz := [], gr := 0, ad := [], live := [4], src := [some 0, some 1, some 2, some 3, some 4, some 5, some 6]} (by kernel_rfl)
  · refine C0 hb1 (by kernel_rfl) ?_
    refine Rg V_ok 0 [] az (by kernel_rfl) ?_
    rcases of_ite H with ⟨hb2, H⟩ | ⟨hb2, H⟩
    · refine C1 hb2 (by kernel_rfl) ?_
      refine Rg V_ok 0 [] az (by kernel_rfl) ?_
      obtain rfl := Option.some.inj H
      exact Lq {fz := [], gr := 0, ad := [], live := [4], src := [some 0, some 1, some 2, some 3, some 4, some 5, some 6]} (by kernel_rfl)
    · refine C0 hb2 (by kernel_rfl) ?_
      refine Rg V_ok 0 [] az (by kernel_rfl) ?_
      obtain rfl := Option.some.inj H
      exact Lq {fz := [], gr := 0, ad := [], live := [4], src := [some 0, some 1, some 2, some 3, some 4, some 5, some 6]} (by kernel_rfl)
theorem ok {r k x1 x2 x3 x4 x5 x6 x7 x8 x9 x10 x11 x12 x13 x14 x15 x16 x17 x18 x19 x20 x21 x22 x23 x24 x25} (H : f k x1 x2 x3 x4 x5 x6 x7 x8 x9 x10 x11 x12 x13 x14 x15 x16 x17 x18 x19 x20 x21 x22 x23 x24 x25 = some r) : W P 7 c0 (s0 x1 x2 x3 x4 x5 x6 x7 x8 x9 x10 x11 x12 x13 x14 x15 x16 x17 x18 x19 x20 x21 x22 x23 x24 x25) (CallQ 7 (out x3 x4 x5 x6 x7 x8 x9 x10 x11 x12 x13 x14 x15 x16 x17 x18 x19 x20 x21 x22 x23 x24 x25 r)) := of_G (f_ok H)
theorem at_ : FnAt P 58 17 c0 Go.Proofs.Tryd.f58.results := fnAt Go.Proofs.Tryd.func58 (by kernel_rfl) (by decide) (by kernel_rfl) (by kernel_rfl)
end i_control_controller_live_1_de0
/-! ### function 104, slices.insertionSortCmpFunc[wayfinder/api.Ver], where it is called -/
namespace i_slices_insertionSortCmpFunc_Ver_603
noncomputable def c0 : Code := (Go.Proofs.Tryd.f104.body).getD .skip
noncomputable def V : Env := { tt := tt, Γ := slk [] }
theorem V_ok : EnvOk P V := { ck := tt_ck, fits := slk_nil, mixed := mixed }
abbrev R := (List T814c.T) × Unit
noncomputable def s0 (x1 : Int) (x2 : Int) (x3 : Int) (x4 : Int) (x5 : Int) (x6 : Int) (x7 : Int) (x8 : Int) (x9 : Int) (x10 : Int) (x11 : Int) (x12 : Int) (x13 : Int) (x14 : Int) (x15 : Int) (x16 : List Int) (x17 : List T713d.T) (x18 : List Int) (x19 : List Int) (x20 : Int) (x21 : T4414.T) (x22 : List (List (List T1383.T))) (x23 : List T23b6.T) (x24 : T4414.T) (x25 : List T814c.T) : St := ⟨53, [(0, .cv (.one (.own 6))), (1, .cv (.one (.int .i64 x1))), (2, .cv (.one (.int .i64 x2))), (3, .cv (.one (.fn 58 [] [])))], [(.box 13, [.nils, .int .i64 x3, .int .i64 x4, .int .i64 x5, .int .i64 x6, .int .i64 x7, .int .i64 x8, .nils, .nils, .nils, .nils, .nils, .int .i64 x9]), (.box 13, [.own 3, .int .i64 x10, .int .i64 x11, .int .i64 x12, .int .i64 x13, .int .i64 x14, .int .i64 x15, .sl (.int .i64) x16 .any, .own 4, .sl T713d x17 .any, .sl (.int .i64) x18 .any, .sl (.int .i64) x19 .any, .int .i64 x20]), (.box 10, (encC .any T4414 x21)), (.buf 64 (.slice (.slice T1383)) x22, []), (.buf 50 T23b6 x23, []), (.box 10, (encC .any T4414 x24)), (.buf 54 T814c x25, [])]⟩
noncomputable def out (x3 : Int) (x4 : Int) (x5 : Int) (x6 : Int) (x7 : Int) (x8 : Int) (x9 : Int) (x10 : Int) (x11 : Int) (x12 : Int) (x13 : Int) (x14 : Int) (x15 : Int) (x16 : List Int) (x17 : List T713d.T) (x18 : List Int) (x19 : List Int) (x20 : Int) (x21 : T4414.T) (x22 : List (List (List T1383.T))) (x23 : List T23b6.T) (x24 : T4414.T) (r : R) : St := ⟨53, [], [(.box 13, [.nils, .int .i64 x3, .int .i64 x4, .int .i64 x5, .int .i64 x6, .int .i64 x7, .int .i64 x8, .nils, .nils, .nils, .nils, .nils, .int .i64 x9]), (.box 13, [.own 3, .int .i64 x10, .int .i64 x11, .int .i64 x12, .int .i64 x13, .int .i64 x14, .int .i64 x15, .sl (.int .i64) x16 .any, .own 4, .sl T713d x17 .any, .sl (.int .i64) x18 .any, .sl (.int .i64) x19 .any, .int .i64 x20]), (.box 10, (encC .any T4414 x21)), (.buf 64 (.slice (.slice T1383)) x22, []), (.buf 50 T23b6 x23, []), (.box 10, (encC .any T4414 x24)), (.buf 54 T814c r.1, [])]⟩
abbrev Q (x3 : Int) (x4 : Int) (x5 : Int) (x6 : Int) (x7 : Int) (x8 : Int) (x9 : Int) (x10 : Int) (x11 : Int) (x12 : Int) (x13 : Int) (x14 : Int) (x15 : Int) (x16 : List Int) (x17 : List T713d.T) (x18 : List Int) (x19 : List Int) (x20 : Int) (x21 : T4414.T) (x22 : List (List (List T1383.T))) (x23 : List T23b6.T) (x24 : T4414.T) (r : R) := CallQ 7 (out x3 x4 x5 x6 x7 x8 x9 x10 x11 x12 x13 x14 x15 x16 x17 x18 x19 x20 x21 x22 x23 x24 r)
noncomputable def s1 (x1 : Int) (x2 : Int) (x3 : Int) (x4 : Int) (x5 : Int) (x6 : Int) (x7 : Int) (x8 : Int) (x9 : Int) (x10 : Int) (x11 : Int) (x12 : Int) (x13 : Int) (x14 : Int) (x15 : Int) (x16 : List Int) (x17 : List T713d.T) (x18 : List Int) (x19 : List Int) (x20 : Int) (x21 : T4414.T) (x22 : List (List (List T1383.T))) (x23 : List T23b6.T) (x24 : T4414.T) (p3 : Int) (p26 : List T814c.T) : St := ⟨53, [(0, .cv (.one (.own 6))), (1, .cv (.one (.int .i64 x1))), (2, .cv (.one (.int .i64 x2))), (3, .cv (.one (.fn 58 [] []))), (8, .cv (.one (.int .i64 p3)))], [(.box 13, [.nils, .int .i64 x3, .int .i64 x4, .int .i64 x5, .int .i64 x6, .int .i64 x7, .int .i64 x8, .nils, .nils, .nils, .nils, .nils, .int .i64 x9]), (.box 13, [.own 3, .int .i64 x10, .int .i64 x11, .int .i64 x12, .int .i64 x13, .int .i64 x14, .int .i64 x15, .sl (.int .i64) x16 .any, .own 4, .sl T713d x17 .any, .sl (.int .i64) x18 .any, .sl (.int .i64) x19 .any, .int .i64 x20]), (.box 10, (encC .any T4414 x21)), (.buf 64 (.slice (.slice T1383)) x22, []), (.buf 50 T23b6 x23, []), (.box 10, (encC .any T4414 x24)), (.buf 54 T814c p26, [])]⟩
noncomputable def s2 (x1 : Int) (x2 : Int) (x3 : Int) (x4 : Int) (x5 : Int) (x6 : Int) (x7 : Int) (x8 : Int) (x9 : Int) (x10 : Int) (x11 : Int) (x12 : Int) (x13 : Int) (x14 : Int) (x15 : Int) (x16 : List Int) (x17 : List T713d.T) (x18 : List Int) (x19 : List Int) (x20 : Int) (x21 : T4414.T) (x22 : List (List (List T1383.T))) (x23 : List T23b6.T) (x24 : T4414.T) (p3 : Int) (p4 : Int) (p27 : List T814c.T) : St := ⟨53, [(0, .cv (.one (.own 6))), (1, .cv (.one (.int .i64 x1))), (2, .cv (.one (.int .i64 x2))), (3, .cv (.one (.fn 58 [] []))), (8, .cv (.one (.int .i64 p3))), (9, .cv (.one (.int .i64 p4)))], [(.box 13, [.nils, .int .i64 x3, .int .i64 x4, .int .i64 x5, .int .i64 x6, .int .i64 x7, .int .i64 x8, .nils, .nils, .nils, .nils, .nils, .int .i64 x9]), (.box 13, [.own 3, .int .i64 x10, .int .i64 x11, .int .i64 x12, .int .i64 x13, .int .i64 x14, .int .i64 x15, .sl (.int .i64) x16 .any, .own 4, .sl T713d x17 .any, .sl (.int .i64) x18 .any, .sl (.int .i64) x19 .any, .int .i64 x20]), (.box 10, (encC .any T4414 x21)), (.buf 64 (.slice (.slice T1383)) x22, []), (.buf 50 T23b6 x23, []), (.box 10, (encC .any T4414 x24)), (.buf 54 T814c p27, [])]⟩
noncomputable def s3 (x1 : Int) (x2 : Int) (x3 : Int) (x4 : Int) (x5 : Int) (x6 : Int) (x7 : Int) (x8 : Int) (x9 : Int) (x10 : Int) (x11 : Int) (x12 : Int) (x13 : Int) (x14 : Int) (x15 : Int) (x16 : List Int) (x17 : List T713d.T) (x18 : List Int) (x19 : List Int) (x20 : Int) (x21 : T4414.T) (x22 : List (List (List T1383.T))) (x23 : List T23b6.T) (x24 : T4414.T) (p3 : Int) (p4 : Int) (p5 : Bool) (p28 : List T814c.T) : St := ⟨53, [(0, .cv (.one (.own 6))), (1, .cv (.one (.int .i64 x1))), (2, .cv (.one (.int .i64 x2))), (3, .cv (.one (.fn 58 [] []))), (8, .cv (.one (.int .i64 p3))), (9, .cv (.one (.int .i64 p4))), (34, .cv (.one (.bool p5)))], [(.box 13, [.nils, .int .i64 x3, .int .i64 x4, .int .i64 x5, .int .i64 x6, .int .i64 x7, .int .i64 x8, .nils, .nils, .nils, .nils, .nils, .int .i64 x9]), (.box 13, [.own 3, .int .i64 x10, .int .i64 x11, .int .i64 x12, .int .i64 x13, .int .i64 x14, .int .i64 x15, .sl (.int .i64) x16 .any, .own 4, .sl T713d x17 .any, .sl (.int .i64) x18 .any, .sl (.int .i64) x19 .any, .int .i64 x20]), (.box 10, (encC .any T4414 x21)), (.buf 64 (.slice (.slice T1383)) x22, []), (.buf 50 T23b6 x23, []), (.box 10, (encC .any T4414 x24)), (.buf 54 T814c p28, [])]⟩
noncomputable def j3 (x1 : Int) (x2 : Int) (x3 : Int) (x4 : Int) (x5 : Int) (x6 : Int) (x7 : Int) (x8 : Int) (x9 : Int) (x10 : Int) (x11 : Int) (x12 : Int) (x13 : Int) (x14 : Int) (x15 : Int) (x16 : List Int) (x17 : List T713d.T) (x18 : List Int) (x19 : List Int) (x20 : Int) (x21 : T4414.T) (x22 : List (List (List T1383.T))) (x23 : List T23b6.T) (x24 : T4414.T) (L1 : Int → List T814c.T → Option R) (L2 : Int → Int → List T814c.T → Option R) (k : Nat) (p3 : Int) (p4 : Int) (p5 : Bool) (p28 : List T814c.T) : Option R :=
  if p5 = true then
  if 0 ≤ (IntKind.i64.wrap (p4 - 1)) then
    if (IntKind.i64.wrap (p4 - 1)) < (p28.length : Int) then
      if 0 ≤ p4 then
        if p4 < (p28.length : Int) then
          if (IntKind.i64.wrap (p4 - 1)) < ((p28.set p4.toNat (att T814c p28 (IntKind.i64.wrap (p4 - 1)))).length : Int) then
            L2 p3 (IntKind.i64.wrap (p4 - 1)) ((p28.set p4.toNat (att T814c p28 (IntKind.i64.wrap (p4 - 1)))).set (IntKind.i64.wrap (p4 - 1)).toNat (att T814c p28 p4))
          else none
        else none
      else none
    else none
  else none
else
  L1 (IntKind.i64.wrap (p3 + 1)) p28
theorem j3_ok {r x1 x2 x3 x4 x5 x6 x7 x8 x9 x10 x11 x12 x13 x14 x15 x16 x17 x18 x19 x20 x21 x22 x23 x24} {L1 : Int → List T814c.T → Option R} {m1 : Nat} (hL1 : ∀ p3 p26, L1 p3 p26 = some r → Gw P 7 (Q x3 x4 x5 x6 x7 x8 x9 x10 x11 x12 x13 x14 x15 x16 x17 x18 x19 x20 x21 x22 x23 x24 r) (Pb c0 5 [] m1) (s1 x1 x2 x3 x4 x5 x6 x7 x8 x9 x10 x11 x12 x13 x14 x15 x16 x17 x18 x19 x20 x21 x22 x23 x24 p3 p26)) {L2 : Int → Int → List T814c.T → Option R} {m2 : Nat} (hL2 : ∀ p3 p4 p27, L2 p3 p4 p27 = some r → Gw P 7 (Q x3 x4 x5 x6 x7 x8 x9 x10 x11 x12 x13 x14 x15 x16 x17 x18 x19 x20 x21 x22 x23 x24 r) (Pb c0 329 [m1] m2) (s2 x1 x2 x3 x4 x5 x6 x7 x8 x9 x10 x11 x12 x13 x14 x15 x16 x17 x18 x19 x20 x21 x22 x23 x24 p3 p4 p27)) {k p3 p4 p5 p28} (H : j3 x1 x2 x3 x4 x5 x6 x7 x8 x9 x10 x11 x12 x13 x14 x15 x16 x17 x18 x19 x20 x21 x22 x23 x24 L1 L2 k p3 p4 p5 p28 = some r) : Gw P 7 (Q x3 x4 x5 x6 x7 x8 x9 x10 x11 x12 x13 x14 x15 x16 x17 x18 x19 x20 x21 x22 x23 x24 r) (Px c0 3145 [m1, m2]) (s3 x1 x2 x3 x4 x5 x6 x7 x8 x9 x10 x11 x12 x13 x14 x15 x16 x17 x18 x19 x20 x21 x22 x23 x24 p3 p4 p5 p28) := by
  unfold j3 at H
  rcases of_ite H with ⟨hb9, H⟩ | ⟨hb9, H⟩
  · refine C1 hb9 (by kernel_rfl) ?_
    obtain ⟨n10, H⟩ := of_if H
    obtain ⟨n11, H⟩ := of_if H
    obtain ⟨n12, H⟩ := of_if H
    obtain ⟨n13, H⟩ := of_if H
    obtain ⟨n14, H⟩ := of_if H
    refine Rg V_ok 0 [] (ac n10 (ac n11 (ac n12 (ac n13 (ac n12 (ac n13 (ac n10 (ac n14 az)))))))) (by kernel_rfl) ?_
    refine Rg V_ok 0 [] az (by kernel_rfl) ?_
    exact Jm {fz := [], gr := 0, ad := [], live := [0, 1, 2, 3, 8, 9], src := [some 0, some 1, some 2, some 3, some 4, some 5, some 6]} (by kernel_rfl) (by kernel_rfl) (hL2 p3 (IntKind.i64.wrap (p4 - 1)) ((p28.set p4.toNat (att T814c p28 (IntKind.i64.wrap (p4 - 1)))).set (IntKind.i64.wrap (p4 - 1)).toNat (att T814c p28 p4)) H)
  · refine C0 hb9 (by kernel_rfl) ?_
    refine Rg V_ok 0 [] az (by kernel_rfl) ?_
    exact Jm {fz := [], gr := 0, ad := [], live := [0, 1, 2, 3, 8], src := [some 0, some 1, some 2, some 3, some 4, some 5, some 6]} (by kernel_rfl) (by kernel_rfl) (hL1 (IntKind.i64.wrap (p3 + 1)) p28 H)
noncomputable def b2 (x1 : Int) (x2 : Int) (x3 : Int) (x4 : Int) (x5 : Int) (x6 : Int) (x7 : Int) (x8 : Int) (x9 : Int) (x10 : Int) (x11 : Int) (x12 : Int) (x13 : Int) (x14 : Int) (x15 : Int) (x16 : List Int) (x17 : List T713d.T) (x18 : List Int) (x19 : List Int) (x20 : Int) (x21 : T4414.T) (x22 : List (List (List T1383.T))) (x23 : List T23b6.T) (x24 : T4414.T) (L1 : Int → List T814c.T → Option R) (L2 : Int → Int → List T814c.T → Option R) (k : Nat) (p3 : Int) (p4 : Int) (p27 : List T814c.T) : Option R :=
  if (decide (p4 > x1)) = true then
  if 0 ≤ p4 then
    if p4 < (p27.length : Int) then
      if 0 ≤ (IntKind.i64.wrap (p4 - 1)) then
        if (IntKind.i64.wrap (p4 - 1)) < (p27.length : Int) then
          (i_control_controller_live_1_de0.f k (att T814c p27 p4) (att T814c p27 (IntKind.i64.wrap (p4 - 1))) x3 x4 x5 x6 x7 x8 x9 x10 x11 x12 x13 x14 x15 x16 x17 x18 x19 x20 x21 x22 x23 x24 p27).bind fun y7 =>
            j3 x1 x2 x3 x4 x5 x6 x7 x8 x9 x10 x11 x12 x13 x14 x15 x16 x17 x18 x19 x20 x21 x22 x23 x24 L1 L2 k p3 p4 (decide (y7.1 < (0 : Int))) p27
        else none
      else none
    else none
  else none
else
  j3 x1 x2 x3 x4 x5 x6 x7 x8 x9 x10 x11 x12 x13 x14 x15 x16 x17 x18 x19 x20 x21 x22 x23 x24 L1 L2 k p3 p4 false p27
theorem b2_ok {r x1 x2 x3 x4 x5 x6 x7 x8 x9 x10 x11 x12 x13 x14 x15 x16 x17 x18 x19 x20 x21 x22 x23 x24} {L1 : Int → List T814c.T → Option R} {m1 : Nat} (hL1 : ∀ p3 p26, L1 p3 p26 = some r → Gw P 7 (Q x3 x4 x5 x6 x7 x8 x9 x10 x11 x12 x13 x14 x15 x16 x17 x18 x19 x20 x21 x22 x23 x24 r) (Pb c0 5 [] m1) (s1 x1 x2 x3 x4 x5 x6 x7 x8 x9 x10 x11 x12 x13 x14 x15 x16 x17 x18 x19 x20 x21 x22 x23 x24 p3 p26)) {L2 : Int → Int → List T814c.T → Option R} {m2 : Nat} (hL2 : ∀ p3 p4 p27, L2 p3 p4 p27 = some r → Gw P 7 (Q x3 x4 x5 x6 x7 x8 x9 x10 x11 x12 x13 x14 x15 x16 x17 x18 x19 x20 x21 x22 x23 x24 r) (Pb c0 329 [m1] m2) (s2 x1 x2 x3 x4 x5 x6 x7 x8 x9 x10 x11 x12 x13 x14 x15 x16 x17 x18 x19 x20 x21 x22 x23 x24 p3 p4 p27)) {k p3 p4 p27} (H : b2 x1 x2 x3 x4 x5 x6 x7 x8 x9 x10 x11 x12 x13 x14 x15 x16 x17 x18 x19 x20 x21 x22 x23 x24 L1 L2 k p3 p4 p27 = some r) : Gw P 7 (Q x3 x4 x5 x6 x7 x8 x9 x10 x11 x12 x13 x14 x15 x16 x17 x18 x19 x20 x21 x22 x23 x24 r) (Px c0 585 [m1, m2]) (s2 x1 x2 x3 x4 x5 x6 x7 x8 x9 x10 x11 x12 x13 x14 x15 x16 x17 x18 x19 x20 x21 x22 x23 x24 p3 p4 p27) := by
  unfold b2 at H
  rcases of_ite H with ⟨hb2, H⟩ | ⟨hb2, H⟩
  · obtain ⟨n3, H⟩ := of_if H
    obtain ⟨n4, H⟩ := of_if H
    obtain ⟨n5, H⟩ := of_if H
    obtain ⟨n6, H⟩ := of_if H
    obtain ⟨y7, e8, H⟩ := of_bind H
    let x : Nx := (Px c0 2121 [m1, m2])
    let t0 : St := ⟨53, [(0, .cv (.one (.own 6))), (1, .cv (.one (.int .i64 x1))), (2, .cv (.one (.int .i64 x2))), (3, .cv (.one (.fn 58 [] []))), (8, .cv (.one (.int .i64 p3))), (9, .cv (.one (.int .i64 p4)))], [(.box 13, [.nils, .int .i64 x3, .int .i64 x4, .int .i64 x5, .int .i64 x6, .int .i64 x7, .int .i64 x8, .nils, .nils, .nils, .nils, .nils, .int .i64 x9]), (.box 13, [.own 3, .int .i64 x10, .int .i64 x11, .int .i64 x12, .int .i64 x13, .int .i64 x14, .int .i64 x15, .sl (.int .i64) x16 .any, .own 4, .sl T713d x17 .any, .sl (.int .i64) x18 .any, .sl (.int .i64) x19 .any, .int .i64 x20]), (.box 10, (encC .any T4414 x21)), (.buf 64 (.slice (.slice T1383)) x22, []), (.buf 50 T23b6 x23, []), (.box 10, (encC .any T4414 x24)), (.buf 54 T814c p27, [])]⟩
    refine Jm (x' := x) (τ := t0) {live := [0, 1, 2, 3, 8, 9], src := [some 0, some 1, some 2, some 3, some 4, some 5, some 6]} (by kernel_rfl) (by kernel_rfl) ?_
    let Φ := phiX P 7 (Q x3 x4 x5 x6 x7 x8 x9 x10 x11 x12 x13 x14 x15 x16 x17 x18 x19 x20 x21 x22 x23 x24 r) x
    let t1 : St := stpS V x 0 [] 0 (tl [0, 1, 2, 3, 8, 9, 18] [0, 1, 2, 3, 4, 5, 6]) t0
    let t2 : St := stpS V x 0 [] 1 (tl [0, 1, 2, 3, 8, 9, 18, 19] [0, 1, 2, 3, 4, 5, 6]) t1
    let t3 : St := stpS V x 0 [] 2 (tl [0, 1, 2, 3, 8, 9, 20] [0, 1, 2, 3, 4, 5, 6]) t2
    let t4 : St := stpS V x 0 [(3, {bv := some true})] 3 (tl [0, 1, 2, 3, 8, 9, 21] [0, 1, 2, 3, 4, 5, 6]) t3
    let t5 : St := stpS V x 0 [] 4 (tl [0, 1, 2, 3, 8, 9, 21, 22] [0, 1, 2, 3, 4, 5, 6]) t4
    let t6 : St := stpS V x 0 [] 5 (tl [0, 1, 2, 3, 8, 9, 21, 22, 23] [0, 1, 2, 3, 4, 5, 6]) t5
    let t7 : St := stpS V x 0 [] 6 (tl [0, 1, 2, 3, 8, 9, 21, 22, 23, 24] [0, 1, 2, 3, 4, 5, 6]) t6
    let t8 : St := stpS V x 0 [] 9 (tl [0, 1, 2, 3, 8, 9, 21, 22, 23, 24, 27] [0, 1, 2, 3, 4, 5, 6]) t7
    let t9 : St := stpS V x 0 [] 10 (tl [0, 1, 2, 3, 8, 9, 21, 22, 23, 24, 27, 28] [0, 1, 2, 3, 4, 5, 6]) t8
    let t10 : St := stpS V x 0 [] 7 (tl [0, 1, 2, 3, 8, 9, 21, 22, 25, 27, 28] [0, 1, 2, 3, 4, 5, 6]) t9
    let t11 : St := stpS V x 0 [] 11 (tl [0, 1, 2, 3, 8, 9, 21, 22, 23, 24, 27, 29] [0, 1, 2, 3, 4, 5, 6]) t9
    let t12 : St := stpS V x 0 [] 8 (tl [0, 1, 2, 3, 8, 9, 21, 22, 26, 27, 28] [0, 1, 2, 3, 4, 5, 6]) t10
    let t13 : St := stpS V x 0 [] 11 (tl [0, 1, 2, 3, 8, 9, 21, 22, 25, 27, 29] [0, 1, 2, 3, 4, 5, 6]) t10
    let t14 : St := stpS V x 0 [] 12 (tl [0, 1, 2, 3, 8, 9, 21, 22, 23, 24, 30] [0, 1, 2, 3, 4, 5, 6]) t11
    let t15 : St := stpS V x 0 [] 11 (tl [0, 1, 2, 3, 8, 9, 21, 22, 26, 27, 29] [0, 1, 2, 3, 4, 5, 6]) t12
    let t16 : St := stpS V x 0 [] 12 (tl [0, 1, 2, 3, 8, 9, 21, 22, 25, 30] [0, 1, 2, 3, 4, 5, 6]) t13
    let t17 : St := stpS V x 0 [] 13 (tl [0, 1, 2, 3, 8, 9, 21, 22, 23, 24, 31] [0, 1, 2, 3, 4, 5, 6]) t14
    let t18 : St := stpS V x 0 [] 12 (tl [0, 1, 2, 3, 8, 9, 21, 22, 26, 30] [0, 1, 2, 3, 4, 5, 6]) t15
    let t19 : St := stpS V x 0 [] 13 (tl [0, 1, 2, 3, 8, 9, 21, 22, 25, 31] [0, 1, 2, 3, 4, 5, 6]) t16
    let t20 : St := stpS V x 0 [] 13 (tl [0, 1, 2, 3, 8, 9, 21, 22, 26, 31] [0, 1, 2, 3, 4, 5, 6]) t18
    let t21 : St := clT V.tt x 14 Go.Proofs.Tryd.f58.results (tl [0, 1, 2, 3, 8, 9, 21, 32] [0, 1, 2, 3, 4, 5, 6]) t20 (i_control_controller_live_1_de0.out x3 x4 x5 x6 x7 x8 x9 x10 x11 x12 x13 x14 x15 x16 x17 x18 x19 x20 x21 x22 x23 x24 p27 y7)
    let t22 : St := stpS V x 0 [] 15 (tl [0, 1, 2, 3, 8, 9, 21, 33] [0, 1, 2, 3, 4, 5, 6]) t21
    let t23 : St := stpS V x 0 [] 16 (tl [0, 1, 2, 3, 8, 9, 34] [0, 1, 2, 3, 4, 5, 6]) t22
    have w23 : WA P 7 (opsX x) 0 (bs 17 131071) Φ t23 := by
      refine WA_nil (by kernel_rfl) (RAn (by kernel_rfl) ?_)
      exact Jm {fz := [], gr := 0, ad := [], live := [0, 1, 2, 3, 8, 9, 34], src := [some 0, some 1, some 2, some 3, some 4, some 5, some 6]} (by kernel_rfl) (by kernel_rfl) (j3_ok hL1 hL2 H)
    have w22 : WA P 7 (opsX x) 1 (bs 17 65535) Φ t22 := WAs (an (WE V_ok 0 [] 16 (tl [0, 1, 2, 3, 8, 9, 34] [0, 1, 2, 3, 4, 5, 6]) az w23 (by kernel_rfl) (by kernel_rfl) (by kernel_rfl)) aN) (by kernel_rfl) rfl
    have w21 : WA P 7 (opsX x) 2 (bs 17 32767) Φ t21 := WAs (an (WE V_ok 0 [] 15 (tl [0, 1, 2, 3, 8, 9, 21, 33] [0, 1, 2, 3, 4, 5, 6]) az w22 (by kernel_rfl) (by kernel_rfl) (by kernel_rfl)) aN) (by kernel_rfl) rfl
    have w20 : WA P 7 (opsX x) 3 (bs 17 16383) Φ t20 := WAs (an (WC V_ok 14 (tl [0, 1, 2, 3, 8, 9, 21, 32] [0, 1, 2, 3, 4, 5, 6]) i_control_controller_live_1_de0.at_ (i_control_controller_live_1_de0.ok e8) w21 (by kernel_rfl) (by kernel_rfl) (by kernel_rfl) (by kernel_rfl) (by kernel_rfl)) aN) (by kernel_rfl) rfl
    have w19 : WA P 7 (opsX x) 4 (bs 17 16127) Φ t19 := WAs (an (WE V_ok 0 [] 8 (tl [0, 1, 2, 3, 8, 9, 21, 22, 26, 31] [0, 1, 2, 3, 4, 5, 6]) az w20 (by kernel_rfl) (by kernel_rfl) (by kernel_rfl)) aN) (by kernel_rfl) rfl
    have w18 : WA P 7 (opsX x) 4 (bs 17 8191) Φ t18 := WAs (an (WE V_ok 0 [] 13 (tl [0, 1, 2, 3, 8, 9, 21, 22, 26, 31] [0, 1, 2, 3, 4, 5, 6]) az w20 (by kernel_rfl) (by kernel_rfl) (by kernel_rfl)) aN) (by kernel_rfl) rfl
    have w17 : WA P 7 (opsX x) 5 (bs 17 15999) Φ t17 := WAs (an (WE V_ok 0 [] 7 (tl [0, 1, 2, 3, 8, 9, 21, 22, 25, 31] [0, 1, 2, 3, 4, 5, 6]) (ac n3 (ac n4 az)) w19 (by kernel_rfl) (by kernel_rfl) (by kernel_rfl)) aN) (by kernel_rfl) rfl
    have w16 : WA P 7 (opsX x) 5 (bs 17 7935) Φ t16 := WAs (an (WE V_ok 0 [] 8 (tl [0, 1, 2, 3, 8, 9, 21, 22, 26, 30] [0, 1, 2, 3, 4, 5, 6]) az w18 (by kernel_rfl) (by kernel_rfl) (by kernel_rfl)) (an (WE V_ok 0 [] 13 (tl [0, 1, 2, 3, 8, 9, 21, 22, 25, 31] [0, 1, 2, 3, 4, 5, 6]) az w19 (by kernel_rfl) (by kernel_rfl) (by kernel_rfl)) aN)) (by kernel_rfl) rfl
    have w15 : WA P 7 (opsX x) 5 (bs 17 4095) Φ t15 := WAs (an (WE V_ok 0 [] 12 (tl [0, 1, 2, 3, 8, 9, 21, 22, 26, 30] [0, 1, 2, 3, 4, 5, 6]) (ac n5 (ac n6 az)) w18 (by kernel_rfl) (by kernel_rfl) (by kernel_rfl)) aN) (by kernel_rfl) rfl
    have w14 : WA P 7 (opsX x) 6 (bs 17 7807) Φ t14 := WAs (an (WE V_ok 0 [] 7 (tl [0, 1, 2, 3, 8, 9, 21, 22, 25, 30] [0, 1, 2, 3, 4, 5, 6]) (ac n3 (ac n4 az)) w16 (by kernel_rfl) (by kernel_rfl) (by kernel_rfl)) (an (WE V_ok 0 [] 13 (tl [0, 1, 2, 3, 8, 9, 21, 22, 23, 24, 31] [0, 1, 2, 3, 4, 5, 6]) az w17 (by kernel_rfl) (by kernel_rfl) (by kernel_rfl)) aN)) (by kernel_rfl) rfl
    have w13 : WA P 7 (opsX x) 6 (bs 17 3839) Φ t13 := WAs (an (WE V_ok 0 [] 8 (tl [0, 1, 2, 3, 8, 9, 21, 22, 26, 27, 29] [0, 1, 2, 3, 4, 5, 6]) az w15 (by kernel_rfl) (by kernel_rfl) (by kernel_rfl)) (an (WE V_ok 0 [] 12 (tl [0, 1, 2, 3, 8, 9, 21, 22, 25, 30] [0, 1, 2, 3, 4, 5, 6]) (ac n5 (ac n6 az)) w16 (by kernel_rfl) (by kernel_rfl) (by kernel_rfl)) aN)) (by kernel_rfl) rfl
    have w12 : WA P 7 (opsX x) 6 (bs 17 2047) Φ t12 := WAs (an (WE V_ok 0 [] 11 (tl [0, 1, 2, 3, 8, 9, 21, 22, 26, 27, 29] [0, 1, 2, 3, 4, 5, 6]) az w15 (by kernel_rfl) (by kernel_rfl) (by kernel_rfl)) aN) (by kernel_rfl) rfl
    have w11 : WA P 7 (opsX x) 7 (bs 17 3711) Φ t11 := WAs (an (WE V_ok 0 [] 7 (tl [0, 1, 2, 3, 8, 9, 21, 22, 25, 27, 29] [0, 1, 2, 3, 4, 5, 6]) (ac n3 (ac n4 az)) w13 (by kernel_rfl) (by kernel_rfl) (by kernel_rfl)) (an (WE V_ok 0 [] 12 (tl [0, 1, 2, 3, 8, 9, 21, 22, 23, 24, 30] [0, 1, 2, 3, 4, 5, 6]) (ac n5 (ac n6 az)) w14 (by kernel_rfl) (by kernel_rfl) (by kernel_rfl)) aN)) (by kernel_rfl) rfl
    have w10 : WA P 7 (opsX x) 7 (bs 17 1791) Φ t10 := WAs (an (WE V_ok 0 [] 8 (tl [0, 1, 2, 3, 8, 9, 21, 22, 26, 27, 28] [0, 1, 2, 3, 4, 5, 6]) az w12 (by kernel_rfl) (by kernel_rfl) (by kernel_rfl)) (an (WE V_ok 0 [] 11 (tl [0, 1, 2, 3, 8, 9, 21, 22, 25, 27, 29] [0, 1, 2, 3, 4, 5, 6]) az w13 (by kernel_rfl) (by kernel_rfl) (by kernel_rfl)) aN)) (by kernel_rfl) rfl
    have w9 : WA P 7 (opsX x) 8 (bs 17 1663) Φ t9 := WAs (an (WE V_ok 0 [] 7 (tl [0, 1, 2, 3, 8, 9, 21, 22, 25, 27, 28] [0, 1, 2, 3, 4, 5, 6]) (ac n3 (ac n4 az)) w10 (by kernel_rfl) (by kernel_rfl) (by kernel_rfl)) (an (WE V_ok 0 [] 11 (tl [0, 1, 2, 3, 8, 9, 21, 22, 23, 24, 27, 29] [0, 1, 2, 3, 4, 5, 6]) az w11 (by kernel_rfl) (by kernel_rfl) (by kernel_rfl)) aN)) (by kernel_rfl) rfl
    have w8 : WA P 7 (opsX x) 9 (bs 17 639) Φ t8 := WT V_ok [] 10 (tl [0, 1, 2, 3, 8, 9, 21, 22, 23, 24, 27, 28] [0, 1, 2, 3, 4, 5, 6]) az w9 (by kernel_rfl) (by kernel_rfl) (by kernel_rfl) (by kernel_rfl)
    have w7 : WA P 7 (opsX x) 10 (bs 17 127) Φ t7 := WT V_ok [] 9 (tl [0, 1, 2, 3, 8, 9, 21, 22, 23, 24, 27] [0, 1, 2, 3, 4, 5, 6]) az w8 (by kernel_rfl) (by kernel_rfl) (by kernel_rfl) (by kernel_rfl)
    have w6 : WA P 7 (opsX x) 11 (bs 17 63) Φ t6 := WT V_ok [] 6 (tl [0, 1, 2, 3, 8, 9, 21, 22, 23, 24] [0, 1, 2, 3, 4, 5, 6]) az w7 (by kernel_rfl) (by kernel_rfl) (by kernel_rfl) (by kernel_rfl)
    have w5 : WA P 7 (opsX x) 12 (bs 17 31) Φ t5 := WT V_ok [] 5 (tl [0, 1, 2, 3, 8, 9, 21, 22, 23] [0, 1, 2, 3, 4, 5, 6]) az w6 (by kernel_rfl) (by kernel_rfl) (by kernel_rfl) (by kernel_rfl)
    have w4 : WA P 7 (opsX x) 13 (bs 17 15) Φ t4 := WT V_ok [] 4 (tl [0, 1, 2, 3, 8, 9, 21, 22] [0, 1, 2, 3, 4, 5, 6]) az w5 (by kernel_rfl) (by kernel_rfl) (by kernel_rfl) (by kernel_rfl)
    have w3 : WA P 7 (opsX x) 14 (bs 17 7) Φ t3 := WT V_ok [(3, {bv := some true})] 3 (tl [0, 1, 2, 3, 8, 9, 21] [0, 1, 2, 3, 4, 5, 6]) (ac hb2 az) w4 (by kernel_rfl) (by kernel_rfl) (by kernel_rfl) (by kernel_rfl)
    have w2 : WA P 7 (opsX x) 15 (bs 17 3) Φ t2 := WAs (an (WE V_ok 0 [] 2 (tl [0, 1, 2, 3, 8, 9, 20] [0, 1, 2, 3, 4, 5, 6]) az w3 (by kernel_rfl) (by kernel_rfl) (by kernel_rfl)) aN) (by kernel_rfl) rfl
    have w1 : WA P 7 (opsX x) 16 (bs 17 1) Φ t1 := WT V_ok [] 1 (tl [0, 1, 2, 3, 8, 9, 18, 19] [0, 1, 2, 3, 4, 5, 6]) az w2 (by kernel_rfl) (by kernel_rfl) (by kernel_rfl) (by kernel_rfl)
    have w0 : WA P 7 (opsX x) 17 (bs 17 0) Φ t0 := WT V_ok [] 0 (tl [0, 1, 2, 3, 8, 9, 18] [0, 1, 2, 3, 4, 5, 6]) az w1 (by kernel_rfl) (by kernel_rfl) (by kernel_rfl) (by kernel_rfl)
    exact RA V_ok 17 (by kernel_rfl) (by kernel_rfl) (by kernel_rfl) w0
  · let x : Nx := (Px c0 2121 [m1, m2])
    let t0 : St := ⟨53, [(0, .cv (.one (.own 6))), (1, .cv (.one (.int .i64 x1))), (2, .cv (.one (.int .i64 x2))), (3, .cv (.one (.fn 58 [] []))), (8, .cv (.one (.int .i64 p3))), (9, .cv (.one (.int .i64 p4)))], [(.box 13, [.nils, .int .i64 x3, .int .i64 x4, .int .i64 x5, .int .i64 x6, .int .i64 x7, .int .i64 x8, .nils, .nils, .nils, .nils, .nils, .int .i64 x9]), (.box 13, [.own 3, .int .i64 x10, .int .i64 x11, .int .i64 x12, .int .i64 x13, .int .i64 x14, .int .i64 x15, .sl (.int .i64) x16 .any, .own 4, .sl T713d x17 .any, .sl (.int .i64) x18 .any, .sl (.int .i64) x19 .any, .int .i64 x20]), (.box 10, (encC .any T4414 x21)), (.buf 64 (.slice (.slice T1383)) x22, []), (.buf 50 T23b6 x23, []), (.box 10, (encC .any T4414 x24)), (.buf 54 T814c p27, [])]⟩
    refine Jm (x' := x) (τ := t0) {live := [0, 1, 2, 3, 8, 9], src := [some 0, some 1, some 2, some 3, some 4, some 5, some 6]} (by kernel_rfl) (by kernel_rfl) ?_
    let Φ := phiX P 7 (Q x3 x4 x5 x6 x7 x8 x9 x10 x11 x12 x13 x14 x15 x16 x17 x18 x19 x20 x21 x22 x23 x24 r) x
    let t1 : St := stpS V x 0 [] 0 (tl [0, 1, 2, 3, 8, 9, 18] [0, 1, 2, 3, 4, 5, 6]) t0
    let t2 : St := stpS V x 0 [] 1 (tl [0, 1, 2, 3, 8, 9, 18, 19] [0, 1, 2, 3, 4, 5, 6]) t1
    let t3 : St := stpS V x 0 [] 2 (tl [0, 1, 2, 3, 8, 9, 20] [0, 1, 2, 3, 4, 5, 6]) t2
    let t4 : St := stpS V x 0 [(3, {bv := some false})] 3 (tl [0, 1, 2, 3, 8, 9, 21] [0, 1, 2, 3, 4, 5, 6]) t3
    let t5 : St := stpS V x 0 [] 4 (tl [0, 1, 2, 3, 8, 9, 21, 22] [0, 1, 2, 3, 4, 5, 6]) t4
    let t6 : St := stpS V x 0 [] 5 (tl [0, 1, 2, 3, 8, 9, 21, 22, 23] [0, 1, 2, 3, 4, 5, 6]) t5
    let t7 : St := stpS V x 0 [] 6 (tl [0, 1, 2, 3, 8, 9, 21, 22, 23, 24] [0, 1, 2, 3, 4, 5, 6]) t6
    let t8 : St := stpS V x 0 [] 9 (tl [0, 1, 2, 3, 8, 9, 21, 22, 23, 24, 27] [0, 1, 2, 3, 4, 5, 6]) t7
    let t9 : St := stpS V x 0 [] 10 (tl [0, 1, 2, 3, 8, 9, 21, 22, 23, 24, 27, 28] [0, 1, 2, 3, 4, 5, 6]) t8
    let t10 : St := stpS V x 0 [] 7 (tl [0, 1, 2, 3, 8, 9, 21, 22, 25, 27, 28] [0, 1, 2, 3, 4, 5, 6]) t9
    let t11 : St := stpS V x 0 [] 11 (tl [0, 1, 2, 3, 8, 9, 21, 22, 23, 24, 27, 29] [0, 1, 2, 3, 4, 5, 6]) t9
    let t12 : St := stpS V x 0 [] 8 (tl [0, 1, 2, 3, 8, 9, 21, 22, 26, 27, 28] [0, 1, 2, 3, 4, 5, 6]) t10
    let t13 : St := stpS V x 0 [] 11 (tl [0, 1, 2, 3, 8, 9, 21, 22, 25, 27, 29] [0, 1, 2, 3, 4, 5, 6]) t10
    let t14 : St := stpS V x 0 [] 12 (tl [0, 1, 2, 3, 8, 9, 21, 22, 23, 24, 30] [0, 1, 2, 3, 4, 5, 6]) t11
    let t15 : St := stpS V x 0 [] 11 (tl [0, 1, 2, 3, 8, 9, 21, 22, 26, 27, 29] [0, 1, 2, 3, 4, 5, 6]) t12
    let t16 : St := stpS V x 0 [] 12 (tl [0, 1, 2, 3, 8, 9, 21, 22, 25, 30] [0, 1, 2, 3, 4, 5, 6]) t13
    let t17 : St := stpS V x 0 [] 13 (tl [0, 1, 2, 3, 8, 9, 21, 22, 23, 24, 31] [0, 1, 2, 3, 4, 5, 6]) t14
    let t18 : St := stpS V x 0 [] 12 (tl [0, 1, 2, 3, 8, 9, 21, 22, 26, 30] [0, 1, 2, 3, 4, 5, 6]) t15
    let t19 : St := stpS V x 0 [] 13 (tl [0, 1, 2, 3, 8, 9, 21, 22, 25, 31] [0, 1, 2, 3, 4, 5, 6]) t16
    let t20 : St := stpS V x 0 [] 13 (tl [0, 1, 2, 3, 8, 9, 21, 22, 26, 31] [0, 1, 2, 3, 4, 5, 6]) t18
    let t21 : St := stpS V x 0 [] 14 (tl [0, 1, 2, 3, 8, 9, 21, 32] [0, 1, 2, 3, 4, 5, 6]) t20
    let t22 : St := stpS V x 0 [] 15 (tl [0, 1, 2, 3, 8, 9, 21, 33] [0, 1, 2, 3, 4, 5, 6]) t21
    let t23 : St := stpS V x 0 [] 16 (tl [0, 1, 2, 3, 8, 9, 34] [0, 1, 2, 3, 4, 5, 6]) t22
    have w23 : WA P 7 (opsX x) 0 (bs 17 131071) Φ t23 := by
      refine WA_nil (by kernel_rfl) (RAn (by kernel_rfl) ?_)
      exact Jm {fz := [], gr := 0, ad := [], live := [0, 1, 2, 3, 8, 9, 34], src := [some 0, some 1, some 2, some 3, some 4, some 5, some 6]} (by kernel_rfl) (by kernel_rfl) (j3_ok hL1 hL2 H)
    have w22 : WA P 7 (opsX x) 1 (bs 17 65535) Φ t22 := WAs (an (WE V_ok 0 [] 16 (tl [0, 1, 2, 3, 8, 9, 34] [0, 1, 2, 3, 4, 5, 6]) az w23 (by kernel_rfl) (by kernel_rfl) (by kernel_rfl)) aN) (by kernel_rfl) rfl
    have w21 : WA P 7 (opsX x) 2 (bs 17 32767) Φ t21 := WAs (an (WE V_ok 0 [] 15 (tl [0, 1, 2, 3, 8, 9, 21, 33] [0, 1, 2, 3, 4, 5, 6]) az w22 (by kernel_rfl) (by kernel_rfl) (by kernel_rfl)) aN) (by kernel_rfl) rfl
    have w20 : WA P 7 (opsX x) 3 (bs 17 16383) Φ t20 := WAs (an (WE V_ok 0 [] 14 (tl [0, 1, 2, 3, 8, 9, 21, 32] [0, 1, 2, 3, 4, 5, 6]) az w21 (by kernel_rfl) (by kernel_rfl) (by kernel_rfl)) aN) (by kernel_rfl) rfl
    have w19 : WA P 7 (opsX x) 4 (bs 17 16127) Φ t19 := WAs (an (WE V_ok 0 [] 8 (tl [0, 1, 2, 3, 8, 9, 21, 22, 26, 31] [0, 1, 2, 3, 4, 5, 6]) az w20 (by kernel_rfl) (by kernel_rfl) (by kernel_rfl)) aN) (by kernel_rfl) rfl
    have w18 : WA P 7 (opsX x) 4 (bs 17 8191) Φ t18 := WAs (an (WE V_ok 0 [] 13 (tl [0, 1, 2, 3, 8, 9, 21, 22, 26, 31] [0, 1, 2, 3, 4, 5, 6]) az w20 (by kernel_rfl) (by kernel_rfl) (by kernel_rfl)) aN) (by kernel_rfl) rfl
    have w17 : WA P 7 (opsX x) 5 (bs 17 15999) Φ t17 := WAs (an (WE V_ok 0 [] 7 (tl [0, 1, 2, 3, 8, 9, 21, 22, 25, 31] [0, 1, 2, 3, 4, 5, 6]) az w19 (by kernel_rfl) (by kernel_rfl) (by kernel_rfl)) aN) (by kernel_rfl) rfl
    have w16 : WA P 7 (opsX x) 5 (bs 17 7935) Φ t16 := WAs (an (WE V_ok 0 [] 8 (tl [0, 1, 2, 3, 8, 9, 21, 22, 26, 30] [0, 1, 2, 3, 4, 5, 6]) az w18 (by kernel_rfl) (by kernel_rfl) (by kernel_rfl)) (an (WE V_ok 0 [] 13 (tl [0, 1, 2, 3, 8, 9, 21, 22, 25, 31] [0, 1, 2, 3, 4, 5, 6]) az w19 (by kernel_rfl) (by kernel_rfl) (by kernel_rfl)) aN)) (by kernel_rfl) rfl
    have w15 : WA P 7 (opsX x) 5 (bs 17 4095) Φ t15 := WAs (an (WE V_ok 0 [] 12 (tl [0, 1, 2, 3, 8, 9, 21, 22, 26, 30] [0, 1, 2, 3, 4, 5, 6]) az w18 (by kernel_rfl) (by kernel_rfl) (by kernel_rfl)) aN) (by kernel_rfl) rfl
    have w14 : WA P 7 (opsX x) 6 (bs 17 7807) Φ t14 := WAs (an (WE V_ok 0 [] 7 (tl [0, 1, 2, 3, 8, 9, 21, 22, 25, 30] [0, 1, 2, 3, 4, 5, 6]) az w16 (by kernel_rfl) (by kernel_rfl) (by kernel_rfl)) (an (WE V_ok 0 [] 13 (tl [0, 1, 2, 3, 8, 9, 21, 22, 23, 24, 31] [0, 1, 2, 3, 4, 5, 6]) az w17 (by kernel_rfl) (by kernel_rfl) (by kernel_rfl)) aN)) (by kernel_rfl) rfl
    have w13 : WA P 7 (opsX x) 6 (bs 17 3839) Φ t13 := WAs (an (WE V_ok 0 [] 8 (tl [0, 1, 2, 3, 8, 9, 21, 22, 26, 27, 29] [0, 1, 2, 3, 4, 5, 6]) az w15 (by kernel_rfl) (by kernel_rfl) (by kernel_rfl)) (an (WE V_ok 0 [] 12 (tl [0, 1, 2, 3, 8, 9, 21, 22, 25, 30] [0, 1, 2, 3, 4, 5, 6]) az w16 (by kernel_rfl) (by kernel_rfl) (by kernel_rfl)) aN)) (by kernel_rfl) rfl
    have w12 : WA P 7 (opsX x) 6 (bs 17 2047) Φ t12 := WAs (an (WE V_ok 0 [] 11 (tl [0, 1, 2, 3, 8, 9, 21, 22, 26, 27, 29] [0, 1, 2, 3, 4, 5, 6]) az w15 (by kernel_rfl) (by kernel_rfl) (by kernel_rfl)) aN) (by kernel_rfl) rfl
    have w11 : WA P 7 (opsX x) 7 (bs 17 3711) Φ t11 := WAs (an (WE V_ok 0 [] 7 (tl [0, 1, 2, 3, 8, 9, 21, 22, 25, 27, 29] [0, 1, 2, 3, 4, 5, 6]) az w13 (by kernel_rfl) (by kernel_rfl) (by kernel_rfl)) (an (WE V_ok 0 [] 12 (tl [0, 1, 2, 3, 8, 9, 21, 22, 23, 24, 30] [0, 1, 2, 3, 4, 5, 6]) az w14 (by kernel_rfl) (by kernel_rfl) (by kernel_rfl)) aN)) (by kernel_rfl) rfl
    have w10 : WA P 7 (opsX x) 7 (bs 17 1791) Φ t10 := WAs (an (WE V_ok 0 [] 8 (tl [0, 1, 2, 3, 8, 9, 21, 22, 26, 27, 28] [0, 1, 2, 3, 4, 5, 6]) az w12 (by kernel_rfl) (by kernel_rfl) (by kernel_rfl)) (an (WE V_ok 0 [] 11 (tl [0, 1, 2, 3, 8, 9, 21, 22, 25, 27, 29] [0, 1, 2, 3, 4, 5, 6]) az w13 (by kernel_rfl) (by kernel_rfl) (by kernel_rfl)) aN)) (by kernel_rfl) rfl
    have w9 : WA P 7 (opsX x) 8 (bs 17 1663) Φ t9 := WAs (an (WE V_ok 0 [] 7 (tl [0, 1, 2, 3, 8, 9, 21, 22, 25, 27, 28] [0, 1, 2, 3, 4, 5, 6]) az w10 (by kernel_rfl) (by kernel_rfl) (by kernel_rfl)) (an (WE V_ok 0 [] 11 (tl [0, 1, 2, 3, 8, 9, 21, 22, 23, 24, 27, 29] [0, 1, 2, 3, 4, 5, 6]) az w11 (by kernel_rfl) (by kernel_rfl) (by kernel_rfl)) aN)) (by kernel_rfl) rfl
    have w8 : WA P 7 (opsX x) 9 (bs 17 639) Φ t8 := WT V_ok [] 10 (tl [0, 1, 2, 3, 8, 9, 21, 22, 23, 24, 27, 28] [0, 1, 2, 3, 4, 5, 6]) az w9 (by kernel_rfl) (by kernel_rfl) (by kernel_rfl) (by kernel_rfl)
    have w7 : WA P 7 (opsX x) 10 (bs 17 127) Φ t7 := WT V_ok [] 9 (tl [0, 1, 2, 3, 8, 9, 21, 22, 23, 24, 27] [0, 1, 2, 3, 4, 5, 6]) az w8 (by kernel_rfl) (by kernel_rfl) (by kernel_rfl) (by kernel_rfl)
    have w6 : WA P 7 (opsX x) 11 (bs 17 63) Φ t6 := WT V_ok [] 6 (tl [0, 1, 2, 3, 8, 9, 21, 22, 23, 24] [0, 1, 2, 3, 4, 5, 6]) az w7 (by kernel_rfl) (by kernel_rfl) (by kernel_rfl) (by kernel_rfl)
    have w5 : WA P 7 (opsX x) 12 (bs 17 31) Φ t5 := WT V_ok [] 5 (tl [0, 1, 2, 3, 8, 9, 21, 22, 23] [0, 1, 2, 3, 4, 5, 6]) az w6 (by kernel_rfl) (by kernel_rfl) (by kernel_rfl) (by kernel_rfl)
    have w4 : WA P 7 (opsX x) 13 (bs 17 15) Φ t4 := WT V_ok [] 4 (tl [0, 1, 2, 3, 8, 9, 21, 22] [0, 1, 2, 3, 4, 5, 6]) az w5 (by kernel_rfl) (by kernel_rfl) (by kernel_rfl) (by kernel_rfl)
    have w3 : WA P 7 (opsX x) 14 (bs 17 7) Φ t3 := WT V_ok [(3, {bv := some false})] 3 (tl [0, 1, 2, 3, 8, 9, 21] [0, 1, 2, 3, 4, 5, 6]) (ac hb2 az) w4 (by kernel_rfl) (by kernel_rfl) (by kernel_rfl) (by kernel_rfl)
    have w2 : WA P 7 (opsX x) 15 (bs 17 3) Φ t2 := WAs (an (WE V_ok 0 [] 2 (tl [0, 1, 2, 3, 8, 9, 20] [0, 1, 2, 3, 4, 5, 6]) az w3 (by kernel_rfl) (by kernel_rfl) (by kernel_rfl)) aN) (by kernel_rfl) rfl
    have w1 : WA P 7 (opsX x) 16 (bs 17 1) Φ t1 := WT V_ok [] 1 (tl [0, 1, 2, 3, 8, 9, 18, 19] [0, 1, 2, 3, 4, 5, 6]) az w2 (by kernel_rfl) (by kernel_rfl) (by kernel_rfl) (by kernel_rfl)
    have w0 : WA P 7 (opsX x) 17 (bs 17 0) Φ t0 := WT V_ok [] 0 (tl [0, 1, 2, 3, 8, 9, 18] [0, 1, 2, 3, 4, 5, 6]) az w1 (by kernel_rfl) (by kernel_rfl) (by kernel_rfl) (by kernel_rfl)
    exact RA V_ok 17 (by kernel_rfl) (by kernel_rfl) (by kernel_rfl) w0
noncomputable def l2 (x1 : Int) (x2 : Int) (x3 : Int) (x4 : Int) (x5 : Int) (x6 : Int) (x7 : Int) (x8 : Int) (x9 : Int) (x10 : Int) (x11 : Int) (x12 : Int) (x13 : Int) (x14 : Int) (x15 : Int) (x16 : List Int) (x17 : List T713d.T) (x18 : List Int) (x19 : List Int) (x20 : Int) (x21 : T4414.T) (x22 : List (List (List T1383.T))) (x23 : List T23b6.T) (x24 : T4414.T) (L1 : Int → List T814c.T → Option R) (k : Nat) : Nat → Int → Int → List T814c.T → Option R
  | 0, _, _, _ => none
  | m + 1, p3, p4, p27 => b2 x1 x2 x3 x4 x5 x6 x7 x8 x9 x10 x11 x12 x13 x14 x15 x16 x17 x18 x19 x20 x21 x22 x23 x24 L1 (l2 x1 x2 x3 x4 x5 x6 x7 x8 x9 x10 x11 x12 x13 x14 x15 x16 x17 x18 x19 x20 x21 x22 x23 x24 L1 k m) k p3 p4 p27
theorem l2_ok {r x1 x2 x3 x4 x5 x6 x7 x8 x9 x10 x11 x12 x13 x14 x15 x16 x17 x18 x19 x20 x21 x22 x23 x24} {L1 : Int → List T814c.T → Option R} {m1 : Nat} (hL1 : ∀ p3 p26, L1 p3 p26 = some r → Gw P 7 (Q x3 x4 x5 x6 x7 x8 x9 x10 x11 x12 x13 x14 x15 x16 x17 x18 x19 x20 x21 x22 x23 x24 r) (Pb c0 5 [] m1) (s1 x1 x2 x3 x4 x5 x6 x7 x8 x9 x10 x11 x12 x13 x14 x15 x16 x17 x18 x19 x20 x21 x22 x23 x24 p3 p26)) (k : Nat) : ∀ (m2 : Nat) (p3 : Int) (p4 : Int) (p27 : List T814c.T), l2 x1 x2 x3 x4 x5 x6 x7 x8 x9 x10 x11 x12 x13 x14 x15 x16 x17 x18 x19 x20 x21 x22 x23 x24 L1 k m2 p3 p4 p27 = some r → Gw P 7 (Q x3 x4 x5 x6 x7 x8 x9 x10 x11 x12 x13 x14 x15 x16 x17 x18 x19 x20 x21 x22 x23 x24 r) (Pb c0 329 [m1] m2) (s2 x1 x2 x3 x4 x5 x6 x7 x8 x9 x10 x11 x12 x13 x14 x15 x16 x17 x18 x19 x20 x21 x22 x23 x24 p3 p4 p27)
  | 0, _, _, _, H => by cases H
  | m2 + 1, p3, p4, p27, H => SU (by kernel_rfl) (b2_ok hL1 (l2_ok hL1 k m2) H)
noncomputable def b1 (x1 : Int) (x2 : Int) (x3 : Int) (x4 : Int) (x5 : Int) (x6 : Int) (x7 : Int) (x8 : Int) (x9 : Int) (x10 : Int) (x11 : Int) (x12 : Int) (x13 : Int) (x14 : Int) (x15 : Int) (x16 : List Int) (x17 : List T713d.T) (x18 : List Int) (x19 : List Int) (x20 : Int) (x21 : T4414.T) (x22 : List (List (List T1383.T))) (x23 : List T23b6.T) (x24 : T4414.T) (L1 : Int → List T814c.T → Option R) (k : Nat) (p3 : Int) (p26 : List T814c.T) : Option R :=
  if (decide (p3 < x2)) = true then
  l2 x1 x2 x3 x4 x5 x6 x7 x8 x9 x10 x11 x12 x13 x14 x15 x16 x17 x18 x19 x20 x21 x22 x23 x24 L1 k k p3 p3 p26
else
  some (p26, ())
theorem b1_ok {r x1 x2 x3 x4 x5 x6 x7 x8 x9 x10 x11 x12 x13 x14 x15 x16 x17 x18 x19 x20 x21 x22 x23 x24} {L1 : Int → List T814c.T → Option R} {m1 : Nat} (hL1 : ∀ p3 p26, L1 p3 p26 = some r → Gw P 7 (Q x3 x4 x5 x6 x7 x8 x9 x10 x11 x12 x13 x14 x15 x16 x17 x18 x19 x20 x21 x22 x23 x24 r) (Pb c0 5 [] m1) (s1 x1 x2 x3 x4 x5 x6 x7 x8 x9 x10 x11 x12 x13 x14 x15 x16 x17 x18 x19 x20 x21 x22 x23 x24 p3 p26)) {k p3 p26} (H : b1 x1 x2 x3 x4 x5 x6 x7 x8 x9 x10 x11 x12 x13 x14 x15 x16 x17 x18 x19 x20 x21 x22 x23 x24 L1 k p3 p26 = some r) : Gw P 7 (Q x3 x4 x5 x6 x7 x8 x9 x10 x11 x12 x13 x14 x15 x16 x17 x18 x19 x20 x21 x22 x23 x24 r) (Px c0 9 [m1]) (s1 x1 x2 x3 x4 x5 x6 x7 x8 x9 x10 x11 x12 x13 x14 x15 x16 x17 x18 x19 x20 x21 x22 x23 x24 p3 p26) := by
  unfold b1 at H
  refine Rg V_ok 0 [] az (by kernel_rfl) ?_
  rcases of_ite H with ⟨hb1, H⟩ | ⟨hb1, H⟩
  · refine C1 hb1 (by kernel_rfl) ?_
    refine Rg V_ok 0 [] az (by kernel_rfl) ?_
    exact LP k (Jm {fz := [], gr := 0, ad := [], live := [0, 1, 2, 3, 8, 9], src := [some 0, some 1, some 2, some 3, some 4, some 5, some 6]} (by kernel_rfl) (by kernel_rfl) (l2_ok hL1 k k p3 p3 p26 H))
  · refine C0 hb1 (by kernel_rfl) ?_
    obtain rfl := Option.some.inj H
    exact Lq {fz := [], gr := 0, ad := [], live := [], src := [some 0, some 1, some 2, some 3, some 4, some 5, some 6]} (by kernel_rfl)
noncomputable def l1 (x1 : Int) (x2 : Int) (x3 : Int) (x4 : Int) (x5 : Int) (x6 : Int) (x7 : Int) (x8 : Int) (x9 : Int) (x10 : Int) (x11 : Int) (x12 : Int) (x13 : Int) (x14 : Int) (x15 : Int) (x16 : List Int) (x17 : List T713d.T) (x18 : List Int) (x19 : List Int) (x20 : Int) (x21 : T4414.T) (x22 : List (List (List T1383.T))) (x23 : List T23b6.T) (x24 : T4414.T) (k : Nat) : Nat → Int → List T814c.T → Option R
  | 0, _, _ => none
  | m + 1, p3, p26 => b1 x1 x2 x3 x4 x5 x6 x7 x8 x9 x10 x11 x12 x13 x14 x15 x16 x17 x18 x19 x20 x21 x22 x23 x24 (l1 x1 x2 x3 x4 x5 x6 x7 x8 x9 x10 x11 x12 x13 x14 x15 x16 x17 x18 x19 x20 x21 x22 x23 x24 k m) k p3 p26
theorem l1_ok {r x1 x2 x3 x4 x5 x6 x7 x8 x9 x10 x11 x12 x13 x14 x15 x16 x17 x18 x19 x20 x21 x22 x23 x24} (k : Nat) : ∀ (m1 : Nat) (p3 : Int) (p26 : List T814c.T), l1 x1 x2 x3 x4 x5 x6 x7 x8 x9 x10 x11 x12 x13 x14 x15 x16 x17 x18 x19 x20 x21 x22 x23 x24 k m1 p3 p26 = some r → Gw P 7 (Q x3 x4 x5 x6 x7 x8 x9 x10 x11 x12 x13 x14 x15 x16 x17 x18 x19 x20 x21 x22 x23 x24 r) (Pb c0 5 [] m1) (s1 x1 x2 x3 x4 x5 x6 x7 x8 x9 x10 x11 x12 x13 x14 x15 x16 x17 x18 x19 x20 x21 x22 x23 x24 p3 p26)
  | 0, _, _, H => by cases H
  | m1 + 1, p3, p26, H => SU (by kernel_rfl) (b1_ok (l1_ok k m1) H)
noncomputable def f (k : Nat) (x1 : Int) (x2 : Int) (x3 : Int) (x4 : Int) (x5 : Int) (x6 : Int) (x7 : Int) (x8 : Int) (x9 : Int) (x10 : Int) (x11 : Int) (x12 : Int) (x13 : Int) (x14 : Int) (x15 : Int) (x16 : List Int) (x17 : List T713d.T) (x18 : List Int) (x19 : List Int) (x20 : Int) (x21 : T4414.T) (x22 : List (List (List T1383.T))) (x23 : List T23b6.T) (x24 : T4414.T) (x25 : List T814c.T) : Option R :=
  l1 x1 x2 x3 x4 x5 x6 x7 x8 x9 x10 x11 x12 x13 x14 x15 x16 x17 x18 x19 x20 x21 x22 x23 x24 k k (IntKind.i64.wrap (x1 + 1)) x25
theorem f_ok {r k x1 x2 x3 x4 x5 x6 x7 x8 x9 x10 x11 x12 x13 x14 x15 x16 x17 x18 x19 x20 x21 x22 x23 x24 x25} (H : f k x1 x2 x3 x4 x5 x6 x7 x8 x9 x10 x11 x12 x13 x14 x15 x16 x17 x18 x19 x20 x21 x22 x23 x24 x25 = some r) : Gw P 7 (Q x3 x4 x5 x6 x7 x8 x9 x10 x11 x12 x13 x14 x15 x16 x17 x18 x19 x20 x21 x22 x23 x24 r) (Px c0 1 []) (s0 x1 x2 x3 x4 x5 x6 x7 x8 x9 x10 x11 x12 x13 x14 x15 x16 x17 x18 x19 x20 x21 x22 x23 x24 x25) := by
  unfold f at H
  refine Rg V_ok 0 [] az (by kernel_rfl) ?_
  exact LP k (Jm {fz := [], gr := 0, ad := [], live := [0, 1, 2, 3, 8], src := [some 0, some 1, some 2, some 3, some 4, some 5, some 6]} (by kernel_rfl) (by kernel_rfl) (l1_ok k k (IntKind.i64.wrap (x1 + 1)) x25 H))
theorem ok {r k x1 x2 x3 x4 x5 x6 x7 x8 x9 x10 x11 x12 x13 x14 x15 x16 x17 x18 x19 x20 x21 x22 x23 x24 x25} (H : f k x1 x2 x3 x4 x5 x6 x7 x8 x9 x10 x11 x12 x13 x14 x15 x16 x17 x18 x19 x20 x21 x22 x23 x24 x25 = some r) : W P 7 c0 (s0 x1 x2 x3 x4 x5 x6 x7 x8 x9 x10 x11 x12 x13 x14 x15 x16 x17 x18 x19 x20 x21 x22 x23 x24 x25) (CallQ 7 (out x3 x4 x5 x6 x7 x8 x9 x10 x11 x12 x13 x14 x15 x16 x17 x18 x19 x20 x21 x22 x23 x24 r)) := of_G (f_ok H)
theorem at_ : FnAt P 104 53 c0 Go.Proofs.Tryd.f104.results := fnAt Go.Proofs.Tryd.func104 (by kernel_rfl) (by decide) (by kernel_rfl) (by kernel_rfl)
end i_slices_insertionSortCmpFunc_Ver_603
/-! ### function 89, slices.stableCmpFunc[wayfinder/api.Ver], where it is called -/
namespace i_slices_stableCmpFunc_Ver_ded
noncomputable def c0 : Code := (Go.Proofs.Tryd.f89.body).getD .skip
noncomputable def V : Env := { tt := tt, Γ := slk [] }
theorem V_ok : EnvOk P V := { ck := tt_ck, fits := slk_nil, mixed := mixed }
abbrev R := (List T814c.T) × Unit
noncomputable def s0 (x1 : Int) (x2 : Int) (x3 : Int) (x4 : Int) (x5 : Int) (x6 : Int) (x7 : Int) (x8 : Int) (x9 : Int) (x10 : Int) (x11 : Int) (x12 : Int) (x13 : Int) (x14 : Int) (x15 : List Int) (x16 : List T713d.T) (x17 : List Int) (x18 : List Int) (x19 : Int) (x20 : T4414.T) (x21 : List (List (List T1383.T))) (x22 : List T23b6.T) (x23 : T4414.T) (x24 : List T814c.T) : St := ⟨63, [(0, .cv (.one (.own 6))), (1, .cv (.one (.int .i64 x1))), (2, .cv (.one (.fn 58 [] [])))], [(.box 13, [.nils, .int .i64 x2, .int .i64 x3, .int .i64 x4, .int .i64 x5, .int .i64 x6, .int .i64 x7, .nils, .nils, .nils, .nils, .nils, .int .i64 x8]), (.box 13, [.own 3, .int .i64 x9, .int .i64 x10, .int .i64 x11, .int .i64 x12, .int .i64 x13, .int .i64 x14, .sl (.int .i64) x15 .any, .own 4, .sl T713d x16 .any, .sl (.int .i64) x17 .any, .sl (.int .i64) x18 .any, .int .i64 x19]), (.box 10, (encC .any T4414 x20)), (.buf 64 (.slice (.slice T1383)) x21, []), (.buf 50 T23b6 x22, []), (.box 10, (encC .any T4414 x23)), (.buf 54 T814c x24, [])]⟩
noncomputable def out (x2 : Int) (x3 : Int) (x4 : Int) (x5 : Int) (x6 : Int) (x7 : Int) (x8 : Int) (x9 : Int) (x10 : Int) (x11 : Int) (x12 : Int) (x13 : Int) (x14 : Int) (x15 : List Int) (x16 : List T713d.T) (x17 : List Int) (x18 : List Int) (x19 : Int) (x20 : T4414.T) (x21 : List (List (List T1383.T))) (x22 : List T23b6.T) (x23 : T4414.T) (r : R) : St := ⟨63, [], [(.box 13, [.nils, .int .i64 x2, .int .i64 x3, .int .i64 x4, .int .i64 x5, .int .i64 x6, .int .i64 x7, .nils, .nils, .nils, .nils, .nils, .int .i64 x8]), (.box 13, [.own 3, .int .i64 x9, .int .i64 x10, .int .i64 x11, .int .i64 x12, .int .i64 x13, .int .i64 x14, .sl (.int .i64) x15 .any, .own 4, .sl T713d x16 .any, .sl (.int .i64) x17 .any, .sl (.int .i64) x18 .any, .int .i64 x19]), (.box 10, (encC .any T4414 x20)), (.buf 64 (.slice (.slice T1383)) x21, []), (.buf 50 T23b6 x22, []), (.box 10, (encC .any T4414 x23)), (.buf 54 T814c r.1, [])]⟩
abbrev Q (x2 : Int) (x3 : Int) (x4 : Int) (x5 : Int) (x6 : Int) (x7 : Int) (x8 : Int) (x9 : Int) (x10 : Int) (x11 : Int) (x12 : Int) (x13 : Int) (x14 : Int) (x15 : List Int) (x16 : List T713d.T) (x17 : List Int) (x18 : List Int) (x19 : Int) (x20 : T4414.T) (x21 : List (List (List T1383.T))) (x22 : List T23b6.T) (x23 : T4414.T) (r : R) := CallQ 7 (out x2 x3 x4 x5 x6 x7 x8 x9 x10 x11 x12 x13 x14 x15 x16 x17 x18 x19 x20 x21 x22 x23 r)
noncomputable def s1 (x1 : Int) (x2 : Int) (x3 : Int) (x4 : Int) (x5 : Int) (x6 : Int) (x7 : Int) (x8 : Int) (x9 : Int) (x10 : Int) (x11 : Int) (x12 : Int) (x13 : Int) (x14 : Int) (x15 : List Int) (x16 : List T713d.T) (x17 : List Int) (x18 : List Int) (x19 : Int) (x20 : T4414.T) (x21 : List (List (List T1383.T))) (x22 : List T23b6.T) (x23 : T4414.T) (p2 : Int) (p3 : Int) (p4 : Int) (p27 : List T814c.T) : St := ⟨63, [(0, .cv (.one (.own 6))), (1, .cv (.one (.int .i64 x1))), (2, .cv (.one (.fn 58 [] []))), (6, .cv (.one (.int .i64 p2))), (7, .cv (.one (.int .i64 p3))), (8, .cv (.one (.int .i64 p4)))], [(.box 13, [.nils, .int .i64 x2, .int .i64 x3, .int .i64 x4, .int .i64 x5, .int .i64 x6, .int .i64 x7, .nils, .nils, .nils, .nils, .nils, .int .i64 x8]), (.box 13, [.own 3, .int .i64 x9, .int .i64 x10, .int .i64 x11, .int .i64 x12, .int .i64 x13, .int .i64 x14, .sl (.int .i64) x15 .any, .own 4, .sl T713d x16 .any, .sl (.int .i64) x17 .any, .sl (.int .i64) x18 .any, .int .i64 x19]), (.box 10, (encC .any T4414 x20)), (.buf 64 (.slice (.slice T1383)) x21, []), (.buf 50 T23b6 x22, []), (.box 10, (encC .any T4414 x23)), (.buf 54 T814c p27, [])]⟩
noncomputable def s2 (x1 : Int) (x2 : Int) (x3 : Int) (x4 : Int) (x5 : Int) (x6 : Int) (x7 : Int) (x8 : Int) (x9 : Int) (x10 : Int) (x11 : Int) (x12 : Int) (x13 : Int) (x14 : Int) (x15 : List Int) (x16 : List T713d.T) (x17 : List Int) (x18 : List Int) (x19 : Int) (x20 : T4414.T) (x21 : List (List (List T1383.T))) (x22 : List T23b6.T) (x23 : T4414.T) (p2 : Int) (p25 : List T814c.T) : St := ⟨63, [(0, .cv (.one (.own 6))), (1, .cv (.one (.int .i64 x1))), (2, .cv (.one (.fn 58 [] []))), (6, .cv (.one (.int .i64 p2)))], [(.box 13, [.nils, .int .i64 x2, .int .i64 x3, .int .i64 x4, .int .i64 x5, .int .i64 x6, .int .i64 x7, .nils, .nils, .nils, .nils, .nils, .int .i64 x8]), (.box 13, [.own 3, .int .i64 x9, .int .i64 x10, .int .i64 x11, .int .i64 x12, .int .i64 x13, .int .i64 x14, .sl (.int .i64) x15 .any, .own 4, .sl T713d x16 .any, .sl (.int .i64) x17 .any, .sl (.int .i64) x18 .any, .int .i64 x19]), (.box 10, (encC .any T4414 x20)), (.buf 64 (.slice (.slice T1383)) x21, []), (.buf 50 T23b6 x22, []), (.box 10, (encC .any T4414 x23)), (.buf 54 T814c p25, [])]⟩
noncomputable def s3 (x1 : Int) (x2 : Int) (x3 : Int) (x4 : Int) (x5 : Int) (x6 : Int) (x7 : Int) (x8 : Int) (x9 : Int) (x10 : Int) (x11 : Int) (x12 : Int) (x13 : Int) (x14 : Int) (x15 : List Int) (x16 : List T713d.T) (x17 : List Int) (x18 : List Int) (x19 : Int) (x20 : T4414.T) (x21 : List (List (List T1383.T))) (x22 : List T23b6.T) (x23 : T4414.T) (p2 : Int) (p3 : Int) (p4 : Int) (p27 : List T814c.T) : St := ⟨63, [(0, .cv (.one (.own 6))), (1, .cv (.one (.int .i64 x1))), (2, .cv (.one (.fn 58 [] []))), (6, .cv (.one (.int .i64 p2))), (7, .cv (.one (.int .i64 p3))), (8, .cv (.one (.int .i64 p4)))], [(.box 13, [.nils, .int .i64 x2, .int .i64 x3, .int .i64 x4, .int .i64 x5, .int .i64 x6, .int .i64 x7, .nils, .nils, .nils, .nils, .nils, .int .i64 x8]), (.box 13, [.own 3, .int .i64 x9, .int .i64 x10, .int .i64 x11, .int .i64 x12, .int .i64 x13, .int .i64 x14, .sl (.int .i64) x15 .any, .own 4, .sl T713d x16 .any, .sl (.int .i64) x17 .any, .sl (.int .i64) x18 .any, .int .i64 x19]), (.box 10, (encC .any T4414 x20)), (.buf 64 (.slice (.slice T1383)) x21, []), (.buf 50 T23b6 x22, []), (.box 10, (encC .any T4414 x23)), (.buf 54 T814c p27, [])]⟩
noncomputable def b3 (x1 : Int) (x2 : Int) (x3 : Int) (x4 : Int) (x5 : Int) (x6 : Int) (x7 : Int) (x8 : Int) (x9 : Int) (x10 : Int) (x11 : Int) (x12 : Int) (x13 : Int) (x14 : Int) (x15 : List Int) (x16 : List T713d.T) (x17 : List Int) (x18 : List Int) (x19 : Int) (x20 : T4414.T) (x21 : List (List (List T1383.T))) (x22 : List T23b6.T) (x23 : T4414.T) (L2 : Int → List T814c.T → Option R) (L3 : Int → Int → Int → List T814c.T → Option R) (k : Nat) (p2 : Int) (p3 : Int) (p4 : Int) (p27 : List T814c.T) : Option R :=
  if (decide (p4 ≤ x1)) = true then
  none
else
  if (decide ((IntKind.i64.wrap (p3 + p2)) < x1)) = true then
    none
  else
    L2 (IntKind.i64.wrap (p2 * 2)) p27
theorem b3_ok {r x1 x2 x3 x4 x5 x6 x7 x8 x9 x10 x11 x12 x13 x14 x15 x16 x17 x18 x19 x20 x21 x22 x23} {L2 : Int → List T814c.T → Option R} {m2 : Nat} (hL2 : ∀ p2 p25, L2 p2 p25 = some r → Gw P 7 (Q x2 x3 x4 x5 x6 x7 x8 x9 x10 x11 x12 x13 x14 x15 x16 x17 x18 x19 x20 x21 x22 x23 r) (Pb c0 47 [] m2) (s2 x1 x2 x3 x4 x5 x6 x7 x8 x9 x10 x11 x12 x13 x14 x15 x16 x17 x18 x19 x20 x21 x22 x23 p2 p25)) {L3 : Int → Int → Int → List T814c.T → Option R} {m3 : Nat} (hL3 : ∀ p2 p3 p4 p27, L3 p2 p3 p4 p27 = some r → Gw P 7 (Q x2 x3 x4 x5 x6 x7 x8 x9 x10 x11 x12 x13 x14 x15 x16 x17 x18 x19 x20 x21 x22 x23 r) (Pb c0 2383 [m2] m3) (s3 x1 x2 x3 x4 x5 x6 x7 x8 x9 x10 x11 x12 x13 x14 x15 x16 x17 x18 x19 x20 x21 x22 x23 p2 p3 p4 p27)) {k p2 p3 p4 p27} (H : b3 x1 x2 x3 x4 x5 x6 x7 x8 x9 x10 x11 x12 x13 x14 x15 x16 x17 x18 x19 x20 x21 x22 x23 L2 L3 k p2 p3 p4 p27 = some r) : Gw P 7 (Q x2 x3 x4 x5 x6 x7 x8 x9 x10 x11 x12 x13 x14 x15 x16 x17 x18 x19 x20 x21 x22 x23 r) (Px c0 4431 [m2, m3]) (s3 x1 x2 x3 x4 x5 x6 x7 x8 x9 x10 x11 x12 x13 x14 x15 x16 x17 x18 x19 x20 x21 x22 x23 p2 p3 p4 p27) := by
  unfold b3 at H
  refine Rg V_ok 0 [] az (by kernel_rfl) ?_
  rcases of_ite H with ⟨hb7, H⟩ | ⟨hb7, H⟩
  · refine C1 hb7 (by kernel_rfl) ?_
    cases H
  · refine C0 hb7 (by kernel_rfl) ?_
    refine Rg V_ok 0 [] az (by kernel_rfl) ?_
    refine Rg V_ok 0 [] az (by kernel_rfl) ?_
    rcases of_ite H with ⟨hb8, H⟩ | ⟨hb8, H⟩
    · refine C1 hb8 (by kernel_rfl) ?_
      cases H
    · refine C0 hb8 (by kernel_rfl) ?_
      refine Rg V_ok 0 [] az (by kernel_rfl) ?_
      exact Jm {fz := [], gr := 0, ad := [], live := [0, 1, 2, 6], src := [some 0, some 1, some 2, some 3, some 4, some 5, some 6]} (by kernel_rfl) (by kernel_rfl) (hL2 (IntKind.i64.wrap (p2 * 2)) p27 H)
noncomputable def l3 (x1 : Int) (x2 : Int) (x3 : Int) (x4 : Int) (x5 : Int) (x6 : Int) (x7 : Int) (x8 : Int) (x9 : Int) (x10 : Int) (x11 : Int) (x12 : Int) (x13 : Int) (x14 : Int) (x15 : List Int) (x16 : List T713d.T) (x17 : List Int) (x18 : List Int) (x19 : Int) (x20 : T4414.T) (x21 : List (List (List T1383.T))) (x22 : List T23b6.T) (x23 : T4414.T) (L2 : Int → List T814c.T → Option R) (k : Nat) : Nat → Int → Int → Int → List T814c.T → Option R
  | 0, _, _, _, _ => none
  | m + 1, p2, p3, p4, p27 => b3 x1 x2 x3 x4 x5 x6 x7 x8 x9 x10 x11 x12 x13 x14 x15 x16 x17 x18 x19 x20 x21 x22 x23 L2 (l3 x1 x2 x3 x4 x5 x6 x7 x8 x9 x10 x11 x12 x13 x14 x15 x16 x17 x18 x19 x20 x21 x22 x23 L2 k m) k p2 p3 p4 p27
theorem l3_ok {r x1 x2 x3 x4 x5 x6 x7 x8 x9 x10 x11 x12 x13 x14 x15 x16 x17 x18 x19 x20 x21 x22 x23} {L2 : Int → List T814c.T → Option R} {m2 : Nat} (hL2 : ∀ p2 p25, L2 p2 p25 = some r → Gw P 7 (Q x2 x3 x4 x5 x6 x7 x8 x9 x10 x11 x12 x13 x14 x15 x16 x17 x18 x19 x20 x21 x22 x23 r) (Pb c0 47 [] m2) (s2 x1 x2 x3 x4 x5 x6 x7 x8 x9 x10 x11 x12 x13 x14 x15 x16 x17 x18 x19 x20 x21 x22 x23 p2 p25)) (k : Nat) : ∀ (m3 : Nat) (p2 : Int) (p3 : Int) (p4 : Int) (p27 : List T814c.T), l3 x1 x2 x3 x4 x5 x6 x7 x8 x9 x10 x11 x12 x13 x14 x15 x16 x17 x18 x19 x20 x21 x22 x23 L2 k m3 p2 p3 p4 p27 = some r → Gw P 7 (Q x2 x3 x4 x5 x6 x7 x8 x9 x10 x11 x12 x13 x14 x15 x16 x17 x18 x19 x20 x21 x22 x23 r) (Pb c0 2383 [m2] m3) (s3 x1 x2 x3 x4 x5 x6 x7 x8 x9 x10 x11 x12 x13 x14 x15 x16 x17 x18 x19 x20 x21 x22 x23 p2 p3 p4 p27)
  | 0, _, _, _, _, H => by cases H
  | m3 + 1, p2, p3, p4, p27, H => SU (by kernel_rfl) (b3_ok hL2 (l3_ok hL2 k m3) H)
noncomputable def b2 (x1 : Int) (x2 : Int) (x3 : Int) (x4 : Int) (x5 : Int) (x6 : Int) (x7 : Int) (x8 : Int) (x9 : Int) (x10 : Int) (x11 : Int) (x12 : Int) (x13 : Int) (x14 : Int) (x15 : List Int) (x16 : List T713d.T) (x17 : List Int) (x18 : List Int) (x19 : Int) (x20 : T4414.T) (x21 : List (List (List T1383.T))) (x22 : List T23b6.T) (x23 : T4414.T) (L2 : Int → List T814c.T → Option R) (k : Nat) (p2 : Int) (p25 : List T814c.T) : Option R :=
  if (decide (p2 < x1)) = true then
  l3 x1 x2 x3 x4 x5 x6 x7 x8 x9 x10 x11 x12 x13 x14 x15 x16 x17 x18 x19 x20 x21 x22 x23 L2 k k p2 0 (IntKind.i64.wrap (2 * p2)) p25
else
  some (p25, ())
theorem b2_ok {r x1 x2 x3 x4 x5 x6 x7 x8 x9 x10 x11 x12 x13 x14 x15 x16 x17 x18 x19 x20 x21 x22 x23} {L2 : Int → List T814c.T → Option R} {m2 : Nat} (hL2 : ∀ p2 p25, L2 p2 p25 = some r → Gw P 7 (Q x2 x3 x4 x5 x6 x7 x8 x9 x10 x11 x12 x13 x14 x15 x16 x17 x18 x19 x20 x21 x22 x23 r) (Pb c0 47 [] m2) (s2 x1 x2 x3 x4 x5 x6 x7 x8 x9 x10 x11 x12 x13 x14 x15 x16 x17 x18 x19 x20 x21 x22 x23 p2 p25)) {k p2 p25} (H : b2 x1 x2 x3 x4 x5 x6 x7 x8 x9 x10 x11 x12 x13 x14 x15 x16 x17 x18 x19 x20 x21 x22 x23 L2 k p2 p25 = some r) : Gw P 7 (Q x2 x3 x4 x5 x6 x7 x8 x9 x10 x11 x12 x13 x14 x15 x16 x17 x18 x19 x20 x21 x22 x23 r) (Px c0 79 [m2]) (s2 x1 x2 x3 x4 x5 x6 x7 x8 x9 x10 x11 x12 x13 x14 x15 x16 x17 x18 x19 x20 x21 x22 x23 p2 p25) := by
  unfold b2 at H
  refine Rg V_ok 0 [] az (by kernel_rfl) ?_
  rcases of_ite H with ⟨hb6, H⟩ | ⟨hb6, H⟩
  · refine C1 hb6 (by kernel_rfl) ?_
    refine Rg V_ok 0 [] az (by kernel_rfl) ?_
    exact LP k (Jm {fz := [], gr := 0, ad := [], live := [0, 1, 2, 6, 7, 8], src := [some 0, some 1, some 2, some 3, some 4, some 5, some 6]} (by kernel_rfl) (by kernel_rfl) (l3_ok hL2 k k p2 0 (IntKind.i64.wrap (2 * p2)) p25 H))
  · refine C0 hb6 (by kernel_rfl) ?_
    obtain rfl := Option.some.inj H
    exact Lq {fz := [], gr := 0, ad := [], live := [], src := [some 0, some 1, some 2, some 3, some 4, some 5, some 6]} (by kernel_rfl)
noncomputable def l2 (x1 : Int) (x2 : Int) (x3 : Int) (x4 : Int) (x5 : Int) (x6 : Int) (x7 : Int) (x8 : Int) (x9 : Int) (x10 : Int) (x11 : Int) (x12 : Int) (x13 : Int) (x14 : Int) (x15 : List Int) (x16 : List T713d.T) (x17 : List Int) (x18 : List Int) (x19 : Int) (x20 : T4414.T) (x21 : List (List (List T1383.T))) (x22 : List T23b6.T) (x23 : T4414.T) (k : Nat) : Nat → Int → List T814c.T → Option R
  | 0, _, _ => none
  | m + 1, p2, p25 => b2 x1 x2 x3 x4 x5 x6 x7 x8 x9 x10 x11 x12 x13 x14 x15 x16 x17 x18 x19 x20 x21 x22 x23 (l2 x1 x2 x3 x4 x5 x6 x7 x8 x9 x10 x11 x12 x13 x14 x15 x16 x17 x18 x19 x20 x21 x22 x23 k m) k p2 p25
theorem l2_ok {r x1 x2 x3 x4 x5 x6 x7 x8 x9 x10 x11 x12 x13 x14 x15 x16 x17 x18 x19 x20 x21 x22 x23} (k : Nat) : ∀ (m2 : Nat) (p2 : Int) (p25 : List T814c.T), l2 x1 x2 x3 x4 x5 x6 x7 x8 x9 x10 x11 x12 x13 x14 x15 x16 x17 x18 x19 x20 x21 x22 x23 k m2 p2 p25 = some r → Gw P 7 (Q x2 x3 x4 x5 x6 x7 x8 x9 x10 x11 x12 x13 x14 x15 x16 x17 x18 x19 x20 x21 x22 x23 r) (Pb c0 47 [] m2) (s2 x1 x2 x3 x4 x5 x6 x7 x8 x9 x10 x11 x12 x13 x14 x15 x16 x17 x18 x19 x20 x21 x22 x23 p2 p25)
  | 0, _, _, H => by cases H
  | m2 + 1, p2, p25, H => SU (by kernel_rfl) (b2_ok (l2_ok k m2) H)
noncomputable def b1 (x1 : Int) (x2 : Int) (x3 : Int) (x4 : Int) (x5 : Int) (x6 : Int) (x7 : Int) (x8 : Int) (x9 : Int) (x10 : Int) (x11 : Int) (x12 : Int) (x13 : Int) (x14 : Int) (x15 : List Int) (x16 : List T713d.T) (x17 : List Int) (x18 : List Int) (x19 : Int) (x20 : T4414.T) (x21 : List (List (List T1383.T))) (x22 : List T23b6.T) (x23 : T4414.T) (L1 : Int → Int → Int → List T814c.T → Option R) (k : Nat) (p2 : Int) (p3 : Int) (p4 : Int) (p27 : List T814c.T) : Option R :=
  if (decide (p4 ≤ x1)) = true then
  (i_slices_insertionSortCmpFunc_Ver_603.f k p3 p4 x2 x3 x4 x5 x6 x7 x8 x9 x10 x11 x12 x13 x14 x15 x16 x17 x18 x19 x20 x21 x22 x23 p27).bind fun y2 =>
    L1 p2 p4 (IntKind.i64.wrap (p4 + p2)) y2.1
else
  (i_slices_insertionSortCmpFunc_Ver_603.f k p3 x1 x2 x3 x4 x5 x6 x7 x8 x9 x10 x11 x12 x13 x14 x15 x16 x17 x18 x19 x20 x21 x22 x23 p27).bind fun y4 =>
    l2 x1 x2 x3 x4 x5 x6 x7 x8 x9 x10 x11 x12 x13 x14 x15 x16 x17 x18 x19 x20 x21 x22 x23 k k p2 y4.1
theorem b1_ok {r x1 x2 x3 x4 x5 x6 x7 x8 x9 x10 x11 x12 x13 x14 x15 x16 x17 x18 x19 x20 x21 x22 x23} {L1 : Int → Int → Int → List T814c.T → Option R} {m1 : Nat} (hL1 : ∀ p2 p3 p4 p27, L1 p2 p3 p4 p27 = some r → Gw P 7 (Q x2 x3 x4 x5 x6 x7 x8 x9 x10 x11 x12 x13 x14 x15 x16 x17 x18 x19 x20 x21 x22 x23 r) (Pb c0 19 [] m1) (s1 x1 x2 x3 x4 x5 x6 x7 x8 x9 x10 x11 x12 x13 x14 x15 x16 x17 x18 x19 x20 x21 x22 x23 p2 p3 p4 p27)) {k p2 p3 p4 p27} (H : b1 x1 x2 x3 x4 x5 x6 x7 x8 x9 x10 x11 x12 x13 x14 x15 x16 x17 x18 x19 x20 x21 x22 x23 L1 k p2 p3 p4 p27 = some r) : Gw P 7 (Q x2 x3 x4 x5 x6 x7 x8 x9 x10 x11 x12 x13 x14 x15 x16 x17 x18 x19 x20 x21 x22 x23 r) (Px c0 35 [m1]) (s1 x1 x2 x3 x4 x5 x6 x7 x8 x9 x10 x11 x12 x13 x14 x15 x16 x17 x18 x19 x20 x21 x22 x23 p2 p3 p4 p27) := by
  unfold b1 at H
  refine Rg V_ok 0 [] az (by kernel_rfl) ?_
  rcases of_ite H with ⟨hb1, H⟩ | ⟨hb1, H⟩
  · refine C1 hb1 (by kernel_rfl) ?_
    refine GT {live := [0, 1, 2, 6, 7, 8], src := [some 0, some 1, some 2, some 3, some 4, some 5, some 6]} (by kernel_rfl) (RI (by kernel_rfl) ?_)
    refine EV V_ok 0 [] 4 az (by kernel_rfl) ?_
    obtain ⟨y2, e3, H⟩ := of_bind H
    refine CL V_ok i_slices_insertionSortCmpFunc_Ver_603.at_ (i_slices_insertionSortCmpFunc_Ver_603.ok e3) (by kernel_rfl) (by kernel_rfl) (by kernel_rfl) ?_
    refine RN (by kernel_rfl) (by kernel_rfl) ?_
    refine Rg V_ok 0 [] az (by kernel_rfl) ?_
    refine Rg V_ok 0 [] az (by kernel_rfl) ?_
    exact Jm {fz := [], gr := 0, ad := [], live := [0, 1, 2, 6, 7, 8], src := [some 0, some 1, some 2, some 3, some 4, some 5, some 6]} (by kernel_rfl) (by kernel_rfl) (hL1 p2 p4 (IntKind.i64.wrap (p4 + p2)) y2.1 H)
  · refine C0 hb1 (by kernel_rfl) ?_
    refine GT {live := [0, 1, 2, 6, 7], src := [some 0, some 1, some 2, some 3, some 4, some 5, some 6]} (by kernel_rfl) (RI (by kernel_rfl) ?_)
    refine EV V_ok 0 [] 4 az (by kernel_rfl) ?_
    obtain ⟨y4, e5, H⟩ := of_bind H
    refine CL V_ok i_slices_insertionSortCmpFunc_Ver_603.at_ (i_slices_insertionSortCmpFunc_Ver_603.ok e5) (by kernel_rfl) (by kernel_rfl) (by kernel_rfl) ?_
    refine RN (by kernel_rfl) (by kernel_rfl) ?_
    exact LP k (Jm {fz := [], gr := 0, ad := [], live := [0, 1, 2, 6], src := [some 0, some 1, some 2, some 3, some 4, some 5, some 6]} (by kernel_rfl) (by kernel_rfl) (l2_ok k k p2 y4.1 H))
noncomputable def l1 (x1 : Int) (x2 : Int) (x3 : Int) (x4 : Int) (x5 : Int) (x6 : Int) (x7 : Int) (x8 : Int) (x9 : Int) (x10 : Int) (x11 : Int) (x12 : Int) (x13 : Int) (x14 : Int) (x15 : List Int) (x16 : List T713d.T) (x17 : List Int) (x18 : List Int) (x19 : Int) (x20 : T4414.T) (x21 : List (List (List T1383.T))) (x22 : List T23b6.T) (x23 : T4414.T) (k : Nat) : Nat → Int → Int → Int → List T814c.T → Option R
  | 0, _, _, _, _ => none
  | m + 1, p2, p3, p4, p27 => b1 x1 x2 x3 x4 x5 x6 x7 x8 x9 x10 x11 x12 x13 x14 x15 x16 x17 x18 x19 x20 x21 x22 x23 (l1 x1 x2 x3 x4 x5 x6 x7 x8 x9 x10 x11 x12 x13 x14 x15 x16 x17 x18 x19 x20 x21 x22 x23 k m) k p2 p3 p4 p27
theorem l1_ok {r x1 x2 x3 x4 x5 x6 x7 x8 x9 x10 x11 x12 x13 x14 x15 x16 x17 x18 x19 x20 x21 x22 x23} (k : Nat) : ∀ (m1 : Nat) (p2 : Int) (p3 : Int) (p4 : Int) (p27 : List T814c.T), l1 x1 x2 x3 x4 x5 x6 x7 x8 x9 x10 x11 x12 x13 x14 x15 x16 x17 x18 x19 x20 x21 x22 x23 k m1 p2 p3 p4 p27 = some r → Gw P 7 (Q x2 x3 x4 x5 x6 x7 x8 x9 x10 x11 x12 x13 x14 x15 x16 x17 x18 x19 x20 x21 x22 x23 r) (Pb c0 19 [] m1) (s1 x1 x2 x3 x4 x5 x6 x7 x8 x9 x10 x11 x12 x13 x14 x15 x16 x17 x18 x19 x20 x21 x22 x23 p2 p3 p4 p27)
  | 0, _, _, _, _, H => by cases H
  | m1 + 1, p2, p3, p4, p27, H => SU (by kernel_rfl) (b1_ok (l1_ok k m1) H)
noncomputable def f (k : Nat) (x1 : Int) (x2 : Int) (x3 : Int) (x4 : Int) (x5 : Int) (x6 : Int) (x7 : Int) (x8 : Int) (x9 : Int) (x10 : Int) (x11 : Int) (x12 : Int) (x13 : Int) (x14 : Int) (x15 : List Int) (x16 : List T713d.T) (x17 : List Int) (x18 : List Int) (x19 : Int) (x20 : T4414.T) (x21 : List (List (List T1383.T))) (x22 : List T23b6.T) (x23 : T4414.T) (x24 : List T814c.T) : Option R :=
  l1 x1 x2 x3 x4 x5 x6 x7 x8 x9 x10 x11 x12 x13 x14 x15 x16 x17 x18 x19 x20 x21 x22 x23 k k 20 0 20 x24
theorem f_ok {r k x1 x2 x3 x4 x5 x6 x7 x8 x9 x10 x11 x12 x13 x14 x15 x16 x17 x18 x19 x20 x21 x22 x23 x24} (H : f k x1 x2 x3 x4 x5 x6 x7 x8 x9 x10 x11 x12 x13 x14 x15 x16 x17 x18 x19 x20 x21 x22 x23 x24 = some r) : Gw P 7 (Q x2 x3 x4 x5 x6 x7 x8 x9 x10 x11 x12 x13 x14 x15 x16 x17 x18 x19 x20 x21 x22 x23 r) (Px c0 1 []) (s0 x1 x2 x3 x4 x5 x6 x7 x8 x9 x10 x11 x12 x13 x14 x15 x16 x17 x18 x19 x20 x21 x22 x23 x24) := by
  unfold f at H
  refine Rg V_ok 0 [] az (by kernel_rfl) ?_
  refine Rg V_ok 0 [] az (by kernel_rfl) ?_
  exact LP k (Jm {fz := [], gr := 0, ad := [], live := [0, 1, 2, 6, 7, 8], src := [some 0, some 1, some 2, some 3, some 4, some 5, some 6]} (by kernel_rfl) (by kernel_rfl) (l1_ok k k 20 0 20 x24 H))
theorem ok {r k x1 x2 x3 x4 x5 x6 x7 x8 x9 x10 x11 x12 x13 x14 x15 x16 x17 x18 x19 x20 x21 x22 x23 x24} (H : f k x1 x2 x3 x4 x5 x6 x7 x8 x9 x10 x11 x12 x13 x14 x15 x16 x17 x18 x19 x20 x21 x22 x23 x24 = some r) : W P 7 c0 (s0 x1 x2 x3 x4 x5 x6 x7 x8 x9 x10 x11 x12 x13 x14 x15 x16 x17 x18 x19 x20 x21 x22 x23 x24) (CallQ 7 (out x2 x3 x4 x5 x6 x7 x8 x9 x10 x11 x12 x13 x14 x15 x16 x17 x18 x19 x20 x21 x22 x23 r)) := of_G (f_ok H)
theorem at_ : FnAt P 89 63 c0 Go.Proofs.Tryd.f89.results := fnAt Go.Proofs.Tryd.func89 (by kernel_rfl) (by decide) (by kernel_rfl) (by kernel_rfl)
end i_slices_stableCmpFunc_Ver_ded
/-! ### function 57, slices.SortStableFunc[[]wayfinder/api.Ver,wayfinder/api.Ver], where it is called -/
namespace i_slices_SortStableFunc_Ver_1be
noncomputable def c0 : Code := (Go.Proofs.Tryd.f57.body).getD .skip
noncomputable def V : Env := { tt := tt, Γ := slk [] }
theorem V_ok : EnvOk P V := { ck := tt_ck, fits := slk_nil, mixed := mixed }
abbrev R := (List T814c.T) × Unit
noncomputable def s0 (x1 : Int) (x2 : Int) (x3 : Int) (x4 : Int) (x5 : Int) (x6 : Int) (x7 : Int) (x8 : Int) (x9 : Int) (x10 : Int) (x11 : Int) (x12 : Int) (x13 : Int) (x14 : List Int) (x15 : List T713d.T) (x16 : List Int) (x17 : List Int) (x18 : Int) (x19 : T4414.T) (x20 : List (List (List T1383.T))) (x21 : List T23b6.T) (x22 : T4414.T) (x23 : List T814c.T) : St := ⟨9, [(0, .cv (.one (.own 6))), (1, .cv (.one (.fn 58 [] [])))], [(.box 13, [.nils, .int .i64 x1, .int .i64 x2, .int .i64 x3, .int .i64 x4, .int .i64 x5, .int .i64 x6, .nils, .nils, .nils, .nils, .nils, .int .i64 x7]), (.box 13, [.own 3, .int .i64 x8, .int .i64 x9, .int .i64 x10, .int .i64 x11, .int .i64 x12, .int .i64 x13, .sl (.int .i64) x14 .any, .own 4, .sl T713d x15 .any, .sl (.int .i64) x16 .any, .sl (.int .i64) x17 .any, .int .i64 x18]), (.box 10, (encC .any T4414 x19)), (.buf 64 (.slice (.slice T1383)) x20, []), (.buf 50 T23b6 x21, []), (.box 10, (encC .any T4414 x22)), (.buf 54 T814c x23, [])]⟩
noncomputable def out (x1 : Int) (x2 : Int) (x3 : Int) (x4 : Int) (x5 : Int) (x6 : Int) (x7 : Int) (x8 : Int) (x9 : Int) (x10 : Int) (x11 : Int) (x12 : Int) (x13 : Int) (x14 : List Int) (x15 : List T713d.T) (x16 : List Int) (x17 : List Int) (x18 : Int) (x19 : T4414.T) (x20 : List (List (List T1383.T))) (x21 : List T23b6.T) (x22 : T4414.T) (r : R) : St := ⟨9, [], [(.box 13, [.nils, .int .i64 x1, .int .i64 x2, .int .i64 x3, .int .i64 x4, .int .i64 x5, .int .i64 x6, .nils, .nils, .nils, .nils, .nils, .int .i64 x7]), (.box 13, [.own 3, .int .i64 x8, .int .i64 x9, .int .i64 x10, .int .i64 x11, .int .i64 x12, .int .i64 x13, .sl (.int .i64) x14 .any, .own 4, .sl T713d x15 .any, .sl (.int .i64) x16 .any, .sl (.int .i64) x17 .any, .int .i64 x18]), (.box 10, (encC .any T4414 x19)), (.buf 64 (.slice (.slice T1383)) x20, []), (.buf 50 T23b6 x21, []), (.box 10, (encC .any T4414 x22)), (.buf 54 T814c r.1, [])]⟩
abbrev Q (x1 : Int) (x2 : Int) (x3 : Int) (x4 : Int) (x5 : Int) (x6 : Int) (x7 : Int) (x8 : Int) (x9 : Int) (x10 : Int) (x11 : Int) (x12 : Int) (x13 : Int) (x14 : List Int) (x15 : List T713d.T) (x16 : List Int) (x17 : List Int) (x18 : Int) (x19 : T4414.T) (x20 : List (List (List T1383.T))) (x21 : List T23b6.T) (x22 : T4414.T) (r : R) := CallQ 7 (out x1 x2 x3 x4 x5 x6 x7 x8 x9 x10 x11 x12 x13 x14 x15 x16 x17 x18 x19 x20 x21 x22 r)
noncomputable def f (k : Nat) (x1 : Int) (x2 : Int) (x3 : Int) (x4 : Int) (x5 : Int) (x6 : Int) (x7 : Int) (x8 : Int) (x9 : Int) (x10 : Int) (x11 : Int) (x12 : Int) (x13 : Int) (x14 : List Int) (x15 : List T713d.T) (x16 : List Int) (x17 : List Int) (x18 : Int) (x19 : T4414.T) (x20 : List (List (List T1383.T))) (x21 : List T23b6.T) (x22 : T4414.T) (x23 : List T814c.T) : Option R :=
  (i_slices_stableCmpFunc_Ver_ded.f k (x23.length : Int) x1 x2 x3 x4 x5 x6 x7 x8 x9 x10 x11 x12 x13 x14 x15 x16 x17 x18 x19 x20 x21 x22 x23).bind fun y1 =>
    some (y1.1, ())
theorem f_ok {r k x1 x2 x3 x4 x5 x6 x7 x8 x9 x10 x11 x12 x13 x14 x15 x16 x17 x18 x19 x20 x21 x22 x23} (H : f k x1 x2 x3 x4 x5 x6 x7 x8 x9 x10 x11 x12 x13 x14 x15 x16 x17 x18 x19 x20 x21 x22 x23 = some r) : Gw P 7 (Q x1 x2 x3 x4 x5 x6 x7 x8 x9 x10 x11 x12 x13 x14 x15 x16 x17 x18 x19 x20 x21 x22 r) (Px c0 1 []) (s0 x1 x2 x3 x4 x5 x6 x7 x8 x9 x10 x11 x12 x13 x14 x15 x16 x17 x18 x19 x20 x21 x22 x23) := by
  unfold f at H
  refine GT {live := [0, 1], src := [some 0, some 1, some 2, some 3, some 4, some 5, some 6]} (by kernel_rfl) (RI (by kernel_rfl) ?_)
  refine EV V_ok 0 [] 4 az (by kernel_rfl) ?_
  obtain ⟨y1, e2, H⟩ := of_bind H
  refine CL V_ok i_slices_stableCmpFunc_Ver_ded.at_ (i_slices_stableCmpFunc_Ver_ded.ok e2) (by kernel_rfl) (by kernel_rfl) (by kernel_rfl) ?_
  refine RN (by kernel_rfl) (by kernel_rfl) ?_
  obtain rfl := Option.some.inj H
  exact Lq {fz := [], gr := 0, ad := [], live := [], src := [some 0, some 1, some 2, some 3, some 4, some 5, some 6]} (by kernel_rfl)
theorem ok {r k x1 x2 x3 x4 x5 x6 x7 x8 x9 x10 x11 x12 x13 x14 x15 x16 x17 x18 x19 x20 x21 x22 x23} (H : f k x1 x2 x3 x4 x5 x6 x7 x8 x9 x10 x11 x12 x13 x14 x15 x16 x17 x18 x19 x20 x21 x22 x23 = some r) : W P 7 c0 (s0 x1 x2 x3 x4 x5 x6 x7 x8 x9 x10 x11 x12 x13 x14 x15 x16 x17 x18 x19 x20 x21 x22 x23) (CallQ 7 (out x1 x2 x3 x4 x5 x6 x7 x8 x9 x10 x11 x12 x13 x14 x15 x16 x17 x18 x19 x20 x21 x22 r)) := of_G (f_ok H)
theorem at_ : FnAt P 57 9 c0 Go.Proofs.Tryd.f57.results := fnAt Go.Proofs.Tryd.func57 (by kernel_rfl) (by decide) (by kernel_rfl) (by kernel_rfl)
end i_slices_SortStableFunc_Ver_1be
/-! ### function 59, (*wayfinder/control.controller).flips, where it is called -/
namespace i_control_controller_flips_ed1
noncomputable def c0 : Code := (Go.Proofs.Tryd.f59.body).getD .skip
noncomputable def V : Env := { tt := tt, Γ := slk [] }
theorem V_ok : EnvOk P V := { ck := tt_ck, fits := slk_nil, mixed := mixed }
abbrev R := (Bool) × Unit
noncomputable def s0 (x1 : Int) (x2 : Int) (x3 : Int) (x4 : Int) (x5 : Int) (x6 : Int) (x7 : Int) (x8 : Int) (x9 : Int) (x10 : Int) (x11 : Int) (x12 : Int) (x13 : Int) (x14 : List Int) (x15 : List T713d.T) (x16 : List Int) (x17 : List Int) (x18 : Int) (x19 : T4414.T) (x20 : List (List (List T1383.T))) (x21 : List T23b6.T) (x22 : T4414.T) (x23 : List T814c.T) : St := ⟨17, [(0, .cv (.one (.ptr 1 0)))], [(.box 13, [.nils, .int .i64 x1, .int .i64 x2, .int .i64 x3, .int .i64 x4, .int .i64 x5, .int .i64 x6, .nils, .nils, .nils, .nils, .nils, .int .i64 x7]), (.box 13, [.own 3, .int .i64 x8, .int .i64 x9, .int .i64 x10, .int .i64 x11, .int .i64 x12, .int .i64 x13, .sl (.int .i64) x14 .any, .own 4, .sl T713d x15 .any, .sl (.int .i64) x16 .any, .sl (.int .i64) x17 .any, .int .i64 x18]), (.box 10, (encC .any T4414 x19)), (.buf 64 (.slice (.slice T1383)) x20, []), (.buf 50 T23b6 x21, []), (.box 10, (encC .any T4414 x22)), (.buf 54 T814c x23, [])]⟩
noncomputable def out (x1 : Int) (x2 : Int) (x3 : Int) (x4 : Int) (x5 : Int) (x6 : Int) (x7 : Int) (x8 : Int) (x9 : Int) (x10 : Int) (x11 : Int) (x12 : Int) (x13 : Int) (x14 : List Int) (x15 : List T713d.T) (x16 : List Int) (x17 : List Int) (x18 : Int) (x19 : T4414.T) (x20 : List (List (List T1383.T))) (x21 : List T23b6.T) (x22 : T4414.T) (x23 : List T814c.T) (r : R) : St := ⟨17, [(2, .cv (.one (.bool r.1)))], [(.box 13, [.nils, .int .i64 x1, .int .i64 x2, .int .i64 x3, .int .i64 x4, .int .i64 x5, .int .i64 x6, .nils, .nils, .nils, .nils, .nils, .int .i64 x7]), (.box 13, [.own 3, .int .i64 x8, .int .i64 x9, .int .i64 x10, .int .i64 x11, .int .i64 x12, .int .i64 x13, .sl (.int .i64) x14 .any, .own 4, .sl T713d x15 .any, .sl (.int .i64) x16 .any, .sl (.int .i64) x17 .any, .int .i64 x18]), (.box 10, (encC .any T4414 x19)), (.buf 64 (.slice (.slice T1383)) x20, []), (.buf 50 T23b6 x21, []), (.box 10, (encC .any T4414 x22)), (.buf 54 T814c x23, [])]⟩
abbrev Q (x1 : Int) (x2 : Int) (x3 : Int) (x4 : Int) (x5 : Int) (x6 : Int) (x7 : Int) (x8 : Int) (x9 : Int) (x10 : Int) (x11 : Int) (x12 : Int) (x13 : Int) (x14 : List Int) (x15 : List T713d.T) (x16 : List Int) (x17 : List Int) (x18 : Int) (x19 : T4414.T) (x20 : List (List (List T1383.T))) (x21 : List T23b6.T) (x22 : T4414.T) (x23 : List T814c.T) (r : R) := CallQ 7 (out x1 x2 x3 x4 x5 x6 x7 x8 x9 x10 x11 x12 x13 x14 x15 x16 x17 x18 x19 x20 x21 x22 x23 r)
noncomputable def f (k : Nat) (x1 : Int) (x2 : Int) (x3 : Int) (x4 : Int) (x5 : Int) (x6 : Int) (x7 : Int) (x8 : Int) (x9 : Int) (x10 : Int) (x11 : Int) (x12 : Int) (x13 : Int) (x14 : List Int) (x15 : List T713d.T) (x16 : List Int) (x17 : List Int) (x18 : Int) (x19 : T4414.T) (x20 : List (List (List T1383.T))) (x21 : List T23b6.T) (x22 : T4414.T) (x23 : List T814c.T) : Option R :=
  if (x12 == (2 : Int)) = true then
    some (true, ())
  else
    some ((x12 == (3 : Int)), ())
theorem f_ok {r k x1 x2 x3 x4 x5 x6 x7 x8 x9 x10 x11 x12 x13 x14 x15 x16 x17 x18 x19 x20 x21 x22 x23} (H : f k x1 x2 x3 x4 x5 x6 x7 x8 x9 x10 x11 x12 x13 x14 x15 x16 x17 x18 x19 x20 x21 x22 x23 = some r) : Gw P 7 (Q x1 x2 x3 x4 x5 x6 x7 x8 x9 x10 x11 x12 x13 x14 x15 x16 x17 x18 x19 x20 x21 x22 x23 r) (Px c0 1 []) (s0 x1 x2 x3 x4 x5 x6 x7 x8 x9 x10 x11 x12 x13 x14 x15 x16 x17 x18 x19 x20 x21 x22 x23) := by
  unfold f at H
  refine Rg V_ok 0 [] az (by kernel_rfl) ?_
  rcases of_ite H with ⟨hb1, H⟩ | ⟨hb1, H⟩
  · refine Rg V_ok 0 [(5, {bv := some true})] (ac hb1 az) (by kernel_rfl) ?_
    obtain rfl := Option.some.inj H
    exact Lq {fz := [], gr := 0, ad := [], live := [2], src := [some 0, some 1, some 2, some 3, some 4, some 5, some 6]} (by kernel_rfl)
  · refine Rg V_ok 0 [(5, {bv := some false})] (ac hb1 az) (by kernel_rfl) ?_
    obtain rfl := Option.some.inj H
    exact Lq {fz := [], gr := 0, ad := [], live := [2], src := [some 0, some 1, some 2, some 3, some 4, some 5, some 6]} (by kernel_rfl)
theorem ok {r k x1 x2 x3 x4 x5 x6 x7 x8 x9 x10 x11 x12 x13 x14 x15 x16 x17 x18 x19 x20 x21 x22 x23} (H : f k x1 x2 x3 x4 x5 x6 x7 x8 x9 x10 x11 x12 x13 x14 x15 x16 x17 x18 x19 x20 x21 x22 x23 = some r) : W P 7 c0 (s0 x1 x2 x3 x4 x5 x6 x7 x8 x9 x10 x11 x12 x13 x14 x15 x16 x17 x18 x19 x20 x21 x22 x23) (CallQ 7 (out x1 x2 x3 x4 x5 x6 x7 x8 x9 x10 x11 x12 x13 x14 x15 x16 x17 x18 x19 x20 x21 x22 x23 r)) := of_G (f_ok H)
theorem at_ : FnAt P 59 17 c0 Go.Proofs.Tryd.f59.results := fnAt Go.Proofs.Tryd.func59 (by kernel_rfl) (by decide) (by kernel_rfl) (by kernel_rfl)
end i_control_controller_flips_ed1
/-! ### function 59, (*wayfinder/control.controller).flips, where it is called -/
namespace i_control_controller_flips_8df
noncomputable def c0 : Code := (Go.Proofs.Tryd.f59.body).getD .skip
noncomputable def V : Env := { tt := tt, Γ := slk [] }
theorem V_ok : EnvOk P V := { ck := tt_ck, fits := slk_nil, mixed := mixed }
abbrev R := (Bool) × Unit
noncomputable def s0 (x1 : Int) (x2 : Int) (x3 : Int) (x4 : Int) (x5 : Int) (x6 : Int) (x7 : Int) (x8 : Int) (x9 : Int) (x10 : Int) (x11 : Int) (x12 : Int) (x13 : Int) (x14 : List Int) (x15 : List T713d.T) (x16 : List Int) (x17 : List Int) (x18 : Int) (x19 : T4414.T) (x20 : List (List (List T1383.T))) (x21 : List T23b6.T) (x22 : T4414.T) : St := ⟨17, [(0, .cv (.one (.ptr 1 0)))], [(.box 13, [.nils, .int .i64 x1, .int .i64 x2, .int .i64 x3, .int .i64 x4, .int .i64 x5, .int .i64 x6, .nils, .nils, .nils, .nils, .nils, .int .i64 x7]), (.box 13, [.own 3, .int .i64 x8, .int .i64 x9, .int .i64 x10, .int .i64 x11, .int .i64 x12, .int .i64 x13, .sl (.int .i64) x14 .any, .own 4, .sl T713d x15 .any, .sl (.int .i64) x16 .any, .sl (.int .i64) x17 .any, .int .i64 x18]), (.box 10, (encC .any T4414 x19)), (.buf 64 (.slice (.slice T1383)) x20, []), (.buf 50 T23b6 x21, []), (.box 10, (encC .any T4414 x22))]⟩
noncomputable def out (x1 : Int) (x2 : Int) (x3 : Int) (x4 : Int) (x5 : Int) (x6 : Int) (x7 : Int) (x8 : Int) (x9 : Int) (x10 : Int) (x11 : Int) (x12 : Int) (x13 : Int) (x14 : List Int) (x15 : List T713d.T) (x16 : List Int) (x17 : List Int) (x18 : Int) (x19 : T4414.T) (x20 : List (List (List T1383.T))) (x21 : List T23b6.T) (x22 : T4414.T) (r : R) : St := ⟨17, [(2, .cv (.one (.bool r.1)))], [(.box 13, [.nils, .int .i64 x1, .int .i64 x2, .int .i64 x3, .int .i64 x4, .int .i64 x5, .int .i64 x6, .nils, .nils, .nils, .nils, .nils, .int .i64 x7]), (.box 13, [.own 3, .int .i64 x8, .int .i64 x9, .int .i64 x10, .int .i64 x11, .int .i64 x12, .int .i64 x13, .sl (.int .i64) x14 .any, .own 4, .sl T713d x15 .any, .sl (.int .i64) x16 .any, .sl (.int .i64) x17 .any, .int .i64 x18]), (.box 10, (encC .any T4414 x19)), (.buf 64 (.slice (.slice T1383)) x20, []), (.buf 50 T23b6 x21, []), (.box 10, (encC .any T4414 x22))]⟩
abbrev Q (x1 : Int) (x2 : Int) (x3 : Int) (x4 : Int) (x5 : Int) (x6 : Int) (x7 : Int) (x8 : Int) (x9 : Int) (x10 : Int) (x11 : Int) (x12 : Int) (x13 : Int) (x14 : List Int) (x15 : List T713d.T) (x16 : List Int) (x17 : List Int) (x18 : Int) (x19 : T4414.T) (x20 : List (List (List T1383.T))) (x21 : List T23b6.T) (x22 : T4414.T) (r : R) := CallQ 6 (out x1 x2 x3 x4 x5 x6 x7 x8 x9 x10 x11 x12 x13 x14 x15 x16 x17 x18 x19 x20 x21 x22 r)
noncomputable def f (k : Nat) (x1 : Int) (x2 : Int) (x3 : Int) (x4 : Int) (x5 : Int) (x6 : Int) (x7 : Int) (x8 : Int) (x9 : Int) (x10 : Int) (x11 : Int) (x12 : Int) (x13 : Int) (x14 : List Int) (x15 : List T713d.T) (x16 : List Int) (x17 : List Int) (x18 : Int) (x19 : T4414.T) (x20 : List (List (List T1383.T))) (x21 : List T23b6.T) (x22 : T4414.T) : Option R :=
  if (x12 == (2 : Int)) = true then
    some (true, ())
  else
    some ((x12 == (3 : Int)), ())
theorem f_ok {r k x1 x2 x3 x4 x5 x6 x7 x8 x9 x10 x11 x12 x13 x14 x15 x16 x17 x18 x19 x20 x21 x22} (H : f k x1 x2 x3 x4 x5 x6 x7 x8 x9 x10 x11 x12 x13 x14 x15 x16 x17 x18 x19 x20 x21 x22 = some r) : Gw P 6 (Q x1 x2 x3 x4 x5 x6 x7 x8 x9 x10 x11 x12 x13 x14 x15 x16 x17 x18 x19 x20 x21 x22 r) (Px c0 1 []) (s0 x1 x2 x3 x4 x5 x6 x7 x8 x9 x10 x11 x12 x13 x14 x15 x16 x17 x18 x19 x20 x21 x22) := by
  unfold f at H
  refine Rg V_ok 0 [] az (by kernel_rfl) ?_
  rcases of_ite H with ⟨hb1, H⟩ | ⟨hb1, H⟩
  · refine Rg V_ok 0 [(5, {bv := some true})] (ac hb1 az) (by kernel_rfl) ?_
    obtain rfl := Option.some.inj H
    exact Lq {fz := [], gr := 0, ad := [], live := [2], src := [some 0, some 1, some 2, some 3, some 4, some 5]} (by kernel_rfl)
  · refine Rg V_ok 0 [(5, {bv := some false})] (ac hb1 az) (by kernel_rfl) ?_
    obtain rfl := Option.some.inj H
    exact Lq {fz := [], gr := 0, ad := [], live := [2], src := [some 0, some 1, some 2, some 3, some 4, some 5]} (by kernel_rfl)
theorem ok {r k x1 x2 x3 x4 x5 x6 x7 x8 x9 x10 x11 x12 x13 x14 x15 x16 x17 x18 x19 x20 x21 x22} (H : f k x1 x2 x3 x4 x5 x6 x7 x8 x9 x10 x11 x12 x13 x14 x15 x16 x17 x18 x19 x20 x21 x22 = some r) : W P 6 c0 (s0 x1 x2 x3 x4 x5 x6 x7 x8 x9 x10 x11 x12 x13 x14 x15 x16 x17 x18 x19 x20 x21 x22) (CallQ 6 (out x1 x2 x3 x4 x5 x6 x7 x8 x9 x10 x11 x12 x13 x14 x15 x16 x17 x18 x19 x20 x21 x22 r)) := of_G (f_ok H)
theorem at_ : FnAt P 59 17 c0 Go.Proofs.Tryd.f59.results := fnAt Go.Proofs.Tryd.func59 (by kernel_rfl) (by decide) (by kernel_rfl) (by kernel_rfl)
end i_control_controller_flips_8df
/-! ### function 24, (*wayfinder/control.controller).live, where it is called -/
namespace i_control_controller_live_2aa
noncomputable def c0 : Code := (Go.Proofs.Tryd.f24.body).getD .skip
noncomputable def V : Env := { tt := tt, Γ := slk [(56, f_conf_At.S)] }
theorem V_ok : EnvOk P V := { ck := tt_ck, fits := slk_cons f_conf_At.fits (slk_nil), mixed := mixed }
abbrev R := (List T814c.T) × (Int) × Unit
noncomputable def s0 (x1 : Int) (x2 : Int) (x3 : Int) (x4 : Int) (x5 : Int) (x6 : Int) (x7 : Int) (x8 : Int) (x9 : Int) (x10 : Int) (x11 : Int) (x12 : Int) (x13 : Int) (x14 : Int) (x15 : List Int) (x16 : List T713d.T) (x17 : List Int) (x18 : List Int) (x19 : Int) (x20 : T4414.T) (x21 : List (List (List T1383.T))) (x22 : List T23b6.T) (x23 : T4414.T) : St := ⟨70, [(0, .cv (.one (.ptr 1 0))), (1, .cv (.one (.int .i64 x1)))], [(.box 13, [.nils, .int .i64 x2, .int .i64 x3, .int .i64 x4, .int .i64 x5, .int .i64 x6, .int .i64 x7, .nils, .nils, .nils, .nils, .nils, .int .i64 x8]), (.box 13, [.own 3, .int .i64 x9, .int .i64 x10, .int .i64 x11, .int .i64 x12, .int .i64 x13, .int .i64 x14, .sl (.int .i64) x15 .any, .own 4, .sl T713d x16 .any, .sl (.int .i64) x17 .any, .sl (.int .i64) x18 .any, .int .i64 x19]), (.box 10, (encC .any T4414 x20)), (.buf 64 (.slice (.slice T1383)) x21, []), (.buf 50 T23b6 x22, []), (.box 10, (encC .any T4414 x23))]⟩
noncomputable def out (x2 : Int) (x3 : Int) (x4 : Int) (x5 : Int) (x6 : Int) (x7 : Int) (x8 : Int) (x9 : Int) (x10 : Int) (x11 : Int) (x12 : Int) (x13 : Int) (x14 : Int) (x15 : List Int) (x16 : List T713d.T) (x17 : List Int) (x18 : List Int) (x19 : Int) (x20 : T4414.T) (x21 : List (List (List T1383.T))) (x22 : List T23b6.T) (x23 : T4414.T) (r : R) : St := ⟨70, [(4, .cv (.one (.sl T814c r.1 .any))), (5, .cv (.one (.int .i64 r.2.1)))], [(.box 13, [.nils, .int .i64 x2, .int .i64 x3, .int .i64 x4, .int .i64 x5, .int .i64 x6, .int .i64 x7, .nils, .nils, .nils, .nils, .nils, .int .i64 x8]), (.box 13, [.own 3, .int .i64 x9, .int .i64 x10, .int .i64 x11, .int .i64 x12, .int .i64 x13, .int .i64 x14, .sl (.int .i64) x15 .any, .own 4, .sl T713d x16 .any, .sl (.int .i64) x17 .any, .sl (.int .i64) x18 .any, .int .i64 x19]), (.box 10, (encC .any T4414 x20)), (.buf 64 (.slice (.slice T1383)) x21, []), (.buf 50 T23b6 x22, []), (.box 10, (encC .any T4414 x23))]⟩
abbrev Q (x2 : Int) (x3 : Int) (x4 : Int) (x5 : Int) (x6 : Int) (x7 : Int) (x8 : Int) (x9 : Int) (x10 : Int) (x11 : Int) (x12 : Int) (x13 : Int) (x14 : Int) (x15 : List Int) (x16 : List T713d.T) (x17 : List Int) (x18 : List Int) (x19 : Int) (x20 : T4414.T) (x21 : List (List (List T1383.T))) (x22 : List T23b6.T) (x23 : T4414.T) (r : R) := CallQ 6 (out x2 x3 x4 x5 x6 x7 x8 x9 x10 x11 x12 x13 x14 x15 x16 x17 x18 x19 x20 x21 x22 x23 r)
noncomputable def s2 (x2 : Int) (x3 : Int) (x4 : Int) (x5 : Int) (x6 : Int) (x7 : Int) (x8 : Int) (x9 : Int) (x10 : Int) (x11 : Int) (x12 : Int) (x13 : Int) (x14 : Int) (x15 : List Int) (x16 : List T713d.T) (x17 : List Int) (x18 : List Int) (x19 : Int) (x20 : T4414.T) (x21 : List (List (List T1383.T))) (x22 : List T23b6.T) (x23 : T4414.T) (p24 : List T814c.T) : St := ⟨70, [(0, .cv (.one (.ptr 1 0))), (6, .cv (.one (.own 6))), (7, .cv (.one (.int .i64 x11)))], [(.box 13, [.nils, .int .i64 x2, .int .i64 x3, .int .i64 x4, .int .i64 x5, .int .i64 x6, .int .i64 x7, .nils, .nils, .nils, .nils, .nils, .int .i64 x8]), (.box 13, [.own 3, .int .i64 x9, .int .i64 x10, .int .i64 x11, .int .i64 x12, .int .i64 x13, .int .i64 x14, .sl (.int .i64) x15 .any, .own 4, .sl T713d x16 .any, .sl (.int .i64) x17 .any, .sl (.int .i64) x18 .any, .int .i64 x19]), (.box 10, (encC .any T4414 x20)), (.buf 64 (.slice (.slice T1383)) x21, []), (.buf 50 T23b6 x22, []), (.box 10, (encC .any T4414 x23)), (.buf 54 T814c p24, [])]⟩
noncomputable def s4 (x2 : Int) (x3 : Int) (x4 : Int) (x5 : Int) (x6 : Int) (x7 : Int) (x8 : Int) (x9 : Int) (x10 : Int) (x11 : Int) (x12 : Int) (x13 : Int) (x14 : Int) (x15 : List Int) (x16 : List T713d.T) (x17 : List Int) (x18 : List Int) (x19 : Int) (x20 : T4414.T) (x21 : List (List (List T1383.T))) (x22 : List T23b6.T) (x23 : T4414.T) (p2 : Bool) (p25 : List T814c.T) : St := ⟨70, [(0, .cv (.one (.ptr 1 0))), (6, .cv (.one (.own 6))), (7, .cv (.one (.int .i64 x11))), (62, .cv (.one (.bool p2)))], [(.box 13, [.nils, .int .i64 x2, .int .i64 x3, .int .i64 x4, .int .i64 x5, .int .i64 x6, .int .i64 x7, .nils, .nils, .nils, .nils, .nils, .int .i64 x8]), (.box 13, [.own 3, .int .i64 x9, .int .i64 x10, .int .i64 x11, .int .i64 x12, .int .i64 x13, .int .i64 x14, .sl (.int .i64) x15 .any, .own 4, .sl T713d x16 .any, .sl (.int .i64) x17 .any, .sl (.int .i64) x18 .any, .int .i64 x19]), (.box 10, (encC .any T4414 x20)), (.buf 64 (.slice (.slice T1383)) x21, []), (.buf 50 T23b6 x22, []), (.box 10, (encC .any T4414 x23)), (.buf 54 T814c p25, [])]⟩
noncomputable def s6 (x2 : Int) (x3 : Int) (x4 : Int) (x5 : Int) (x6 : Int) (x7 : Int) (x8 : Int) (x9 : Int) (x10 : Int) (x11 : Int) (x12 : Int) (x13 : Int) (x14 : Int) (x15 : List Int) (x16 : List T713d.T) (x17 : List Int) (x18 : List Int) (x19 : Int) (x20 : T4414.T) (x21 : List (List (List T1383.T))) (x22 : List T23b6.T) (x23 : T4414.T) (p23 : List T814c.T) : St := ⟨70, [(0, .cv (.one (.ptr 1 0))), (6, .cv (.one (.own 6)))], [(.box 13, [.nils, .int .i64 x2, .int .i64 x3, .int .i64 x4, .int .i64 x5, .int .i64 x6, .int .i64 x7, .nils, .nils, .nils, .nils, .nils, .int .i64 x8]), (.box 13, [.own 3, .int .i64 x9, .int .i64 x10, .int .i64 x11, .int .i64 x12, .int .i64 x13, .int .i64 x14, .sl (.int .i64) x15 .any, .own 4, .sl T713d x16 .any, .sl (.int .i64) x17 .any, .sl (.int .i64) x18 .any, .int .i64 x19]), (.box 10, (encC .any T4414 x20)), (.buf 64 (.slice (.slice T1383)) x21, []), (.buf 50 T23b6 x22, []), (.box 10, (encC .any T4414 x23)), (.buf 54 T814c p23, [])]⟩
noncomputable def s1 (x2 : Int) (x3 : Int) (x4 : Int) (x5 : Int) (x6 : Int) (x7 : Int) (x8 : Int) (x9 : Int) (x10 : Int) (x11 : Int) (x12 : Int) (x13 : Int) (x14 : Int) (x15 : List Int) (x16 : List T713d.T) (x17 : List Int) (x18 : List Int) (x19 : Int) (x20 : T4414.T) (x21 : List (List (List T1383.T))) (x22 : List T23b6.T) (x23 : T4414.T) (p1 : Int) (p24 : List T814c.T) : St := ⟨70, [(6, .cv (.one (.own 6))), (7, .cv (.one (.int .i64 p1)))], [(.box 13, [.nils, .int .i64 x2, .int .i64 x3, .int .i64 x4, .int .i64 x5, .int .i64 x6, .int .i64 x7, .nils, .nils, .nils, .nils, .nils, .int .i64 x8]), (.box 13, [.own 3, .int .i64 x9, .int .i64 x10, .int .i64 x11, .int .i64 x12, .int .i64 x13, .int .i64 x14, .sl (.int .i64) x15 .any, .own 4, .sl T713d x16 .any, .sl (.int .i64) x17 .any, .sl (.int .i64) x18 .any, .int .i64 x19]), (.box 10, (encC .any T4414 x20)), (.buf 64 (.slice (.slice T1383)) x21, []), (.buf 50 T23b6 x22, []), (.box 10, (encC .any T4414 x23)), (.buf 54 T814c p24, [])]⟩
noncomputable def j1 (x2 : Int) (x3 : Int) (x4 : Int) (x5 : Int) (x6 : Int) (x7 : Int) (x8 : Int) (x9 : Int) (x10 : Int) (x11 : Int) (x12 : Int) (x13 : Int) (x14 : Int) (x15 : List Int) (x16 : List T713d.T) (x17 : List Int) (x18 : List Int) (x19 : Int) (x20 : T4414.T) (x21 : List (List (List T1383.T))) (x22 : List T23b6.T) (x23 : T4414.T) (k : Nat) (p1 : Int) (p24 : List T814c.T) : Option R :=
  some (p24, (p1, ()))
theorem j1_ok {r x2 x3 x4 x5 x6 x7 x8 x9 x10 x11 x12 x13 x14 x15 x16 x17 x18 x19 x20 x21 x22 x23} {k p1 p24} (H : j1 x2 x3 x4 x5 x6 x7 x8 x9 x10 x11 x12 x13 x14 x15 x16 x17 x18 x19 x20 x21 x22 x23 k p1 p24 = some r) : Gw P 6 (Q x2 x3 x4 x5 x6 x7 x8 x9 x10 x11 x12 x13 x14 x15 x16 x17 x18 x19 x20 x21 x22 x23 r) (Px c0 31 []) (s1 x2 x3 x4 x5 x6 x7 x8 x9 x10 x11 x12 x13 x14 x15 x16 x17 x18 x19 x20 x21 x22 x23 p1 p24) := by
  unfold j1 at H
  refine Rg V_ok 0 [] az (by kernel_rfl) ?_
  obtain rfl := Option.some.inj H
  exact Lq {fz := [6], gr := 0, ad := [], live := [4, 5], src := [some 0, some 1, some 2, some 3, some 4, some 5]} (by kernel_rfl)
noncomputable def j6 (x2 : Int) (x3 : Int) (x4 : Int) (x5 : Int) (x6 : Int) (x7 : Int) (x8 : Int) (x9 : Int) (x10 : Int) (x11 : Int) (x12 : Int) (x13 : Int) (x14 : Int) (x15 : List Int) (x16 : List T713d.T) (x17 : List Int) (x18 : List Int) (x19 : Int) (x20 : T4414.T) (x21 : List (List (List T1383.T))) (x22 : List T23b6.T) (x23 : T4414.T) (k : Nat) (p23 : List T814c.T) : Option R :=
  j1 x2 x3 x4 x5 x6 x7 x8 x9 x10 x11 x12 x13 x14 x15 x16 x17 x18 x19 x20 x21 x22 x23 k x12 p23
theorem j6_ok {r x2 x3 x4 x5 x6 x7 x8 x9 x10 x11 x12 x13 x14 x15 x16 x17 x18 x19 x20 x21 x22 x23} {k p23} (H : j6 x2 x3 x4 x5 x6 x7 x8 x9 x10 x11 x12 x13 x14 x15 x16 x17 x18 x19 x20 x21 x22 x23 k p23 = some r) : Gw P 6 (Q x2 x3 x4 x5 x6 x7 x8 x9 x10 x11 x12 x13 x14 x15 x16 x17 x18 x19 x20 x21 x22 x23 r) (Px c0 87 []) (s6 x2 x3 x4 x5 x6 x7 x8 x9 x10 x11 x12 x13 x14 x15 x16 x17 x18 x19 x20 x21 x22 x23 p23) := by
  unfold j6 at H
  refine Rg V_ok 0 [] az (by kernel_rfl) ?_
  exact Jm {fz := [], gr := 0, ad := [], live := [6, 7], src := [some 0, some 1, some 2, some 3, some 4, some 5, some 6]} (by kernel_rfl) (by kernel_rfl) (j1_ok H)
noncomputable def j4 (x2 : Int) (x3 : Int) (x4 : Int) (x5 : Int) (x6 : Int) (x7 : Int) (x8 : Int) (x9 : Int) (x10 : Int) (x11 : Int) (x12 : Int) (x13 : Int) (x14 : Int) (x15 : List Int) (x16 : List T713d.T) (x17 : List Int) (x18 : List Int) (x19 : Int) (x20 : T4414.T) (x21 : List (List (List T1383.T))) (x22 : List T23b6.T) (x23 : T4414.T) (k : Nat) (p2 : Bool) (p25 : List T814c.T) : Option R :=
  if p2 = true then
  j6 x2 x3 x4 x5 x6 x7 x8 x9 x10 x11 x12 x13 x14 x15 x16 x17 x18 x19 x20 x21 x22 x23 k p25
else
  j1 x2 x3 x4 x5 x6 x7 x8 x9 x10 x11 x12 x13 x14 x15 x16 x17 x18 x19 x20 x21 x22 x23 k x11 p25
theorem j4_ok {r x2 x3 x4 x5 x6 x7 x8 x9 x10 x11 x12 x13 x14 x15 x16 x17 x18 x19 x20 x21 x22 x23} {k p2 p25} (H : j4 x2 x3 x4 x5 x6 x7 x8 x9 x10 x11 x12 x13 x14 x15 x16 x17 x18 x19 x20 x21 x22 x23 k p2 p25 = some r) : Gw P 6 (Q x2 x3 x4 x5 x6 x7 x8 x9 x10 x11 x12 x13 x14 x15 x16 x17 x18 x19 x20 x21 x22 x23 r) (Px c0 55 []) (s4 x2 x3 x4 x5 x6 x7 x8 x9 x10 x11 x12 x13 x14 x15 x16 x17 x18 x19 x20 x21 x22 x23 p2 p25) := by
  unfold j4 at H
  rcases of_ite H with ⟨hb16, H⟩ | ⟨hb16, H⟩
  · refine C1 hb16 (by kernel_rfl) ?_
    exact Jm {fz := [], gr := 0, ad := [], live := [0, 6], src := [some 0, some 1, some 2, some 3, some 4, some 5, some 6]} (by kernel_rfl) (by kernel_rfl) (j6_ok H)
  · refine C0 hb16 (by kernel_rfl) ?_
    exact Jm {fz := [], gr := 0, ad := [], live := [6, 7], src := [some 0, some 1, some 2, some 3, some 4, some 5, some 6]} (by kernel_rfl) (by kernel_rfl) (j1_ok H)
noncomputable def j2 (x2 : Int) (x3 : Int) (x4 : Int) (x5 : Int) (x6 : Int) (x7 : Int) (x8 : Int) (x9 : Int) (x10 : Int) (x11 : Int) (x12 : Int) (x13 : Int) (x14 : Int) (x15 : List Int) (x16 : List T713d.T) (x17 : List Int) (x18 : List Int) (x19 : Int) (x20 : T4414.T) (x21 : List (List (List T1383.T))) (x22 : List T23b6.T) (x23 : T4414.T) (k : Nat) (p24 : List T814c.T) : Option R :=
  (i_control_controller_flips_ed1.f k x2 x3 x4 x5 x6 x7 x8 x9 x10 x11 x12 x13 x14 x15 x16 x17 x18 x19 x20 x21 x22 x23 p24).bind fun y14 =>
  j4 x2 x3 x4 x5 x6 x7 x8 x9 x10 x11 x12 x13 x14 x15 x16 x17 x18 x19 x20 x21 x22 x23 k y14.1 p24
theorem j2_ok {r x2 x3 x4 x5 x6 x7 x8 x9 x10 x11 x12 x13 x14 x15 x16 x17 x18 x19 x20 x21 x22 x23} {k p24} (H : j2 x2 x3 x4 x5 x6 x7 x8 x9 x10 x11 x12 x13 x14 x15 x16 x17 x18 x19 x20 x21 x22 x23 k p24 = some r) : Gw P 6 (Q x2 x3 x4 x5 x6 x7 x8 x9 x10 x11 x12 x13 x14 x15 x16 x17 x18 x19 x20 x21 x22 x23 r) (Px c0 15 []) (s2 x2 x3 x4 x5 x6 x7 x8 x9 x10 x11 x12 x13 x14 x15 x16 x17 x18 x19 x20 x21 x22 x23 p24) := by
  unfold j2 at H
  refine GT {live := [0, 6, 7], src := [some 0, some 1, some 2, some 3, some 4, some 5, some 6]} (by kernel_rfl) (RI (by kernel_rfl) ?_)
  refine EV V_ok 0 [] 1 az (by kernel_rfl) ?_
  obtain ⟨y14, e15, H⟩ := of_bind H
  refine CL V_ok i_control_controller_flips_ed1.at_ (i_control_controller_flips_ed1.ok e15) (by kernel_rfl) (by kernel_rfl) (by kernel_rfl) ?_
  refine RN (by kernel_rfl) (by kernel_rfl) ?_
  exact Jm {fz := [], gr := 0, ad := [], live := [0, 6, 7, 62], src := [some 0, some 1, some 2, some 3, some 4, some 5, some 6]} (by kernel_rfl) (by kernel_rfl) (j4_ok H)
noncomputable def s3 (x2 : Int) (x3 : Int) (x4 : Int) (x5 : Int) (x6 : Int) (x7 : Int) (x8 : Int) (x9 : Int) (x10 : Int) (x11 : Int) (x12 : Int) (x13 : Int) (x14 : Int) (x15 : List Int) (x16 : List T713d.T) (x17 : List Int) (x18 : List Int) (x19 : Int) (x20 : T4414.T) (x21 : List (List (List T1383.T))) (x22 : List T23b6.T) (x23 : T4414.T) (p1 : List T814c.T) : St := ⟨70, [(0, .cv (.one (.ptr 1 0))), (6, .cv (.one (.sl T814c p1 .full))), (7, .cv (.one (.int .i64 x11)))], [(.box 13, [.nils, .int .i64 x2, .int .i64 x3, .int .i64 x4, .int .i64 x5, .int .i64 x6, .int .i64 x7, .nils, .nils, .nils, .nils, .nils, .int .i64 x8]), (.box 13, [.own 3, .int .i64 x9, .int .i64 x10, .int .i64 x11, .int .i64 x12, .int .i64 x13, .int .i64 x14, .sl (.int .i64) x15 .any, .own 4, .sl T713d x16 .any, .sl (.int .i64) x17 .any, .sl (.int .i64) x18 .any, .int .i64 x19]), (.box 10, (encC .any T4414 x20)), (.buf 64 (.slice (.slice T1383)) x21, []), (.buf 50 T23b6 x22, []), (.box 10, (encC .any T4414 x23))]⟩
noncomputable def s5 (x2 : Int) (x3 : Int) (x4 : Int) (x5 : Int) (x6 : Int) (x7 : Int) (x8 : Int) (x9 : Int) (x10 : Int) (x11 : Int) (x12 : Int) (x13 : Int) (x14 : Int) (x15 : List Int) (x16 : List T713d.T) (x17 : List Int) (x18 : List Int) (x19 : Int) (x20 : T4414.T) (x21 : List (List (List T1383.T))) (x22 : List T23b6.T) (x23 : T4414.T) (p1 : List T814c.T) (p3 : Bool) : St := ⟨70, [(0, .cv (.one (.ptr 1 0))), (6, .cv (.one (.sl T814c p1 .full))), (7, .cv (.one (.int .i64 x11))), (62, .cv (.one (.bool p3)))], [(.box 13, [.nils, .int .i64 x2, .int .i64 x3, .int .i64 x4, .int .i64 x5, .int .i64 x6, .int .i64 x7, .nils, .nils, .nils, .nils, .nils, .int .i64 x8]), (.box 13, [.own 3, .int .i64 x9, .int .i64 x10, .int .i64 x11, .int .i64 x12, .int .i64 x13, .int .i64 x14, .sl (.int .i64) x15 .any, .own 4, .sl T713d x16 .any, .sl (.int .i64) x17 .any, .sl (.int .i64) x18 .any, .int .i64 x19]), (.box 10, (encC .any T4414 x20)), (.buf 64 (.slice (.slice T1383)) x21, []), (.buf 50 T23b6 x22, []), (.box 10, (encC .any T4414 x23))]⟩
noncomputable def s7 (x2 : Int) (x3 : Int) (x4 : Int) (x5 : Int) (x6 : Int) (x7 : Int) (x8 : Int) (x9 : Int) (x10 : Int) (x11 : Int) (x12 : Int) (x13 : Int) (x14 : Int) (x15 : List Int) (x16 : List T713d.T) (x17 : List Int) (x18 : List Int) (x19 : Int) (x20 : T4414.T) (x21 : List (List (List T1383.T))) (x22 : List T23b6.T) (x23 : T4414.T) (p1 : List T814c.T) : St := ⟨70, [(0, .cv (.one (.ptr 1 0))), (6, .cv (.one (.sl T814c p1 .full)))], [(.box 13, [.nils, .int .i64 x2, .int .i64 x3, .int .i64 x4, .int .i64 x5, .int .i64 x6, .int .i64 x7, .nils, .nils, .nils, .nils, .nils, .int .i64 x8]), (.box 13, [.own 3, .int .i64 x9, .int .i64 x10, .int .i64 x11, .int .i64 x12, .int .i64 x13, .int .i64 x14, .sl (.int .i64) x15 .any, .own 4, .sl T713d x16 .any, .sl (.int .i64) x17 .any, .sl (.int .i64) x18 .any, .int .i64 x19]), (.box 10, (encC .any T4414 x20)), (.buf 64 (.slice (.slice T1383)) x21, []), (.buf 50 T23b6 x22, []), (.box 10, (encC .any T4414 x23))]⟩
noncomputable def s8 (x2 : Int) (x3 : Int) (x4 : Int) (x5 : Int) (x6 : Int) (x7 : Int) (x8 : Int) (x9 : Int) (x10 : Int) (x11 : Int) (x12 : Int) (x13 : Int) (x14 : Int) (x15 : List Int) (x16 : List T713d.T) (x17 : List Int) (x18 : List Int) (x19 : Int) (x20 : T4414.T) (x21 : List (List (List T1383.T))) (x22 : List T23b6.T) (x23 : T4414.T) (p1 : List T814c.T) (p2 : Int) : St := ⟨70, [(6, .cv (.one (.sl T814c p1 .full))), (7, .cv (.one (.int .i64 p2)))], [(.box 13, [.nils, .int .i64 x2, .int .i64 x3, .int .i64 x4, .int .i64 x5, .int .i64 x6, .int .i64 x7, .nils, .nils, .nils, .nils, .nils, .int .i64 x8]), (.box 13, [.own 3, .int .i64 x9, .int .i64 x10, .int .i64 x11, .int .i64 x12, .int .i64 x13, .int .i64 x14, .sl (.int .i64) x15 .any, .own 4, .sl T713d x16 .any, .sl (.int .i64) x17 .any, .sl (.int .i64) x18 .any, .int .i64 x19]), (.box 10, (encC .any T4414 x20)), (.buf 64 (.slice (.slice T1383)) x21, []), (.buf 50 T23b6 x22, []), (.box 10, (encC .any T4414 x23))]⟩
noncomputable def j8 (x2 : Int) (x3 : Int) (x4 : Int) (x5 : Int) (x6 : Int) (x7 : Int) (x8 : Int) (x9 : Int) (x10 : Int) (x11 : Int) (x12 : Int) (x13 : Int) (x14 : Int) (x15 : List Int) (x16 : List T713d.T) (x17 : List Int) (x18 : List Int) (x19 : Int) (x20 : T4414.T) (x21 : List (List (List T1383.T))) (x22 : List T23b6.T) (x23 : T4414.T) (k : Nat) (p1 : List T814c.T) (p2 : Int) : Option R :=
  some (p1, (p2, ()))
theorem j8_ok {r x2 x3 x4 x5 x6 x7 x8 x9 x10 x11 x12 x13 x14 x15 x16 x17 x18 x19 x20 x21 x22 x23} {k p1 p2} (H : j8 x2 x3 x4 x5 x6 x7 x8 x9 x10 x11 x12 x13 x14 x15 x16 x17 x18 x19 x20 x21 x22 x23 k p1 p2 = some r) : Gw P 6 (Q x2 x3 x4 x5 x6 x7 x8 x9 x10 x11 x12 x13 x14 x15 x16 x17 x18 x19 x20 x21 x22 x23 r) (Px c0 31 []) (s8 x2 x3 x4 x5 x6 x7 x8 x9 x10 x11 x12 x13 x14 x15 x16 x17 x18 x19 x20 x21 x22 x23 p1 p2) := by
  unfold j8 at H
  refine Rg V_ok 0 [] az (by kernel_rfl) ?_
  obtain rfl := Option.some.inj H
  exact Lq {fz := [], gr := 0, ad := [.tmp 4 (.any)], live := [4, 5], src := [some 0, some 1, some 2, some 3, some 4, some 5]} (by kernel_rfl)
noncomputable def j7 (x2 : Int) (x3 : Int) (x4 : Int) (x5 : Int) (x6 : Int) (x7 : Int) (x8 : Int) (x9 : Int) (x10 : Int) (x11 : Int) (x12 : Int) (x13 : Int) (x14 : Int) (x15 : List Int) (x16 : List T713d.T) (x17 : List Int) (x18 : List Int) (x19 : Int) (x20 : T4414.T) (x21 : List (List (List T1383.T))) (x22 : List T23b6.T) (x23 : T4414.T) (k : Nat) (p1 : List T814c.T) : Option R :=
  j8 x2 x3 x4 x5 x6 x7 x8 x9 x10 x11 x12 x13 x14 x15 x16 x17 x18 x19 x20 x21 x22 x23 k p1 x12
theorem j7_ok {r x2 x3 x4 x5 x6 x7 x8 x9 x10 x11 x12 x13 x14 x15 x16 x17 x18 x19 x20 x21 x22 x23} {k p1} (H : j7 x2 x3 x4 x5 x6 x7 x8 x9 x10 x11 x12 x13 x14 x15 x16 x17 x18 x19 x20 x21 x22 x23 k p1 = some r) : Gw P 6 (Q x2 x3 x4 x5 x6 x7 x8 x9 x10 x11 x12 x13 x14 x15 x16 x17 x18 x19 x20 x21 x22 x23 r) (Px c0 87 []) (s7 x2 x3 x4 x5 x6 x7 x8 x9 x10 x11 x12 x13 x14 x15 x16 x17 x18 x19 x20 x21 x22 x23 p1) := by
  unfold j7 at H
  refine Rg V_ok 0 [] az (by kernel_rfl) ?_
  exact Jm {fz := [], gr := 0, ad := [], live := [6, 7], src := [some 0, some 1, some 2, some 3, some 4, some 5]} (by kernel_rfl) (by kernel_rfl) (j8_ok H)
noncomputable def j5 (x2 : Int) (x3 : Int) (x4 : Int) (x5 : Int) (x6 : Int) (x7 : Int) (x8 : Int) (x9 : Int) (x10 : Int) (x11 : Int) (x12 : Int) (x13 : Int) (x14 : Int) (x15 : List Int) (x16 : List T713d.T) (x17 : List Int) (x18 : List Int) (x19 : Int) (x20 : T4414.T) (x21 : List (List (List T1383.T))) (x22 : List T23b6.T) (x23 : T4414.T) (k : Nat) (p1 : List T814c.T) (p3 : Bool) : Option R :=
  if p3 = true then
  j7 x2 x3 x4 x5 x6 x7 x8 x9 x10 x11 x12 x13 x14 x15 x16 x17 x18 x19 x20 x21 x22 x23 k p1
else
  j8 x2 x3 x4 x5 x6 x7 x8 x9 x10 x11 x12 x13 x14 x15 x16 x17 x18 x19 x20 x21 x22 x23 k p1 x11
theorem j5_ok {r x2 x3 x4 x5 x6 x7 x8 x9 x10 x11 x12 x13 x14 x15 x16 x17 x18 x19 x20 x21 x22 x23} {k p1 p3} (H : j5 x2 x3 x4 x5 x6 x7 x8 x9 x10 x11 x12 x13 x14 x15 x16 x17 x18 x19 x20 x21 x22 x23 k p1 p3 = some r) : Gw P 6 (Q x2 x3 x4 x5 x6 x7 x8 x9 x10 x11 x12 x13 x14 x15 x16 x17 x18 x19 x20 x21 x22 x23 r) (Px c0 55 []) (s5 x2 x3 x4 x5 x6 x7 x8 x9 x10 x11 x12 x13 x14 x15 x16 x17 x18 x19 x20 x21 x22 x23 p1 p3) := by
  unfold j5 at H
  rcases of_ite H with ⟨hb19, H⟩ | ⟨hb19, H⟩
  · refine C1 hb19 (by kernel_rfl) ?_
    exact Jm {fz := [], gr := 0, ad := [], live := [0, 6], src := [some 0, some 1, some 2, some 3, some 4, some 5]} (by kernel_rfl) (by kernel_rfl) (j7_ok H)
  · refine C0 hb19 (by kernel_rfl) ?_
    exact Jm {fz := [], gr := 0, ad := [], live := [6, 7], src := [some 0, some 1, some 2, some 3, some 4, some 5]} (by kernel_rfl) (by kernel_rfl) (j8_ok H)
noncomputable def j3 (x2 : Int) (x3 : Int) (x4 : Int) (x5 : Int) (x6 : Int) (x7 : Int) (x8 : Int) (x9 : Int) (x10 : Int) (x11 : Int) (x12 : Int) (x13 : Int) (x14 : Int) (x15 : List Int) (x16 : List T713d.T) (x17 : List Int) (x18 : List Int) (x19 : Int) (x20 : T4414.T) (x21 : List (List (List T1383.T))) (x22 : List T23b6.T) (x23 : T4414.T) (k : Nat) (p1 : List T814c.T) : Option R :=
  (i_control_controller_flips_8df.f k x2 x3 x4 x5 x6 x7 x8 x9 x10 x11 x12 x13 x14 x15 x16 x17 x18 x19 x20 x21 x22 x23).bind fun y17 =>
  j5 x2 x3 x4 x5 x6 x7 x8 x9 x10 x11 x12 x13 x14 x15 x16 x17 x18 x19 x20 x21 x22 x23 k p1 y17.1
theorem j3_ok {r x2 x3 x4 x5 x6 x7 x8 x9 x10 x11 x12 x13 x14 x15 x16 x17 x18 x19 x20 x21 x22 x23} {k p1} (H : j3 x2 x3 x4 x5 x6 x7 x8 x9 x10 x11 x12 x13 x14 x15 x16 x17 x18 x19 x20 x21 x22 x23 k p1 = some r) : Gw P 6 (Q x2 x3 x4 x5 x6 x7 x8 x9 x10 x11 x12 x13 x14 x15 x16 x17 x18 x19 x20 x21 x22 x23 r) (Px c0 15 []) (s3 x2 x3 x4 x5 x6 x7 x8 x9 x10 x11 x12 x13 x14 x15 x16 x17 x18 x19 x20 x21 x22 x23 p1) := by
  unfold j3 at H
  refine GT {live := [0, 6, 7], src := [some 0, some 1, some 2, some 3, some 4, some 5]} (by kernel_rfl) (RI (by kernel_rfl) ?_)
  refine EV V_ok 0 [] 1 az (by kernel_rfl) ?_
  obtain ⟨y17, e18, H⟩ := of_bind H
  refine CL V_ok i_control_controller_flips_8df.at_ (i_control_controller_flips_8df.ok e18) (by kernel_rfl) (by kernel_rfl) (by kernel_rfl) ?_
  refine RN (by kernel_rfl) (by kernel_rfl) ?_
  exact Jm {fz := [], gr := 0, ad := [], live := [0, 6, 7, 62], src := [some 0, some 1, some 2, some 3, some 4, some 5]} (by kernel_rfl) (by kernel_rfl) (j5_ok H)
noncomputable def f (k : Nat) (x1 : Int) (x2 : Int) (x3 : Int) (x4 : Int) (x5 : Int) (x6 : Int) (x7 : Int) (x8 : Int) (x9 : Int) (x10 : Int) (x11 : Int) (x12 : Int) (x13 : Int) (x14 : Int) (x15 : List Int) (x16 : List T713d.T) (x17 : List Int) (x18 : List Int) (x19 : Int) (x20 : T4414.T) (x21 : List (List (List T1383.T))) (x22 : List T23b6.T) (x23 : T4414.T) : Option R :=
  if 0 ≤ x9 then
    if x9 < (x21.length : Int) then
      (f_conf_At.f k (att (.slice (.slice T1383)) x21 x9) x1).bind fun y1 =>
        (i_control_controller_two_8df.f k x2 x3 x4 x5 x6 x7 x8 x9 x10 x11 x12 x13 x14 x15 x16 x17 x18 x19 x20 x21 x22 x23).bind fun y5 =>
          if y5.1 = true then
            if 0 ≤ x10 then
              if x10 < (x21.length : Int) then
                (f_conf_At.f k (att (.slice (.slice T1383)) x21 x10) x1).bind fun y8 =>
                  (i_slices_SortStableFunc_Ver_1be.f k x2 x3 x4 x5 x6 x7 x8 x9 x10 x11 x12 x13 x14 x15 x16 x17 x18 x19 x20 x21 x22 x23 [(x11, y1.1), (x12, y8.1)]).bind fun y12 =>
                    j2 x2 x3 x4 x5 x6 x7 x8 x9 x10 x11 x12 x13 x14 x15 x16 x17 x18 x19 x20 x21 x22 x23 k y12.1
              else none
            else none
          else
            j3 x2 x3 x4 x5 x6 x7 x8 x9 x10 x11 x12 x13 x14 x15 x16 x17 x18 x19 x20 x21 x22 x23 k [(x11, y1.1)]
    else none
  else none
theorem f_ok {r k x1 x2 x3 x4 x5 x6 x7 x8 x9 x10 x11 x12 x13 x14 x15 x16 x17 x18 x19 x20 x21 x22 x23} (H : f k x1 x2 x3 x4 x5 x6 x7 x8 x9 x10 x11 x12 x13 x14 x15 x16 x17 x18 x19 x20 x21 x22 x23 = some r) : Gw P 6 (Q x2 x3 x4 x5 x6 x7 x8 x9 x10 x11 x12 x13 x14 x15 x16 x17 x18 x19 x20 x21 x22 x23 r) (Px c0 1 []) (s0 x1 x2 x3 x4 x5 x6 x7 x8 x9 x10 x11 x12 x13 x14 x15 x16 x17 x18 x19 x20 x21 x22 x23) := by
  unfold f at H
  refine Rg V_ok 0 [] az (by kernel_rfl) ?_
  obtain ⟨n2, H⟩ := of_if H
  obtain ⟨n3, H⟩ := of_if H
  obtain ⟨y1, e4, H⟩ := of_bind H
  refine Rg V_ok 0 [(18, hr f_conf_At.S y1)] (ac n2 (ac n3 (ac (f_conf_At.rl e4) az))) (by kernel_rfl) ?_
  refine GT {live := [0, 1, 6, 7], src := [some 0, some 1, some 2, some 3, some 4, some 5]} (by kernel_rfl) (RI (by kernel_rfl) ?_)
  refine EV V_ok 0 [] 1 az (by kernel_rfl) ?_
  obtain ⟨y5, e6, H⟩ := of_bind H
  refine CL V_ok i_control_controller_two_8df.at_ (i_control_controller_two_8df.ok e6) (by kernel_rfl) (by kernel_rfl) (by kernel_rfl) ?_
  refine RN (by kernel_rfl) (by kernel_rfl) ?_
  rcases of_ite H with ⟨hb7, H⟩ | ⟨hb7, H⟩
  · refine C1 hb7 (by kernel_rfl) ?_
    obtain ⟨n9, H⟩ := of_if H
    obtain ⟨n10, H⟩ := of_if H
    obtain ⟨y8, e11, H⟩ := of_bind H
    refine Rg V_ok 1 [(19, hr f_conf_At.S y8), (22, hb 6)] (ac n9 (ac n10 (ac (f_conf_At.rl e11) (ac (show (1 + 1) * 32 ≤ 140737488355328 by decide) (ac (show 1 = 0 ∨ 0 < 1 by decide) az))))) (by kernel_rfl) ?_
    refine GT {live := [0, 6, 7], src := [some 0, some 1, some 2, some 3, some 4, some 5, some 6]} (by kernel_rfl) (RI (by kernel_rfl) ?_)
    refine EV V_ok 0 [] 1 az (by kernel_rfl) ?_
    obtain ⟨y12, e13, H⟩ := of_bind H
    refine CL V_ok i_slices_SortStableFunc_Ver_1be.at_ (i_slices_SortStableFunc_Ver_1be.ok e13) (by kernel_rfl) (by kernel_rfl) (by kernel_rfl) ?_
    refine RN (by kernel_rfl) (by kernel_rfl) ?_
    exact Jm {fz := [], gr := 0, ad := [], live := [0, 6, 7], src := [some 0, some 1, some 2, some 3, some 4, some 5, some 6]} (by kernel_rfl) (by kernel_rfl) (j2_ok H)
  · refine C0 hb7 (by kernel_rfl) ?_
    exact Jm {fz := [], gr := 0, ad := [], live := [0, 6, 7], src := [some 0, some 1, some 2, some 3, some 4, some 5]} (by kernel_rfl) (by kernel_rfl) (j3_ok H)
theorem ok {r k x1 x2 x3 x4 x5 x6 x7 x8 x9 x10 x11 x12 x13 x14 x15 x16 x17 x18 x19 x20 x21 x22 x23} (H : f k x1 x2 x3 x4 x5 x6 x7 x8 x9 x10 x11 x12 x13 x14 x15 x16 x17 x18 x19 x20 x21 x22 x23 = some r) : W P 6 c0 (s0 x1 x2 x3 x4 x5 x6 x7 x8 x9 x10 x11 x12 x13 x14 x15 x16 x17 x18 x19 x20 x21 x22 x23) (CallQ 6 (out x2 x3 x4 x5 x6 x7 x8 x9 x10 x11 x12 x13 x14 x15 x16 x17 x18 x19 x20 x21 x22 x23 r)) := of_G (f_ok H)
theorem at_ : FnAt P 24 70 c0 Go.Proofs.Tryd.f24.results := fnAt Go.Proofs.Tryd.func24 (by kernel_rfl) (by decide) (by kernel_rfl) (by kernel_rfl)
end i_control_controller_live_2aa
/-! ### function 26, (*wayfinder/control.controller).hello, where it is called -/
namespace i_control_controller_hello_a45
noncomputable def c0 : Code := (Go.Proofs.Tryd.f26.body).getD .skip
noncomputable def V : Env := { tt := tt, Γ := slk [(67, f_plan_Push.S), (68, f_sess_New.S), (69, f_plan_Sync.S)] }
theorem V_ok : EnvOk P V := { ck := tt_ck, fits := slk_cons f_plan_Push.fits (slk_cons f_sess_New.fits (slk_cons f_plan_Sync.fits (slk_nil))), mixed := mixed }
abbrev R := (List T23b6.T) × Unit
noncomputable def s0 (x1 : Int) (x2 : T4414.T) (x3 : Int) (x4 : Int) (x5 : Int) (x6 : Int) (x7 : Int) (x8 : Int) (x9 : Int) (x10 : Int) (x11 : Int) (x12 : Int) (x13 : Int) (x14 : Int) (x15 : Int) (x16 : List Int) (x17 : List T713d.T) (x18 : List Int) (x19 : List Int) (x20 : Int) (x21 : T4414.T) (x22 : List (List (List T1383.T))) (x23 : List T23b6.T) : St := ⟨38, [(0, .cv (.one (.ptr 1 0))), (1, .cv (.one (.int .i64 x1))), (2, .cv (.agg (encC .any T4414 x2)))], [(.box 13, [.nils, .int .i64 x3, .int .i64 x4, .int .i64 x5, .int .i64 x6, .int .i64 x7, .int .i64 x8, .nils, .nils, .nils, .nils, .nils, .int .i64 x9]), (.box 13, [.own 3, .int .i64 x10, .int .i64 x11, .int .i64 x12, .int .i64 x13, .int .i64 x14, .int .i64 x15, .sl (.int .i64) x16 .any, .own 4, .sl T713d x17 .any, .sl (.int .i64) x18 .any, .sl (.int .i64) x19 .any, .int .i64 x20]), (.box 10, (encC .any T4414 x21)), (.buf 64 (.slice (.slice T1383)) x22, []), (.buf 50 T23b6 x23, [])]⟩
noncomputable def out (x3 : Int) (x4 : Int) (x5 : Int) (x6 : Int) (x7 : Int) (x8 : Int) (x9 : Int) (x10 : Int) (x11 : Int) (x12 : Int) (x13 : Int) (x14 : Int) (x15 : Int) (x16 : List Int) (x17 : List T713d.T) (x18 : List Int) (x19 : List Int) (x20 : Int) (x21 : T4414.T) (x22 : List (List (List T1383.T))) (r : R) : St := ⟨38, [], [(.box 13, [.nils, .int .i64 x3, .int .i64 x4, .int .i64 x5, .int .i64 x6, .int .i64 x7, .int .i64 x8, .nils, .nils, .nils, .nils, .nils, .int .i64 x9]), (.box 13, [.own 3, .int .i64 x10, .int .i64 x11, .int .i64 x12, .int .i64 x13, .int .i64 x14, .int .i64 x15, .sl (.int .i64) x16 .any, .own 4, .sl T713d x17 .any, .sl (.int .i64) x18 .any, .sl (.int .i64) x19 .any, .int .i64 x20]), (.box 10, (encC .any T4414 x21)), (.buf 64 (.slice (.slice T1383)) x22, []), (.buf 50 T23b6 r.1, [])]⟩
abbrev Q (x3 : Int) (x4 : Int) (x5 : Int) (x6 : Int) (x7 : Int) (x8 : Int) (x9 : Int) (x10 : Int) (x11 : Int) (x12 : Int) (x13 : Int) (x14 : Int) (x15 : Int) (x16 : List Int) (x17 : List T713d.T) (x18 : List Int) (x19 : List Int) (x20 : Int) (x21 : T4414.T) (x22 : List (List (List T1383.T))) (r : R) := CallQ 5 (out x3 x4 x5 x6 x7 x8 x9 x10 x11 x12 x13 x14 x15 x16 x17 x18 x19 x20 x21 x22 r)
noncomputable def f (k : Nat) (x1 : Int) (x2 : T4414.T) (x3 : Int) (x4 : Int) (x5 : Int) (x6 : Int) (x7 : Int) (x8 : Int) (x9 : Int) (x10 : Int) (x11 : Int) (x12 : Int) (x13 : Int) (x14 : Int) (x15 : Int) (x16 : List Int) (x17 : List T713d.T) (x18 : List Int) (x19 : List Int) (x20 : Int) (x21 : T4414.T) (x22 : List (List (List T1383.T))) (x23 : List T23b6.T) : Option R :=
  if 0 ≤ x1 then
    if x1 < (x23.length : Int) then
      if (decide (x2.2.1 > ((att T23b6 x23 x1).1))) = true then
        (f_sess_New.f k x2.2.1).bind fun y4 =>
            (i_control_controller_live_2aa.f k x1 x3 x4 x5 x6 x7 x8 x9 x10 x11 x12 x13 x14 x15 x16 x17 x18 x19 x20 x21 x22 x23 x2).bind fun y6 =>
            (f_plan_Sync.f k y6.1 y6.2.1).bind fun y8 =>
                (f_plan_Push.f k y4.1 y8.1).bind fun y10 =>
                  some ((x23.set x1.toNat (x2.2.1, (0, y10.1))), ())
      else
        some (x23, ())
    else none
  else none
theorem f_ok {r k x1 x2 x3 x4 x5 x6 x7 x8 x9 x10 x11 x12 x13 x14 x15 x16 x17 x18 x19 x20 x21 x22 x23} (H : f k x1 x2 x3 x4 x5 x6 x7 x8 x9 x10 x11 x12 x13 x14 x15 x16 x17 x18 x19 x20 x21 x22 x23 = some r) : Gw P 5 (Q x3 x4 x5 x6 x7 x8 x9 x10 x11 x12 x13 x14 x15 x16 x17 x18 x19 x20 x21 x22 r) (Px c0 1 []) (s0 x1 x2 x3 x4 x5 x6 x7 x8 x9 x10 x11 x12 x13 x14 x15 x16 x17 x18 x19 x20 x21 x22 x23) := by
  unfold f at H
  refine Rg V_ok 1 [(0, hb 5)] az (by kernel_rfl) ?_
  obtain ⟨n1, H⟩ := of_if H
  obtain ⟨n2, H⟩ := of_if H
  refine Rg V_ok 0 [] (ac n1 (ac n2 az)) (by kernel_rfl) ?_
  rcases of_ite H with ⟨hb3, H⟩ | ⟨hb3, H⟩
  · refine C1 hb3 (by kernel_rfl) ?_
    obtain ⟨y4, e5, H⟩ := of_bind H
    obtain ⟨y6, e7, H⟩ := of_bind H
    obtain ⟨y8, e9, H⟩ := of_bind H
    obtain ⟨y10, e11, H⟩ := of_bind H
    let x : Nx := (Px c0 11 [])
    let t0 : St := ⟨38, [(0, .cv (.one (.ptr 1 0))), (1, .cv (.one (.int .i64 x1))), (5, .cv (.one (.ptr 5 0)))], [(.box 13, [.nils, .int .i64 x3, .int .i64 x4, .int .i64 x5, .int .i64 x6, .int .i64 x7, .int .i64 x8, .nils, .nils, .nils, .nils, .nils, .int .i64 x9]), (.box 13, [.own 3, .int .i64 x10, .int .i64 x11, .int .i64 x12, .int .i64 x13, .int .i64 x14, .int .i64 x15, .sl (.int .i64) x16 .any, .own 4, .sl T713d x17 .any, .sl (.int .i64) x18 .any, .sl (.int .i64) x19 .any, .int .i64 x20]), (.box 10, (encC .any T4414 x21)), (.buf 64 (.slice (.slice T1383)) x22, []), (.buf 50 T23b6 x23, []), (.box 10, (encC .any T4414 x2))]⟩
    refine Jm (x' := x) (τ := t0) {live := [0, 1, 5], src := [some 0, some 1, some 2, some 3, some 4, some 5]} (by kernel_rfl) (by kernel_rfl) ?_
    let Φ := phiX P 5 (Q x3 x4 x5 x6 x7 x8 x9 x10 x11 x12 x13 x14 x15 x16 x17 x18 x19 x20 x21 x22 r) x
    let t1 : St := stpS V x 0 [] 0 (tl [0, 1, 5, 18] [0, 1, 2, 3, 4, 5]) t0
    let t2 : St := stpS V x 0 [] 1 (tl [0, 1, 5, 19] [0, 1, 2, 3, 4, 5]) t1
    let t3 : St := stpS V x 0 [] 2 (tl [0, 1, 5, 20] [0, 1, 2, 3, 4, 5]) t2
    let t4 : St := stpS V x 0 [] 3 (tl [0, 1, 5, 21] [0, 1, 2, 3, 4, 5]) t3
    let t5 : St := stpS V x 0 [] 5 (tl [0, 1, 5, 21, 23] [0, 1, 2, 3, 4, 5]) t4
    let t6 : St := stpS V x 0 [] 6 (tl [0, 1, 5, 21, 23, 24] [0, 1, 2, 3, 4, 5]) t5
    let t7 : St := stpS V x 0 [] 8 (tl [0, 1, 5, 21, 23, 24, 26] [0, 1, 2, 3, 4, 5]) t6
    let t8 : St := stpS V x 0 [] 11 (tl [0, 1, 5, 21, 23, 24, 26, 29] [0, 1, 2, 3, 4, 5]) t7
    let t9 : St := stpS V x 0 [] 12 (tl [0, 5, 21, 23, 24, 26, 29, 30] [0, 1, 2, 3, 4, 5]) t8
    let t10 : St := stpS V x 0 [] 4 (tl [0, 5, 22, 23, 24, 26, 29, 30] [0, 1, 2, 3, 4, 5]) t9
    let t11 : St := stpS V x 0 [] 7 (tl [0, 5, 21, 23, 25, 26, 29, 30] [0, 1, 2, 3, 4, 5]) t9
    let t12 : St := stpS V x 0 [] 9 (tl [0, 5, 21, 23, 24, 27, 29, 30] [0, 1, 2, 3, 4, 5]) t9
    let t13 : St := stpS V x 0 [] 7 (tl [0, 5, 22, 23, 25, 26, 29, 30] [0, 1, 2, 3, 4, 5]) t10
    let t14 : St := stpS V x 0 [] 9 (tl [0, 5, 22, 23, 24, 27, 29, 30] [0, 1, 2, 3, 4, 5]) t10
    let t15 : St := stpS V x 0 [] 9 (tl [0, 5, 21, 23, 25, 27, 29, 30] [0, 1, 2, 3, 4, 5]) t11
    let t16 : St := stpS V x 0 [(10, hr f_sess_New.S y4)] 10 (tl [0, 5, 21, 23, 24, 28, 29, 30] [0, 1, 2, 3, 4, 5]) t12
    let t17 : St := stpS V x 0 [] 9 (tl [0, 5, 22, 23, 25, 27, 29, 30] [0, 1, 2, 3, 4, 5]) t13
    let t18 : St := stpS V x 0 [(10, hr f_sess_New.S y4)] 10 (tl [0, 5, 22, 23, 24, 28, 29, 30] [0, 1, 2, 3, 4, 5]) t14
    let t19 : St := stpS V x 0 [(10, hr f_sess_New.S y4)] 10 (tl [0, 5, 21, 23, 25, 28, 29, 30] [0, 1, 2, 3, 4, 5]) t15
    let t20 : St := clT V.tt x 13 Go.Proofs.Tryd.f24.results (tl [0, 5, 21, 23, 24, 28, 31] [0, 1, 2, 3, 4, 5]) t16 (i_control_controller_live_2aa.out x3 x4 x5 x6 x7 x8 x9 x10 x11 x12 x13 x14 x15 x16 x17 x18 x19 x20 x21 x22 x23 x2 y6)
    let t21 : St := stpS V x 0 [(10, hr f_sess_New.S y4)] 10 (tl [0, 5, 22, 23, 25, 28, 29, 30] [0, 1, 2, 3, 4, 5]) t17
    let t22 : St := clT V.tt x 13 Go.Proofs.Tryd.f24.results (tl [0, 5, 22, 23, 24, 28, 31] [0, 1, 2, 3, 4, 5]) t18 (i_control_controller_live_2aa.out x3 x4 x5 x6 x7 x8 x9 x10 x11 x12 x13 x14 x15 x16 x17 x18 x19 x20 x21 x22 x23 x2 y6)
    let t23 : St := clT V.tt x 13 Go.Proofs.Tryd.f24.results (tl [0, 5, 21, 23, 25, 28, 31] [0, 1, 2, 3, 4, 5]) t19 (i_control_controller_live_2aa.out x3 x4 x5 x6 x7 x8 x9 x10 x11 x12 x13 x14 x15 x16 x17 x18 x19 x20 x21 x22 x23 x2 y6)
    let t24 : St := stpS V x 0 [] 14 (tl [0, 5, 21, 23, 24, 28, 31, 32] [0, 1, 2, 3, 4, 5]) t20
    let t25 : St := clT V.tt x 13 Go.Proofs.Tryd.f24.results (tl [0, 5, 22, 23, 25, 28, 31] [0, 1, 2, 3, 4, 5]) t21 (i_control_controller_live_2aa.out x3 x4 x5 x6 x7 x8 x9 x10 x11 x12 x13 x14 x15 x16 x17 x18 x19 x20 x21 x22 x23 x2 y6)
    let t26 : St := stpS V x 0 [] 14 (tl [0, 5, 22, 23, 24, 28, 31, 32] [0, 1, 2, 3, 4, 5]) t22
    let t27 : St := stpS V x 0 [] 14 (tl [0, 5, 21, 23, 25, 28, 31, 32] [0, 1, 2, 3, 4, 5]) t23
    let t28 : St := stpS V x 0 [] 15 (tl [0, 5, 21, 23, 24, 28, 32, 33] [0, 1, 2, 3, 4, 5]) t24
    let t29 : St := stpS V x 0 [] 14 (tl [0, 5, 22, 23, 25, 28, 31, 32] [0, 1, 2, 3, 4, 5]) t25
    let t30 : St := stpS V x 0 [] 15 (tl [0, 5, 22, 23, 24, 28, 32, 33] [0, 1, 2, 3, 4, 5]) t26
    let t31 : St := stpS V x 0 [] 15 (tl [0, 5, 21, 23, 25, 28, 32, 33] [0, 1, 2, 3, 4, 5]) t27
    let t32 : St := stpS V x 0 [(16, hr f_plan_Sync.S y8)] 16 (tl [0, 5, 21, 23, 24, 28, 34] [0, 1, 2, 3, 4, 5]) t28
    let t33 : St := stpS V x 0 [] 15 (tl [0, 5, 22, 23, 25, 28, 32, 33] [0, 1, 2, 3, 4, 5]) t29
    let t34 : St := stpS V x 0 [(16, hr f_plan_Sync.S y8)] 16 (tl [0, 5, 22, 23, 24, 28, 34] [0, 1, 2, 3, 4, 5]) t30
    let t35 : St := stpS V x 0 [(16, hr f_plan_Sync.S y8)] 16 (tl [0, 5, 21, 23, 25, 28, 34] [0, 1, 2, 3, 4, 5]) t31
    let t36 : St := stpS V x 0 [(17, hr f_plan_Push.S y10)] 17 (tl [0, 5, 21, 23, 24, 35] [0, 1, 2, 3, 4, 5]) t32
    let t37 : St := stpS V x 0 [(16, hr f_plan_Sync.S y8)] 16 (tl [0, 5, 22, 23, 25, 28, 34] [0, 1, 2, 3, 4, 5]) t33
    let t38 : St := stpS V x 0 [(17, hr f_plan_Push.S y10)] 17 (tl [0, 5, 22, 23, 24, 35] [0, 1, 2, 3, 4, 5]) t34
    let t39 : St := stpS V x 0 [(17, hr f_plan_Push.S y10)] 17 (tl [0, 5, 21, 23, 25, 35] [0, 1, 2, 3, 4, 5]) t35
    let t40 : St := stpS V x 0 [(17, hr f_plan_Push.S y10)] 17 (tl [0, 5, 22, 23, 25, 35] [0, 1, 2, 3, 4, 5]) t37
    let t41 : St := stpS V x 0 [] 18 (tl [0, 5, 21, 23, 36] [0, 1, 2, 3, 4, 5]) t39
    let t42 : St := stpS V x 0 [] 18 (tl [0, 5, 22, 23, 36] [0, 1, 2, 3, 4, 5]) t40
    let t43 : St := stpS V x 0 [] 19 (tl [0, 5, 36, 37] [0, 1, 2, 3, 4, 5]) t42
    let t44 : St := stpS V x 0 [] 20 (tl [] [0, 1, 2, 3, 4]) t43
    have w44 : WA P 5 (opsX x) 0 (bs 21 2097151) Φ t44 := by
      refine WA_nil (by kernel_rfl) (RAn (by kernel_rfl) ?_)
      obtain rfl := Option.some.inj H
      exact Lq {fz := [], gr := 0, ad := [], live := [], src := [some 0, some 1, some 2, some 3, some 4]} (by kernel_rfl)
    have w43 : WA P 5 (opsX x) 1 (bs 21 1048575) Φ t43 := WAs (an (WE V_ok 0 [] 20 (tl [] [0, 1, 2, 3, 4]) az w44 (by kernel_rfl) (by kernel_rfl) (by kernel_rfl)) aN) (by kernel_rfl) rfl
    have w42 : WA P 5 (opsX x) 2 (bs 21 524287) Φ t42 := WAs (an (WE V_ok 0 [] 19 (tl [0, 5, 36, 37] [0, 1, 2, 3, 4, 5]) (ac n1 (ac n2 az)) w43 (by kernel_rfl) (by kernel_rfl) (by kernel_rfl)) aN) (by kernel_rfl) rfl
    have w41 : WA P 5 (opsX x) 3 (bs 21 524271) Φ t41 := WAs (an (WE V_ok 0 [] 4 (tl [0, 5, 22, 23, 36] [0, 1, 2, 3, 4, 5]) az w42 (by kernel_rfl) (by kernel_rfl) (by kernel_rfl)) aN) (by kernel_rfl) rfl
    have w40 : WA P 5 (opsX x) 3 (bs 21 262143) Φ t40 := WAs (an (WE V_ok 0 [] 18 (tl [0, 5, 22, 23, 36] [0, 1, 2, 3, 4, 5]) az w42 (by kernel_rfl) (by kernel_rfl) (by kernel_rfl)) aN) (by kernel_rfl) rfl
    have w39 : WA P 5 (opsX x) 4 (bs 21 262127) Φ t39 := WAs (an (WE V_ok 0 [] 4 (tl [0, 5, 22, 23, 25, 35] [0, 1, 2, 3, 4, 5]) az w40 (by kernel_rfl) (by kernel_rfl) (by kernel_rfl)) (an (WE V_ok 0 [] 18 (tl [0, 5, 21, 23, 36] [0, 1, 2, 3, 4, 5]) az w41 (by kernel_rfl) (by kernel_rfl) (by kernel_rfl)) aN)) (by kernel_rfl) rfl
    have w38 : WA P 5 (opsX x) 4 (bs 21 262015) Φ t38 := WAs (an (WE V_ok 0 [] 7 (tl [0, 5, 22, 23, 25, 35] [0, 1, 2, 3, 4, 5]) az w40 (by kernel_rfl) (by kernel_rfl) (by kernel_rfl)) aN) (by kernel_rfl) rfl
    have w37 : WA P 5 (opsX x) 4 (bs 21 131071) Φ t37 := WAs (an (WE V_ok 0 [(17, hr f_plan_Push.S y10)] 17 (tl [0, 5, 22, 23, 25, 35] [0, 1, 2, 3, 4, 5]) (ac (f_plan_Push.rl e11) az) w40 (by kernel_rfl) (by kernel_rfl) (by kernel_rfl)) aN) (by kernel_rfl) rfl
    have w36 : WA P 5 (opsX x) 5 (bs 21 261999) Φ t36 := WAs (an (WE V_ok 0 [] 4 (tl [0, 5, 22, 23, 24, 35] [0, 1, 2, 3, 4, 5]) az w38 (by kernel_rfl) (by kernel_rfl) (by kernel_rfl)) (an (WE V_ok 0 [] 7 (tl [0, 5, 21, 23, 25, 35] [0, 1, 2, 3, 4, 5]) az w39 (by kernel_rfl) (by kernel_rfl) (by kernel_rfl)) aN)) (by kernel_rfl) rfl
    have w35 : WA P 5 (opsX x) 5 (bs 21 131055) Φ t35 := WAs (an (WE V_ok 0 [] 4 (tl [0, 5, 22, 23, 25, 28, 34] [0, 1, 2, 3, 4, 5]) az w37 (by kernel_rfl) (by kernel_rfl) (by kernel_rfl)) (an (WE V_ok 0 [(17, hr f_plan_Push.S y10)] 17 (tl [0, 5, 21, 23, 25, 35] [0, 1, 2, 3, 4, 5]) (ac (f_plan_Push.rl e11) az) w39 (by kernel_rfl) (by kernel_rfl) (by kernel_rfl)) aN)) (by kernel_rfl) rfl
    have w34 : WA P 5 (opsX x) 5 (bs 21 130943) Φ t34 := WAs (an (WE V_ok 0 [] 7 (tl [0, 5, 22, 23, 25, 28, 34] [0, 1, 2, 3, 4, 5]) az w37 (by kernel_rfl) (by kernel_rfl) (by kernel_rfl)) (an (WE V_ok 0 [(17, hr f_plan_Push.S y10)] 17 (tl [0, 5, 22, 23, 24, 35] [0, 1, 2, 3, 4, 5]) (ac (f_plan_Push.rl e11) az) w38 (by kernel_rfl) (by kernel_rfl) (by kernel_rfl)) aN)) (by kernel_rfl) rfl
    have w33 : WA P 5 (opsX x) 5 (bs 21 65535) Φ t33 := WAs (an (WE V_ok 0 [(16, hr f_plan_Sync.S y8)] 16 (tl [0, 5, 22, 23, 25, 28, 34] [0, 1, 2, 3, 4, 5]) (ac (f_plan_Sync.rl e9) az) w37 (by kernel_rfl) (by kernel_rfl) (by kernel_rfl)) aN) (by kernel_rfl) rfl
    have w32 : WA P 5 (opsX x) 6 (bs 21 130927) Φ t32 := WAs (an (WE V_ok 0 [] 4 (tl [0, 5, 22, 23, 24, 28, 34] [0, 1, 2, 3, 4, 5]) az w34 (by kernel_rfl) (by kernel_rfl) (by kernel_rfl)) (an (WE V_ok 0 [] 7 (tl [0, 5, 21, 23, 25, 28, 34] [0, 1, 2, 3, 4, 5]) az w35 (by kernel_rfl) (by kernel_rfl) (by kernel_rfl)) (an (WE V_ok 0 [(17, hr f_plan_Push.S y10)] 17 (tl [0, 5, 21, 23, 24, 35] [0, 1, 2, 3, 4, 5]) (ac (f_plan_Push.rl e11) az) w36 (by kernel_rfl) (by kernel_rfl) (by kernel_rfl)) aN))) (by kernel_rfl) rfl
    have w31 : WA P 5 (opsX x) 6 (bs 21 65519) Φ t31 := WAs (an (WE V_ok 0 [] 4 (tl [0, 5, 22, 23, 25, 28, 32, 33] [0, 1, 2, 3, 4, 5]) az w33 (by kernel_rfl) (by kernel_rfl) (by kernel_rfl)) (an (WE V_ok 0 [(16, hr f_plan_Sync.S y8)] 16 (tl [0, 5, 21, 23, 25, 28, 34] [0, 1, 2, 3, 4, 5]) (ac (f_plan_Sync.rl e9) az) w35 (by kernel_rfl) (by kernel_rfl) (by kernel_rfl)) aN)) (by kernel_rfl) rfl
    have w30 : WA P 5 (opsX x) 6 (bs 21 65407) Φ t30 := WAs (an (WE V_ok 0 [] 7 (tl [0, 5, 22, 23, 25, 28, 32, 33] [0, 1, 2, 3, 4, 5]) az w33 (by kernel_rfl) (by kernel_rfl) (by kernel_rfl)) (an (WE V_ok 0 [(16, hr f_plan_Sync.S y8)] 16 (tl [0, 5, 22, 23, 24, 28, 34] [0, 1, 2, 3, 4, 5]) (ac (f_plan_Sync.rl e9) az) w34 (by kernel_rfl) (by kernel_rfl) (by kernel_rfl)) aN)) (by kernel_rfl) rfl
    have w29 : WA P 5 (opsX x) 6 (bs 21 32767) Φ t29 := WT V_ok [] 15 (tl [0, 5, 22, 23, 25, 28, 32, 33] [0, 1, 2, 3, 4, 5]) az w33 (by kernel_rfl) (by kernel_rfl) (by kernel_rfl) (by kernel_rfl)
    have w28 : WA P 5 (opsX x) 7 (bs 21 65391) Φ t28 := WAs (an (WE V_ok 0 [] 4 (tl [0, 5, 22, 23, 24, 28, 32, 33] [0, 1, 2, 3, 4, 5]) az w30 (by kernel_rfl) (by kernel_rfl) (by kernel_rfl)) (an (WE V_ok 0 [] 7 (tl [0, 5, 21, 23, 25, 28, 32, 33] [0, 1, 2, 3, 4, 5]) az w31 (by kernel_rfl) (by kernel_rfl) (by kernel_rfl)) (an (WE V_ok 0 [(16, hr f_plan_Sync.S y8)] 16 (tl [0, 5, 21, 23, 24, 28, 34] [0, 1, 2, 3, 4, 5]) (ac (f_plan_Sync.rl e9) az) w32 (by kernel_rfl) (by kernel_rfl) (by kernel_rfl)) aN))) (by kernel_rfl) rfl
    have w27 : WA P 5 (opsX x) 7 (bs 21 32751) Φ t27 := WT V_ok [] 15 (tl [0, 5, 21, 23, 25, 28, 32, 33] [0, 1, 2, 3, 4, 5]) az w31 (by kernel_rfl) (by kernel_rfl) (by kernel_rfl) (by kernel_rfl)
    have w26 : WA P 5 (opsX x) 7 (bs 21 32639) Φ t26 := WT V_ok [] 15 (tl [0, 5, 22, 23, 24, 28, 32, 33] [0, 1, 2, 3, 4, 5]) az w30 (by kernel_rfl) (by kernel_rfl) (by kernel_rfl) (by kernel_rfl)
    have w25 : WA P 5 (opsX x) 7 (bs 21 16383) Φ t25 := WT V_ok [] 14 (tl [0, 5, 22, 23, 25, 28, 31, 32] [0, 1, 2, 3, 4, 5]) az w29 (by kernel_rfl) (by kernel_rfl) (by kernel_rfl) (by kernel_rfl)
    have w24 : WA P 5 (opsX x) 8 (bs 21 32623) Φ t24 := WT V_ok [] 15 (tl [0, 5, 21, 23, 24, 28, 32, 33] [0, 1, 2, 3, 4, 5]) az w28 (by kernel_rfl) (by kernel_rfl) (by kernel_rfl) (by kernel_rfl)
    have w23 : WA P 5 (opsX x) 8 (bs 21 16367) Φ t23 := WT V_ok [] 14 (tl [0, 5, 21, 23, 25, 28, 31, 32] [0, 1, 2, 3, 4, 5]) az w27 (by kernel_rfl) (by kernel_rfl) (by kernel_rfl) (by kernel_rfl)
    have w22 : WA P 5 (opsX x) 8 (bs 21 16255) Φ t22 := WT V_ok [] 14 (tl [0, 5, 22, 23, 24, 28, 31, 32] [0, 1, 2, 3, 4, 5]) az w26 (by kernel_rfl) (by kernel_rfl) (by kernel_rfl) (by kernel_rfl)
    have w21 : WA P 5 (opsX x) 8 (bs 21 8191) Φ t21 := WAs (an (WC V_ok 13 (tl [0, 5, 22, 23, 25, 28, 31] [0, 1, 2, 3, 4, 5]) i_control_controller_live_2aa.at_ (i_control_controller_live_2aa.ok e7) w25 (by kernel_rfl) (by kernel_rfl) (by kernel_rfl) (by kernel_rfl) (by kernel_rfl)) aN) (by kernel_rfl) rfl
    have w20 : WA P 5 (opsX x) 9 (bs 21 16239) Φ t20 := WT V_ok [] 14 (tl [0, 5, 21, 23, 24, 28, 31, 32] [0, 1, 2, 3, 4, 5]) az w24 (by kernel_rfl) (by kernel_rfl) (by kernel_rfl) (by kernel_rfl)
    have w19 : WA P 5 (opsX x) 9 (bs 21 8175) Φ t19 := WAs (an (WE V_ok 0 [] 4 (tl [0, 5, 22, 23, 25, 28, 29, 30] [0, 1, 2, 3, 4, 5]) az w21 (by kernel_rfl) (by kernel_rfl) (by kernel_rfl)) (an (WC V_ok 13 (tl [0, 5, 21, 23, 25, 28, 31] [0, 1, 2, 3, 4, 5]) i_control_controller_live_2aa.at_ (i_control_controller_live_2aa.ok e7) w23 (by kernel_rfl) (by kernel_rfl) (by kernel_rfl) (by kernel_rfl) (by kernel_rfl)) aN)) (by kernel_rfl) rfl
    have w18 : WA P 5 (opsX x) 9 (bs 21 8063) Φ t18 := WAs (an (WE V_ok 0 [] 7 (tl [0, 5, 22, 23, 25, 28, 29, 30] [0, 1, 2, 3, 4, 5]) az w21 (by kernel_rfl) (by kernel_rfl) (by kernel_rfl)) (an (WC V_ok 13 (tl [0, 5, 22, 23, 24, 28, 31] [0, 1, 2, 3, 4, 5]) i_control_controller_live_2aa.at_ (i_control_controller_live_2aa.ok e7) w22 (by kernel_rfl) (by kernel_rfl) (by kernel_rfl) (by kernel_rfl) (by kernel_rfl)) aN)) (by kernel_rfl) rfl
    have w17 : WA P 5 (opsX x) 9 (bs 21 7167) Φ t17 := WAs (an (WE V_ok 0 [(10, hr f_sess_New.S y4)] 10 (tl [0, 5, 22, 23, 25, 28, 29, 30] [0, 1, 2, 3, 4, 5]) (ac (f_sess_New.rl e5) az) w21 (by kernel_rfl) (by kernel_rfl) (by kernel_rfl)) aN) (by kernel_rfl) rfl
    have w16 : WA P 5 (opsX x) 10 (bs 21 8047) Φ t16 := WAs (an (WE V_ok 0 [] 4 (tl [0, 5, 22, 23, 24, 28, 29, 30] [0, 1, 2, 3, 4, 5]) az w18 (by kernel_rfl) (by kernel_rfl) (by kernel_rfl)) (an (WE V_ok 0 [] 7 (tl [0, 5, 21, 23, 25, 28, 29, 30] [0, 1, 2, 3, 4, 5]) az w19 (by kernel_rfl) (by kernel_rfl) (by kernel_rfl)) (an (WC V_ok 13 (tl [0, 5, 21, 23, 24, 28, 31] [0, 1, 2, 3, 4, 5]) i_control_controller_live_2aa.at_ (i_control_controller_live_2aa.ok e7) w20 (by kernel_rfl) (by kernel_rfl) (by kernel_rfl) (by kernel_rfl) (by kernel_rfl)) aN))) (by kernel_rfl) rfl
    have w15 : WA P 5 (opsX x) 10 (bs 21 7151) Φ t15 := WAs (an (WE V_ok 0 [] 4 (tl [0, 5, 22, 23, 25, 27, 29, 30] [0, 1, 2, 3, 4, 5]) az w17 (by kernel_rfl) (by kernel_rfl) (by kernel_rfl)) (an (WE V_ok 0 [(10, hr f_sess_New.S y4)] 10 (tl [0, 5, 21, 23, 25, 28, 29, 30] [0, 1, 2, 3, 4, 5]) (ac (f_sess_New.rl e5) az) w19 (by kernel_rfl) (by kernel_rfl) (by kernel_rfl)) aN)) (by kernel_rfl) rfl
    have w14 : WA P 5 (opsX x) 10 (bs 21 7039) Φ t14 := WAs (an (WE V_ok 0 [] 7 (tl [0, 5, 22, 23, 25, 27, 29, 30] [0, 1, 2, 3, 4, 5]) az w17 (by kernel_rfl) (by kernel_rfl) (by kernel_rfl)) (an (WE V_ok 0 [(10, hr f_sess_New.S y4)] 10 (tl [0, 5, 22, 23, 24, 28, 29, 30] [0, 1, 2, 3, 4, 5]) (ac (f_sess_New.rl e5) az) w18 (by kernel_rfl) (by kernel_rfl) (by kernel_rfl)) aN)) (by kernel_rfl) rfl
    have w13 : WA P 5 (opsX x) 10 (bs 21 6655) Φ t13 := WAs (an (WE V_ok 0 [] 9 (tl [0, 5, 22, 23, 25, 27, 29, 30] [0, 1, 2, 3, 4, 5]) az w17 (by kernel_rfl) (by kernel_rfl) (by kernel_rfl)) aN) (by kernel_rfl) rfl
    have w12 : WA P 5 (opsX x) 11 (bs 21 7023) Φ t12 := WAs (an (WE V_ok 0 [] 4 (tl [0, 5, 22, 23, 24, 27, 29, 30] [0, 1, 2, 3, 4, 5]) az w14 (by kernel_rfl) (by kernel_rfl) (by kernel_rfl)) (an (WE V_ok 0 [] 7 (tl [0, 5, 21, 23, 25, 27, 29, 30] [0, 1, 2, 3, 4, 5]) az w15 (by kernel_rfl) (by kernel_rfl) (by kernel_rfl)) (an (WE V_ok 0 [(10, hr f_sess_New.S y4)] 10 (tl [0, 5, 21, 23, 24, 28, 29, 30] [0, 1, 2, 3, 4, 5]) (ac (f_sess_New.rl e5) az) w16 (by kernel_rfl) (by kernel_rfl) (by kernel_rfl)) aN))) (by kernel_rfl) rfl
    have w11 : WA P 5 (opsX x) 11 (bs 21 6639) Φ t11 := WAs (an (WE V_ok 0 [] 4 (tl [0, 5, 22, 23, 25, 26, 29, 30] [0, 1, 2, 3, 4, 5]) az w13 (by kernel_rfl) (by kernel_rfl) (by kernel_rfl)) (an (WE V_ok 0 [] 9 (tl [0, 5, 21, 23, 25, 27, 29, 30] [0, 1, 2, 3, 4, 5]) az w15 (by kernel_rfl) (by kernel_rfl) (by kernel_rfl)) aN)) (by kernel_rfl) rfl
    have w10 : WA P 5 (opsX x) 11 (bs 21 6527) Φ t10 := WAs (an (WE V_ok 0 [] 7 (tl [0, 5, 22, 23, 25, 26, 29, 30] [0, 1, 2, 3, 4, 5]) az w13 (by kernel_rfl) (by kernel_rfl) (by kernel_rfl)) (an (WE V_ok 0 [] 9 (tl [0, 5, 22, 23, 24, 27, 29, 30] [0, 1, 2, 3, 4, 5]) az w14 (by kernel_rfl) (by kernel_rfl) (by kernel_rfl)) aN)) (by kernel_rfl) rfl
    have w9 : WA P 5 (opsX x) 12 (bs 21 6511) Φ t9 := WAs (an (WE V_ok 0 [] 4 (tl [0, 5, 22, 23, 24, 26, 29, 30] [0, 1, 2, 3, 4, 5]) az w10 (by kernel_rfl) (by kernel_rfl) (by kernel_rfl)) (an (WE V_ok 0 [] 7 (tl [0, 5, 21, 23, 25, 26, 29, 30] [0, 1, 2, 3, 4, 5]) az w11 (by kernel_rfl) (by kernel_rfl) (by kernel_rfl)) (an (WE V_ok 0 [] 9 (tl [0, 5, 21, 23, 24, 27, 29, 30] [0, 1, 2, 3, 4, 5]) az w12 (by kernel_rfl) (by kernel_rfl) (by kernel_rfl)) aN))) (by kernel_rfl) rfl
    have w8 : WA P 5 (opsX x) 13 (bs 21 2415) Φ t8 := WT V_ok [] 12 (tl [0, 5, 21, 23, 24, 26, 29, 30] [0, 1, 2, 3, 4, 5]) az w9 (by kernel_rfl) (by kernel_rfl) (by kernel_rfl) (by kernel_rfl)
    have w7 : WA P 5 (opsX x) 14 (bs 21 367) Φ t7 := WT V_ok [] 11 (tl [0, 1, 5, 21, 23, 24, 26, 29] [0, 1, 2, 3, 4, 5]) az w8 (by kernel_rfl) (by kernel_rfl) (by kernel_rfl) (by kernel_rfl)
    have w6 : WA P 5 (opsX x) 15 (bs 21 111) Φ t6 := WT V_ok [] 8 (tl [0, 1, 5, 21, 23, 24, 26] [0, 1, 2, 3, 4, 5]) az w7 (by kernel_rfl) (by kernel_rfl) (by kernel_rfl) (by kernel_rfl)
    have w5 : WA P 5 (opsX x) 16 (bs 21 47) Φ t5 := WT V_ok [] 6 (tl [0, 1, 5, 21, 23, 24] [0, 1, 2, 3, 4, 5]) az w6 (by kernel_rfl) (by kernel_rfl) (by kernel_rfl) (by kernel_rfl)
    have w4 : WA P 5 (opsX x) 17 (bs 21 15) Φ t4 := WT V_ok [] 5 (tl [0, 1, 5, 21, 23] [0, 1, 2, 3, 4, 5]) az w5 (by kernel_rfl) (by kernel_rfl) (by kernel_rfl) (by kernel_rfl)
    have w3 : WA P 5 (opsX x) 18 (bs 21 7) Φ t3 := WT V_ok [] 3 (tl [0, 1, 5, 21] [0, 1, 2, 3, 4, 5]) az w4 (by kernel_rfl) (by kernel_rfl) (by kernel_rfl) (by kernel_rfl)
    have w2 : WA P 5 (opsX x) 19 (bs 21 3) Φ t2 := WT V_ok [] 2 (tl [0, 1, 5, 20] [0, 1, 2, 3, 4, 5]) az w3 (by kernel_rfl) (by kernel_rfl) (by kernel_rfl) (by kernel_rfl)
    have w1 : WA P 5 (opsX x) 20 (bs 21 1) Φ t1 := WT V_ok [] 1 (tl [0, 1, 5, 19] [0, 1, 2, 3, 4, 5]) az w2 (by kernel_rfl) (by kernel_rfl) (by kernel_rfl) (by kernel_rfl)
    have w0 : WA P 5 (opsX x) 21 (bs 21 0) Φ t0 := WT V_ok [] 0 (tl [0, 1, 5, 18] [0, 1, 2, 3, 4, 5]) az w1 (by kernel_rfl) (by kernel_rfl) (by kernel_rfl) (by kernel_rfl)
    exact RA V_ok 21 (by kernel_rfl) (by kernel_rfl) (by kernel_rfl) w0
  · refine C0 hb3 (by kernel_rfl) ?_
    obtain rfl := Option.some.inj H
    exact Lq {fz := [], gr := 0, ad := [], live := [], src := [some 0, some 1, some 2, some 3, some 4]} (by kernel_rfl)
theorem ok {r k x1 x2 x3 x4 x5 x6 x7 x8 x9 x10 x11 x12 x13 x14 x15 x16 x17 x18 x19 x20 x21 x22 x23} (H : f k x1 x2 x3 x4 x5 x6 x7 x8 x9 x10 x11 x12 x13 x14 x15 x16 x17 x18 x19 x20 x21 x22 x23 = some r) : W P 5 c0 (s0 x1 x2 x3 x4 x5 x6 x7 x8 x9 x10 x11 x12 x13 x14 x15 x16 x17 x18 x19 x20 x21 x22 x23) (CallQ 5 (out x3 x4 x5 x6 x7 x8 x9 x10 x11 x12 x13 x14 x15 x16 x17 x18 x19 x20 x21 x22 r)) := of_G (f_ok H)
theorem at_ : FnAt P 26 38 c0 Go.Proofs.Tryd.f26.results := fnAt Go.Proofs.Tryd.func26 (by kernel_rfl) (by decide) (by kernel_rfl) (by kernel_rfl)
end i_control_controller_hello_a45
/-! ### function 27, (*wayfinder/control.controller).ack, where it is called -/
namespace i_control_controller_ack_a45
noncomputable def c0 : Code := (Go.Proofs.Tryd.f27.body).getD .skip
noncomputable def V : Env := { tt := tt, Γ := slk [(14, f_sess_Done.S)] }
theorem V_ok : EnvOk P V := { ck := tt_ck, fits := slk_cons f_sess_Done.fits (slk_nil), mixed := mixed }
abbrev R := (List T23b6.T) × Unit
noncomputable def s0 (x1 : Int) (x2 : T4414.T) (x3 : Int) (x4 : Int) (x5 : Int) (x6 : Int) (x7 : Int) (x8 : Int) (x9 : Int) (x10 : Int) (x11 : Int) (x12 : Int) (x13 : Int) (x14 : Int) (x15 : Int) (x16 : List Int) (x17 : List T713d.T) (x18 : List Int) (x19 : List Int) (x20 : Int) (x21 : T4414.T) (x22 : List (List (List T1383.T))) (x23 : List T23b6.T) : St := ⟨68, [(0, .cv (.one (.ptr 1 0))), (1, .cv (.one (.int .i64 x1))), (2, .cv (.agg (encC .any T4414 x2)))], [(.box 13, [.nils, .int .i64 x3, .int .i64 x4, .int .i64 x5, .int .i64 x6, .int .i64 x7, .int .i64 x8, .nils, .nils, .nils, .nils, .nils, .int .i64 x9]), (.box 13, [.own 3, .int .i64 x10, .int .i64 x11, .int .i64 x12, .int .i64 x13, .int .i64 x14, .int .i64 x15, .sl (.int .i64) x16 .any, .own 4, .sl T713d x17 .any, .sl (.int .i64) x18 .any, .sl (.int .i64) x19 .any, .int .i64 x20]), (.box 10, (encC .any T4414 x21)), (.buf 64 (.slice (.slice T1383)) x22, []), (.buf 50 T23b6 x23, [])]⟩
noncomputable def out (x3 : Int) (x4 : Int) (x5 : Int) (x6 : Int) (x7 : Int) (x8 : Int) (x9 : Int) (x10 : Int) (x11 : Int) (x12 : Int) (x13 : Int) (x14 : Int) (x15 : Int) (x16 : List Int) (x17 : List T713d.T) (x18 : List Int) (x19 : List Int) (x20 : Int) (x21 : T4414.T) (x22 : List (List (List T1383.T))) (r : R) : St := ⟨68, [], [(.box 13, [.nils, .int .i64 x3, .int .i64 x4, .int .i64 x5, .int .i64 x6, .int .i64 x7, .int .i64 x8, .nils, .nils, .nils, .nils, .nils, .int .i64 x9]), (.box 13, [.own 3, .int .i64 x10, .int .i64 x11, .int .i64 x12, .int .i64 x13, .int .i64 x14, .int .i64 x15, .sl (.int .i64) x16 .any, .own 4, .sl T713d x17 .any, .sl (.int .i64) x18 .any, .sl (.int .i64) x19 .any, .int .i64 x20]), (.box 10, (encC .any T4414 x21)), (.buf 64 (.slice (.slice T1383)) x22, []), (.buf 50 T23b6 r.1, [])]⟩
abbrev Q (x3 : Int) (x4 : Int) (x5 : Int) (x6 : Int) (x7 : Int) (x8 : Int) (x9 : Int) (x10 : Int) (x11 : Int) (x12 : Int) (x13 : Int) (x14 : Int) (x15 : Int) (x16 : List Int) (x17 : List T713d.T) (x18 : List Int) (x19 : List Int) (x20 : Int) (x21 : T4414.T) (x22 : List (List (List T1383.T))) (r : R) := CallQ 5 (out x3 x4 x5 x6 x7 x8 x9 x10 x11 x12 x13 x14 x15 x16 x17 x18 x19 x20 x21 x22 r)
noncomputable def s1 (x1 : Int) (x2 : T4414.T) (x3 : Int) (x4 : Int) (x5 : Int) (x6 : Int) (x7 : Int) (x8 : Int) (x9 : Int) (x10 : Int) (x11 : Int) (x12 : Int) (x13 : Int) (x14 : Int) (x15 : Int) (x16 : List Int) (x17 : List T713d.T) (x18 : List Int) (x19 : List Int) (x20 : Int) (x21 : T4414.T) (x22 : List (List (List T1383.T))) (x23 : List T23b6.T) (p2 : Bool) : St := ⟨68, [(5, .cv (.one (.ptr 5 0))), (6, .cv (.one (.eptr 4 T23b6 x1 0))), (50, .cv (.one (.bool p2)))], [(.box 13, [.nils, .int .i64 x3, .int .i64 x4, .int .i64 x5, .int .i64 x6, .int .i64 x7, .int .i64 x8, .nils, .nils, .nils, .nils, .nils, .int .i64 x9]), (.box 13, [.own 3, .int .i64 x10, .int .i64 x11, .int .i64 x12, .int .i64 x13, .int .i64 x14, .int .i64 x15, .sl (.int .i64) x16 .any, .own 4, .sl T713d x17 .any, .sl (.int .i64) x18 .any, .sl (.int .i64) x19 .any, .int .i64 x20]), (.box 10, (encC .any T4414 x21)), (.buf 64 (.slice (.slice T1383)) x22, []), (.buf 50 T23b6 x23, []), (.box 10, (encC .any T4414 x2))]⟩
noncomputable def j1 (x1 : Int) (x2 : T4414.T) (x3 : Int) (x4 : Int) (x5 : Int) (x6 : Int) (x7 : Int) (x8 : Int) (x9 : Int) (x10 : Int) (x11 : Int) (x12 : Int) (x13 : Int) (x14 : Int) (x15 : Int) (x16 : List Int) (x17 : List T713d.T) (x18 : List Int) (x19 : List Int) (x20 : Int) (x21 : T4414.T) (x22 : List (List (List T1383.T))) (x23 : List T23b6.T) (k : Nat) (p2 : Bool) : Option R :=
  if p2 = true then
  (f_sess_Done.f k (((att T23b6 x23 x1).2).2) x2.2.1 x2.2.2.1).bind fun y6 =>
    some (((x23.set x1.toNat ((att T23b6 x23 x1).1, (((att T23b6 x23 x1).2).1, y6.1))).set x1.toNat ((att T23b6 (x23.set x1.toNat ((att T23b6 x23 x1).1, (((att T23b6 x23 x1).2).1, y6.1))) x1).1, (x2.2.2.2.1, (((att T23b6 (x23.set x1.toNat ((att T23b6 x23 x1).1, (((att T23b6 x23 x1).2).1, y6.1))) x1).2).2)))), ())
else
  some (x23, ())
theorem j1_ok {r x1 x2 x3 x4 x5 x6 x7 x8 x9 x10 x11 x12 x13 x14 x15 x16 x17 x18 x19 x20 x21 x22 x23} {k p2} (H : j1 x1 x2 x3 x4 x5 x6 x7 x8 x9 x10 x11 x12 x13 x14 x15 x16 x17 x18 x19 x20 x21 x22 x23 k p2 = some r) : Gw P 5 (Q x3 x4 x5 x6 x7 x8 x9 x10 x11 x12 x13 x14 x15 x16 x17 x18 x19 x20 x21 x22 r) (Px c0 31 []) (s1 x1 x2 x3 x4 x5 x6 x7 x8 x9 x10 x11 x12 x13 x14 x15 x16 x17 x18 x19 x20 x21 x22 x23 p2) := by
  unfold j1 at H
  rcases of_ite H with ⟨hb5, H⟩ | ⟨hb5, H⟩
  · refine C1 hb5 (by kernel_rfl) ?_
    obtain ⟨y6, e7, H⟩ := of_bind H
    refine Rg V_ok 0 [(10, hr f_sess_Done.S y6)] (ac (f_sess_Done.rl e7) az) (by kernel_rfl) ?_
    obtain rfl := Option.some.inj H
    exact Lq {fz := [], gr := 0, ad := [], live := [], src := [some 0, some 1, some 2, some 3, some 4]} (by kernel_rfl)
  · refine C0 hb5 (by kernel_rfl) ?_
    obtain rfl := Option.some.inj H
    exact Lq {fz := [], gr := 0, ad := [], live := [], src := [some 0, some 1, some 2, some 3, some 4]} (by kernel_rfl)
noncomputable def f (k : Nat) (x1 : Int) (x2 : T4414.T) (x3 : Int) (x4 : Int) (x5 : Int) (x6 : Int) (x7 : Int) (x8 : Int) (x9 : Int) (x10 : Int) (x11 : Int) (x12 : Int) (x13 : Int) (x14 : Int) (x15 : Int) (x16 : List Int) (x17 : List T713d.T) (x18 : List Int) (x19 : List Int) (x20 : Int) (x21 : T4414.T) (x22 : List (List (List T1383.T))) (x23 : List T23b6.T) : Option R :=
  if 0 ≤ x1 then
    if x1 < (x23.length : Int) then
      if (x2.2.1 == ((att T23b6 x23 x1).1)) = true then
        if (decide (x2.2.2.1 ≥ (IntKind.i64.wrap ((IntKind.i64.wrap ((((((att T23b6 x23 x1).2).2).2).1) - 1)) - ((((((att T23b6 x23 x1).2).2).2).2).length : Int))))) = true then
          j1 x1 x2 x3 x4 x5 x6 x7 x8 x9 x10 x11 x12 x13 x14 x15 x16 x17 x18 x19 x20 x21 x22 x23 k (decide (x2.2.2.1 < (((((att T23b6 x23 x1).2).2).2).1)))
        else
          j1 x1 x2 x3 x4 x5 x6 x7 x8 x9 x10 x11 x12 x13 x14 x15 x16 x17 x18 x19 x20 x21 x22 x23 k false
      else
        j1 x1 x2 x3 x4 x5 x6 x7 x8 x9 x10 x11 x12 x13 x14 x15 x16 x17 x18 x19 x20 x21 x22 x23 k false
    else none
  else none
theorem f_ok {r k x1 x2 x3 x4 x5 x6 x7 x8 x9 x10 x11 x12 x13 x14 x15 x16 x17 x18 x19 x20 x21 x22 x23} (H : f k x1 x2 x3 x4 x5 x6 x7 x8 x9 x10 x11 x12 x13 x14 x15 x16 x17 x18 x19 x20 x21 x22 x23 = some r) : Gw P 5 (Q x3 x4 x5 x6 x7 x8 x9 x10 x11 x12 x13 x14 x15 x16 x17 x18 x19 x20 x21 x22 r) (Px c0 1 []) (s0 x1 x2 x3 x4 x5 x6 x7 x8 x9 x10 x11 x12 x13 x14 x15 x16 x17 x18 x19 x20 x21 x22 x23) := by
  unfold f at H
  refine Rg V_ok 1 [(0, hb 5)] az (by kernel_rfl) ?_
  obtain ⟨n1, H⟩ := of_if H
  obtain ⟨n2, H⟩ := of_if H
  refine Rg V_ok 0 [] (ac n1 (ac n2 az)) (by kernel_rfl) ?_
  refine Rg V_ok 0 [] az (by kernel_rfl) ?_
  rcases of_ite H with ⟨hb3, H⟩ | ⟨hb3, H⟩
  · rcases of_ite H with ⟨hb4, H⟩ | ⟨hb4, H⟩
    · refine Rg V_ok 0 [(6, {bv := some true}), (12, {bv := some true})] (ac hb3 (ac hb4 az)) (by kernel_rfl) ?_
      exact Jm {fz := [], gr := 0, ad := [], live := [5, 6, 50], src := [some 0, some 1, some 2, some 3, some 4, some 5]} (by kernel_rfl) (by kernel_rfl) (j1_ok H)
    · refine Rg V_ok 0 [(6, {bv := some true}), (12, {bv := some false})] (ac hb3 (ac hb4 az)) (by kernel_rfl) ?_
      exact Jm {fz := [], gr := 0, ad := [], live := [5, 6, 50], src := [some 0, some 1, some 2, some 3, some 4, some 5]} (by kernel_rfl) (by kernel_rfl) (j1_ok H)
  · refine Rg V_ok 0 [(6, {bv := some false})] (ac hb3 az) (by kernel_rfl) ?_
    exact Jm {fz := [], gr := 0, ad := [], live := [5, 6, 50], src := [some 0, some 1, some 2, some 3, some 4, some 5]} (by kernel_rfl) (by kernel_rfl) (j1_ok H)
theorem ok {r k x1 x2 x3 x4 x5 x6 x7 x8 x9 x10 x11 x12 x13 x14 x15 x16 x17 x18 x19 x20 x21 x22 x23} (H : f k x1 x2 x3 x4 x5 x6 x7 x8 x9 x10 x11 x12 x13 x14 x15 x16 x17 x18 x19 x20 x21 x22 x23 = some r) : W P 5 c0 (s0 x1 x2 x3 x4 x5 x6 x7 x8 x9 x10 x11 x12 x13 x14 x15 x16 x17 x18 x19 x20 x21 x22 x23) (CallQ 5 (out x3 x4 x5 x6 x7 x8 x9 x10 x11 x12 x13 x14 x15 x16 x17 x18 x19 x20 x21 x22 r)) := of_G (f_ok H)
theorem at_ : FnAt P 27 68 c0 Go.Proofs.Tryd.f27.results := fnAt Go.Proofs.Tryd.func27 (by kernel_rfl) (by decide) (by kernel_rfl) (by kernel_rfl)
end i_control_controller_ack_a45
/-! ### function 12, wayfinder/control.Heard -/
namespace f_control_Heard
noncomputable def c0 : Code := (Go.Proofs.Tryd.f12.body).getD .skip
abbrev ps : Sg := [(true, T26b3), (false, (.int .i64)), (false, (.slice (.int .u8)))]
abbrev rs : Sg := [(true, T26b3)]
noncomputable def V : Env := { tt := tt, Γ := slk [(19, f_frame_Open.S)] }
theorem V_ok : EnvOk P V := { ck := tt_ck, fits := slk_cons f_frame_Open.fits (slk_nil), mixed := mixed }
abbrev R := Tup rs
noncomputable abbrev Q (r : R) : Exit → St → Prop := Qr tt Go.Proofs.Tryd.f12.results ⟨ps, rs, .any, none, fun _ _ => True⟩ r
noncomputable def s1 (a2 : Int) (a3 : List Int) (p3 : Bool) (p4 : Int) (p5 : Int) (p6 : Int) (p7 : Int) (p8 : Int) (p9 : Int) (p10 : Int) (p11 : Int) (p12 : Int) (p13 : Int) (p14 : Int) (p15 : Int) (p16 : Int) (p17 : List Int) (p18 : List T713d.T) (p19 : List Int) (p20 : List Int) (p21 : Int) (p22 : List (List (List T1383.T))) (p23 : List T23b6.T) : St := ⟨75, [(1, .cv (.one (.int .i64 a2))), (2, .cv (.one (.sl (.int .u8) a3 .any))), (6, .cv (.one (.ptr 0 0))), (7, .cv (.one (.ptr 1 0))), (28, .cv (.one (.bool p3)))], [(.box 13, [.nils, .int .i64 p4, .int .i64 p5, .int .i64 p6, .int .i64 p7, .int .i64 p8, .int .i64 p9, .nils, .nils, .nils, .nils, .nils, .int .i64 p10]), (.box 13, [.own 2, .int .i64 p11, .int .i64 p12, .int .i64 p13, .int .i64 p14, .int .i64 p15, .int .i64 p16, .sl (.int .i64) p17 .any, .own 3, .sl T713d p18 .any, .sl (.int .i64) p19 .any, .sl (.int .i64) p20 .any, .int .i64 p21]), (.buf 64 (.slice (.slice T1383)) p22, []), (.buf 50 T23b6 p23, [])]⟩
noncomputable def s3 (a2 : Int) (p2 : Int) (p3 : Bool) (p4 : Int) (p5 : Int) (p6 : Int) (p7 : Int) (p8 : Int) (p9 : Int) (p10 : Int) (p11 : Int) (p12 : Int) (p13 : Int) (p14 : Int) (p15 : Int) (p16 : Int) (p17 : List Int) (p18 : List T713d.T) (p19 : List Int) (p20 : List Int) (p21 : Int) (p22 : T4414.T) (p23 : List (List (List T1383.T))) (p24 : List T23b6.T) : St := ⟨75, [(1, .cv (.one (.int .i64 a2))), (6, .cv (.one (.ptr 0 0))), (7, .cv (.one (.ptr 1 0))), (8, .cv (.one (.ptr 2 0))), (9, .cv (.one (.int .i64 p2))), (47, .cv (.one (.bool p3)))], [(.box 13, [.nils, .int .i64 p4, .int .i64 p5, .int .i64 p6, .int .i64 p7, .int .i64 p8, .int .i64 p9, .nils, .nils, .nils, .nils, .nils, .int .i64 p10]), (.box 13, [.own 3, .int .i64 p11, .int .i64 p12, .int .i64 p13, .int .i64 p14, .int .i64 p15, .int .i64 p16, .sl (.int .i64) p17 .any, .own 4, .sl T713d p18 .any, .sl (.int .i64) p19 .any, .sl (.int .i64) p20 .any, .int .i64 p21]), (.box 10, (encC .any T4414 p22)), (.buf 64 (.slice (.slice T1383)) p23, []), (.buf 50 T23b6 p24, [])]⟩
noncomputable def s2 (p1 : Int) (p2 : Int) (p3 : Int) (p4 : Int) (p5 : Int) (p6 : Int) (p7 : Int) (p8 : Int) (p9 : Int) (p10 : Int) (p11 : Int) (p12 : Int) (p13 : Int) (p14 : List Int) (p15 : List T713d.T) (p16 : List Int) (p17 : List Int) (p18 : Int) (p19 : List (List (List T1383.T))) (p20 : List T23b6.T) : St := ⟨75, [(6, .cv (.one (.ptr 0 0))), (7, .cv (.one (.ptr 1 0)))], [(.box 13, [.nils, .int .i64 p1, .int .i64 p2, .int .i64 p3, .int .i64 p4, .int .i64 p5, .int .i64 p6, .nils, .nils, .nils, .nils, .nils, .int .i64 p7]), (.box 13, [.own 2, .int .i64 p8, .int .i64 p9, .int .i64 p10, .int .i64 p11, .int .i64 p12, .int .i64 p13, .sl (.int .i64) p14 .any, .own 3, .sl T713d p15 .any, .sl (.int .i64) p16 .any, .sl (.int .i64) p17 .any, .int .i64 p18]), (.buf 64 (.slice (.slice T1383)) p19, []), (.buf 50 T23b6 p20, [])]⟩
noncomputable def j2 (k : Nat) (p1 : Int) (p2 : Int) (p3 : Int) (p4 : Int) (p5 : Int) (p6 : Int) (p7 : Int) (p8 : Int) (p9 : Int) (p10 : Int) (p11 : Int) (p12 : Int) (p13 : Int) (p14 : List Int) (p15 : List T713d.T) (p16 : List Int) (p17 : List Int) (p18 : Int) (p19 : List (List (List T1383.T))) (p20 : List T23b6.T) : Option R :=
  some ((p19, (p8, (p9, (p10, (p11, (p12, (p13, (p14, (p20, (p15, (p16, (p17, p18)))))))))))), ())
theorem j2_ok {r} {k p1 p2 p3 p4 p5 p6 p7 p8 p9 p10 p11 p12 p13 p14 p15 p16 p17 p18 p19 p20} (H : j2 k p1 p2 p3 p4 p5 p6 p7 p8 p9 p10 p11 p12 p13 p14 p15 p16 p17 p18 p19 p20 = some r) : Gw P 0 (Q r) (Px c0 63 []) (s2 p1 p2 p3 p4 p5 p6 p7 p8 p9 p10 p11 p12 p13 p14 p15 p16 p17 p18 p19 p20) := by
  unfold j2 at H
  refine Rg V_ok 0 [] az (by kernel_rfl) ?_
  exact Lf (Eq.trans (by kernel_rfl) H)
noncomputable def s4 (a2 : Int) (p2 : Bool) (p3 : Int) (p4 : Int) (p5 : Int) (p6 : Int) (p7 : Int) (p8 : Int) (p9 : Int) (p10 : Int) (p11 : Int) (p12 : Int) (p13 : Int) (p14 : Int) (p15 : Int) (p16 : List Int) (p17 : List T713d.T) (p18 : List Int) (p19 : List Int) (p20 : Int) (p21 : T4414.T) (p22 : List (List (List T1383.T))) (p23 : List T23b6.T) : St := ⟨75, [(1, .cv (.one (.int .i64 a2))), (6, .cv (.one (.ptr 0 0))), (7, .cv (.one (.ptr 1 0))), (8, .cv (.one (.ptr 2 0))), (59, .cv (.one (.bool p2)))], [(.box 13, [.nils, .int .i64 p3, .int .i64 p4, .int .i64 p5, .int .i64 p6, .int .i64 p7, .int .i64 p8, .nils, .nils, .nils, .nils, .nils, .int .i64 p9]), (.box 13, [.own 3, .int .i64 p10, .int .i64 p11, .int .i64 p12, .int .i64 p13, .int .i64 p14, .int .i64 p15, .sl (.int .i64) p16 .any, .own 4, .sl T713d p17 .any, .sl (.int .i64) p18 .any, .sl (.int .i64) p19 .any, .int .i64 p20]), (.box 10, (encC .any T4414 p21)), (.buf 64 (.slice (.slice T1383)) p22, []), (.buf 50 T23b6 p23, [])]⟩
noncomputable def j4 (a2 : Int) (k : Nat) (p2 : Bool) (p3 : Int) (p4 : Int) (p5 : Int) (p6 : Int) (p7 : Int) (p8 : Int) (p9 : Int) (p10 : Int) (p11 : Int) (p12 : Int) (p13 : Int) (p14 : Int) (p15 : Int) (p16 : List Int) (p17 : List T713d.T) (p18 : List Int) (p19 : List Int) (p20 : Int) (p21 : T4414.T) (p22 : List (List (List T1383.T))) (p23 : List T23b6.T) : Option R :=
  if p2 = true then
  (i_control_controller_ack_a45.f k a2 p21 p3 p4 p5 p6 p7 p8 p9 p10 p11 p12 p13 p14 p15 p16 p17 p18 p19 p20 p21 p22 p23).bind fun y15 =>
    j2 k p3 p4 p5 p6 p7 p8 p9 p10 p11 p12 p13 p14 p15 p16 p17 p18 p19 p20 p22 y15.1
else
  j2 k p3 p4 p5 p6 p7 p8 p9 p10 p11 p12 p13 p14 p15 p16 p17 p18 p19 (IntKind.i64.wrap (p20 + 1)) p22 p23
theorem j4_ok {r a2} {k p2 p3 p4 p5 p6 p7 p8 p9 p10 p11 p12 p13 p14 p15 p16 p17 p18 p19 p20 p21 p22 p23} (H : j4 a2 k p2 p3 p4 p5 p6 p7 p8 p9 p10 p11 p12 p13 p14 p15 p16 p17 p18 p19 p20 p21 p22 p23 = some r) : Gw P 0 (Q r) (Px c0 975 []) (s4 a2 p2 p3 p4 p5 p6 p7 p8 p9 p10 p11 p12 p13 p14 p15 p16 p17 p18 p19 p20 p21 p22 p23) := by
  unfold j4 at H
  rcases of_ite H with ⟨hb14, H⟩ | ⟨hb14, H⟩
  · refine C1 hb14 (by kernel_rfl) ?_
    refine GT {live := [1, 6, 7, 8], src := [some 0, some 1, some 2, some 3, some 4]} (by kernel_rfl) (RI (by kernel_rfl) ?_)
    refine EV V_ok 0 [] 3 az (by kernel_rfl) ?_
    obtain ⟨y15, e16, H⟩ := of_bind H
    refine CL V_ok i_control_controller_ack_a45.at_ (i_control_controller_ack_a45.ok e16) (by kernel_rfl) (by kernel_rfl) (by kernel_rfl) ?_
    refine RN (by kernel_rfl) (by kernel_rfl) ?_
    exact Jm {fz := [], gr := 0, ad := [], live := [6, 7], src := [some 0, some 1, some 3, some 4]} (by kernel_rfl) (by kernel_rfl) (j2_ok H)
  · refine C0 hb14 (by kernel_rfl) ?_
    refine Rg V_ok 0 [] az (by kernel_rfl) ?_
    exact Jm {fz := [], gr := 0, ad := [], live := [6, 7], src := [some 0, some 1, some 3, some 4]} (by kernel_rfl) (by kernel_rfl) (j2_ok H)
noncomputable def j3 (a2 : Int) (k : Nat) (p2 : Int) (p3 : Bool) (p4 : Int) (p5 : Int) (p6 : Int) (p7 : Int) (p8 : Int) (p9 : Int) (p10 : Int) (p11 : Int) (p12 : Int) (p13 : Int) (p14 : Int) (p15 : Int) (p16 : Int) (p17 : List Int) (p18 : List T713d.T) (p19 : List Int) (p20 : List Int) (p21 : Int) (p22 : T4414.T) (p23 : List (List (List T1383.T))) (p24 : List T23b6.T) : Option R :=
  if p3 = true then
  (i_control_controller_hello_a45.f k a2 p22 p4 p5 p6 p7 p8 p9 p10 p11 p12 p13 p14 p15 p16 p17 p18 p19 p20 p21 p22 p23 p24).bind fun y11 =>
    j2 k p4 p5 p6 p7 p8 p9 p10 p11 p12 p13 p14 p15 p16 p17 p18 p19 p20 p21 p23 y11.1
else
  if (p2 == (0 : Int)) = true then
    j4 a2 k (p22.1 == (1 : Int)) p4 p5 p6 p7 p8 p9 p10 p11 p12 p13 p14 p15 p16 p17 p18 p19 p20 p21 p22 p23 p24
  else
    j4 a2 k false p4 p5 p6 p7 p8 p9 p10 p11 p12 p13 p14 p15 p16 p17 p18 p19 p20 p21 p22 p23 p24
theorem j3_ok {r a2} {k p2 p3 p4 p5 p6 p7 p8 p9 p10 p11 p12 p13 p14 p15 p16 p17 p18 p19 p20 p21 p22 p23 p24} (H : j3 a2 k p2 p3 p4 p5 p6 p7 p8 p9 p10 p11 p12 p13 p14 p15 p16 p17 p18 p19 p20 p21 p22 p23 p24 = some r) : Gw P 0 (Q r) (Px c0 207 []) (s3 a2 p2 p3 p4 p5 p6 p7 p8 p9 p10 p11 p12 p13 p14 p15 p16 p17 p18 p19 p20 p21 p22 p23 p24) := by
  unfold j3 at H
  rcases of_ite H with ⟨hb10, H⟩ | ⟨hb10, H⟩
  · refine C1 hb10 (by kernel_rfl) ?_
    refine GT {live := [1, 6, 7, 8], src := [some 0, some 1, some 2, some 3, some 4]} (by kernel_rfl) (RI (by kernel_rfl) ?_)
    refine EV V_ok 0 [] 3 az (by kernel_rfl) ?_
    obtain ⟨y11, e12, H⟩ := of_bind H
    refine CL V_ok i_control_controller_hello_a45.at_ (i_control_controller_hello_a45.ok e12) (by kernel_rfl) (by kernel_rfl) (by kernel_rfl) ?_
    refine RN (by kernel_rfl) (by kernel_rfl) ?_
    exact Jm {fz := [], gr := 0, ad := [], live := [6, 7], src := [some 0, some 1, some 3, some 4]} (by kernel_rfl) (by kernel_rfl) (j2_ok H)
  · refine C0 hb10 (by kernel_rfl) ?_
    rcases of_ite H with ⟨hb13, H⟩ | ⟨hb13, H⟩
    · refine Rg V_ok 0 [(1, {bv := some true})] (ac hb13 az) (by kernel_rfl) ?_
      exact Jm {fz := [], gr := 0, ad := [], live := [1, 6, 7, 8, 59], src := [some 0, some 1, some 2, some 3, some 4]} (by kernel_rfl) (by kernel_rfl) (j4_ok H)
    · refine Rg V_ok 0 [(1, {bv := some false})] (ac hb13 az) (by kernel_rfl) ?_
      exact Jm {fz := [], gr := 0, ad := [], live := [1, 6, 7, 8, 59], src := [some 0, some 1, some 2, some 3, some 4]} (by kernel_rfl) (by kernel_rfl) (j4_ok H)
noncomputable def j1 (a2 : Int) (a3 : List Int) (k : Nat) (p3 : Bool) (p4 : Int) (p5 : Int) (p6 : Int) (p7 : Int) (p8 : Int) (p9 : Int) (p10 : Int) (p11 : Int) (p12 : Int) (p13 : Int) (p14 : Int) (p15 : Int) (p16 : Int) (p17 : List Int) (p18 : List T713d.T) (p19 : List Int) (p20 : List Int) (p21 : Int) (p22 : List (List (List T1383.T))) (p23 : List T23b6.T) : Option R :=
  if p3 = true then
  some ((p22, (p11, (p12, (p13, (p14, (p15, (p16, (p17, (p23, (p18, (p19, (p20, p21)))))))))))), ())
else
  (f_frame_Open.f k a3).bind fun y7 =>
    if (y7.2.1 == (0 : Int)) = true then
      j3 a2 k y7.2.1 (y7.1.1 == (0 : Int)) p4 p5 p6 p7 p8 p9 p10 p11 p12 p13 p14 p15 p16 p17 p18 p19 p20 p21 y7.1 p22 p23
    else
      j3 a2 k y7.2.1 false p4 p5 p6 p7 p8 p9 p10 p11 p12 p13 p14 p15 p16 p17 p18 p19 p20 p21 y7.1 p22 p23
theorem j1_ok {r a2 a3} {k p3 p4 p5 p6 p7 p8 p9 p10 p11 p12 p13 p14 p15 p16 p17 p18 p19 p20 p21 p22 p23} (H : j1 a2 a3 k p3 p4 p5 p6 p7 p8 p9 p10 p11 p12 p13 p14 p15 p16 p17 p18 p19 p20 p21 p22 p23 = some r) : Gw P 0 (Q r) (Px c0 27 []) (s1 a2 a3 p3 p4 p5 p6 p7 p8 p9 p10 p11 p12 p13 p14 p15 p16 p17 p18 p19 p20 p21 p22 p23) := by
  unfold j1 at H
  rcases of_ite H with ⟨hb6, H⟩ | ⟨hb6, H⟩
  · refine C1 hb6 (by kernel_rfl) ?_
    refine Rg V_ok 0 [] az (by kernel_rfl) ?_
    exact Lf (Eq.trans (by kernel_rfl) H)
  · refine C0 hb6 (by kernel_rfl) ?_
    obtain ⟨y7, e8, H⟩ := of_bind H
    refine Rg V_ok 1 [(1, hr f_frame_Open.S y7), (5, hb 4)] (ac (f_frame_Open.rl e8) az) (by kernel_rfl) ?_
    rcases of_ite H with ⟨hb9, H⟩ | ⟨hb9, H⟩
    · refine Rg V_ok 0 [(1, {bv := some true})] (ac hb9 az) (by kernel_rfl) ?_
      exact Jm {fz := [], gr := 0, ad := [], live := [1, 6, 7, 8, 9, 47], src := [some 0, some 1, some 4, some 2, some 3]} (by kernel_rfl) (by kernel_rfl) (j3_ok H)
    · refine Rg V_ok 0 [(1, {bv := some false})] (ac hb9 az) (by kernel_rfl) ?_
      exact Jm {fz := [], gr := 0, ad := [], live := [1, 6, 7, 8, 9, 47], src := [some 0, some 1, some 4, some 2, some 3]} (by kernel_rfl) (by kernel_rfl) (j3_ok H)
noncomputable def f (k : Nat) (a1 : T26b3.T) (a2 : Int) (a3 : List Int) : Option R :=
  (i_control_own_776m.f k a1 a1 (0 : Int) (0 : Int) (0 : Int) (0 : Int) (0 : Int) (0 : Int) (0 : Int)).bind fun y1 =>
    (i_control_controller_is_a3f.f k (0 : Int) (0 : Int) (0 : Int) (0 : Int) (0 : Int) (0 : Int) (0 : Int) y1.1 y1.2.1 y1.2.2.1 y1.2.2.2.1 y1.2.2.2.2.1 y1.2.2.2.2.2.1 y1.2.2.2.2.2.2.1 y1.2.2.2.2.2.2.2.1 y1.2.2.2.2.2.2.2.2.1 y1.2.2.2.2.2.2.2.2.2.1 y1.2.2.2.2.2.2.2.2.2.2.1 y1.2.2.2.2.2.2.2.2.2.2.2.1 y1.2.2.2.2.2.2.2.2.2.2.2.2.1).bind fun y3 =>
      if (!y3.1) = true then
        j1 a2 a3 k true (0 : Int) (0 : Int) (0 : Int) (0 : Int) (0 : Int) (0 : Int) (0 : Int) y1.1 y1.2.1 y1.2.2.1 y1.2.2.2.1 y1.2.2.2.2.1 y1.2.2.2.2.2.1 y1.2.2.2.2.2.2.1 y1.2.2.2.2.2.2.2.1 y1.2.2.2.2.2.2.2.2.1 y1.2.2.2.2.2.2.2.2.2.1 y1.2.2.2.2.2.2.2.2.2.2.1 y1.2.2.2.2.2.2.2.2.2.2.2.1 y1.2.2.2.2.2.2.2.2.2.2.2.2.1
      else
        if (decide (a2 < (0 : Int))) = true then
          j1 a2 a3 k true (0 : Int) (0 : Int) (0 : Int) (0 : Int) (0 : Int) (0 : Int) (0 : Int) y1.1 y1.2.1 y1.2.2.1 y1.2.2.2.1 y1.2.2.2.2.1 y1.2.2.2.2.2.1 y1.2.2.2.2.2.2.1 y1.2.2.2.2.2.2.2.1 y1.2.2.2.2.2.2.2.2.1 y1.2.2.2.2.2.2.2.2.2.1 y1.2.2.2.2.2.2.2.2.2.2.1 y1.2.2.2.2.2.2.2.2.2.2.2.1 y1.2.2.2.2.2.2.2.2.2.2.2.2.1
        else
          j1 a2 a3 k (decide (a2 ≥ (y1.2.2.2.2.2.2.2.2.2.2.2.2.1.length : Int))) (0 : Int) (0 : Int) (0 : Int) (0 : Int) (0 : Int) (0 : Int) (0 : Int) y1.1 y1.2.1 y1.2.2.1 y1.2.2.2.1 y1.2.2.2.2.1 y1.2.2.2.2.2.1 y1.2.2.2.2.2.2.1 y1.2.2.2.2.2.2.2.1 y1.2.2.2.2.2.2.2.2.1 y1.2.2.2.2.2.2.2.2.2.1 y1.2.2.2.2.2.2.2.2.2.2.1 y1.2.2.2.2.2.2.2.2.2.2.2.1 y1.2.2.2.2.2.2.2.2.2.2.2.2.1
noncomputable def S : Spec := ⟨ps, rs, .any, none, fun x r => ∃ k, f k x.1 x.2.1 x.2.2.1 = some r⟩
theorem rl {k a1 a2 a3 r} (e : f k a1 a2 a3 = some r) : S.rel (a1, a2, a3, ()) r := ⟨k, e⟩
theorem f_ok {r k a1 a2 a3} (H : f k a1 a2 a3 = some r) : Gw P 0 (Q r) (Px c0 1 []) (⟨75, [(0, .cv (.agg (encC .any T26b3 a1))), (1, .cv (.one (.int .i64 a2))), (2, .cv (.one (.sl (.int .u8) a3 .any)))], []⟩) := by
  unfold f at H
  refine Rg V_ok 2 [(0, hb 0), (1, hb 1)] az (by kernel_rfl) ?_
  refine GT {live := [1, 2, 3, 6], src := [some 0, some 1]} (by kernel_rfl) (RI (by kernel_rfl) ?_)
  refine EV V_ok 0 [] 1 az (by kernel_rfl) ?_
  obtain ⟨y1, e2, H⟩ := of_bind H
  refine CL V_ok i_control_own_776m.at_ (i_control_own_776m.ok e2) (by kernel_rfl) (by kernel_rfl) (by kernel_rfl) ?_
  refine EV V_ok 0 [] 1 az (by kernel_rfl) ?_
  refine RN (by kernel_rfl) (by kernel_rfl) ?_
  refine GT {live := [1, 2, 6, 7], src := [some 1, some 2, some 3, some 4]} (by kernel_rfl) (RI (by kernel_rfl) ?_)
  refine EV V_ok 0 [] 1 az (by kernel_rfl) ?_
  obtain ⟨y3, e4, H⟩ := of_bind H
  refine CL V_ok i_control_controller_is_a3f.at_ (i_control_controller_is_a3f.ok e4) (by kernel_rfl) (by kernel_rfl) (by kernel_rfl) ?_
  refine EV V_ok 0 [] 2 az (by kernel_rfl) ?_
  rcases of_ite H with ⟨hb5, H⟩ | ⟨hb5, H⟩
  · refine FXO 15 hb5 (by kernel_rfl) ?_
    refine EV V_ok 0 [] 4 az (by kernel_rfl) ?_
    refine EV V_ok 0 [] 9 az (by kernel_rfl) ?_
    refine RN (by kernel_rfl) (by kernel_rfl) ?_
    exact Jm {fz := [], gr := 0, ad := [], live := [1, 2, 6, 7, 28], src := [some 0, some 1, some 2, some 3]} (by kernel_rfl) (by kernel_rfl) (j1_ok H)
  · refine FXO 15 hb5 (by kernel_rfl) ?_
    refine EV V_ok 0 [] 4 az (by kernel_rfl) ?_
    rcases of_ite H with ⟨hb17, H⟩ | ⟨hb17, H⟩
    · refine FXO 19 hb17 (by kernel_rfl) ?_
      refine EV V_ok 0 [] 9 az (by kernel_rfl) ?_
      refine RN (by kernel_rfl) (by kernel_rfl) ?_
      exact Jm {fz := [], gr := 0, ad := [], live := [1, 2, 6, 7, 28], src := [some 0, some 1, some 2, some 3]} (by kernel_rfl) (by kernel_rfl) (j1_ok H)
    · refine FXO 19 hb17 (by kernel_rfl) ?_
      refine EV V_ok 0 [] 9 az (by kernel_rfl) ?_
      refine RN (by kernel_rfl) (by kernel_rfl) ?_
      exact Jm {fz := [], gr := 0, ad := [], live := [1, 2, 6, 7, 28], src := [some 0, some 1, some 2, some 3]} (by kernel_rfl) (by kernel_rfl) (j1_ok H)
theorem fits : Fits P 12 S := fits_of V_ok Go.Proofs.Tryd.func12 (by kernel_rfl) (by decide) (by decide) rfl (fun x r ⟨k, H⟩ => of_G (f_ok H))
end f_control_Heard
/-! ### function 40, wayfinder/sess.First -/
namespace f_sess_First
noncomputable def c0 : Code := (Go.Proofs.Tryd.f40.body).getD .skip
abbrev ps : Sg := [(true, Tb104), (false, (.int .i64))]
abbrev rs : Sg := [(false, (.slice T4414))]
noncomputable def V : Env := { tt := tt, Γ := slk [(64, f_slices_Clone_Msg.S)] }
theorem V_ok : EnvOk P V := { ck := tt_ck, fits := slk_cons f_slices_Clone_Msg.fits (slk_nil), mixed := mixed }
abbrev R := Tup rs
noncomputable abbrev Q (r : R) : Exit → St → Prop := Qr tt Go.Proofs.Tryd.f40.results ⟨ps, rs, .any, none, fun _ _ => True⟩ r
noncomputable def f (k : Nat) (a1 : Tb104.T) (a2 : Int) : Option R :=
  if 0 ≤ (0 : Int) ∧ (0 : Int) ≤ (if (a1.2.2.length : Int) < (if 0 > a2 then 0 else a2) then (a1.2.2.length : Int) else (if 0 > a2 then 0 else a2)) ∧ (if (a1.2.2.length : Int) < (if 0 > a2 then 0 else a2) then (a1.2.2.length : Int) else (if 0 > a2 then 0 else a2)) ≤ (a1.2.2.length : Int) then
    (f_slices_Clone_Msg.f k ((a1.2.2.take (if (a1.2.2.length : Int) < (if 0 > a2 then 0 else a2) then (a1.2.2.length : Int) else (if 0 > a2 then 0 else a2)).toNat).drop (0 : Int).toNat)).bind fun y1 =>
      some (y1.1, ())
  else none
noncomputable def S : Spec := ⟨ps, rs, .any, none, fun x r => ∃ k, f k x.1 x.2.1 = some r⟩
theorem rl {k a1 a2 r} (e : f k a1 a2 = some r) : S.rel (a1, a2, ()) r := ⟨k, e⟩
theorem f_ok {r k a1 a2} (H : f k a1 a2 = some r) : Gw P 0 (Q r) (Px c0 1 []) (⟨15, [(0, .cv (.agg (encC .any Tb104 a1))), (1, .cv (.one (.int .i64 a2)))], []⟩) := by
  unfold f at H
  refine Rg V_ok 1 [(0, hb 0)] az (by kernel_rfl) ?_
  obtain ⟨n2, H⟩ := of_if H
  obtain ⟨y1, e3, H⟩ := of_bind H
  refine Rg V_ok 0 [(9, hr f_slices_Clone_Msg.S y1)] (ac n2 (ac (f_slices_Clone_Msg.rl e3) az)) (by kernel_rfl) ?_
  exact Lf (Eq.trans (by kernel_rfl) H)
theorem fits : Fits P 40 S := fits_of V_ok Go.Proofs.Tryd.func40 (by kernel_rfl) (by decide) (by decide) rfl (fun x r ⟨k, H⟩ => of_G (f_ok H))
end f_sess_First
end Go.Proofs.YtkhjemahenkdiaaDoor.V
