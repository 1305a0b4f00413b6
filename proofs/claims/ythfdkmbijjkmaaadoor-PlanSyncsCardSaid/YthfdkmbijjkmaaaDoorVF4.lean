/- Functions of the program, as Lean functions, and that the code answers so. Printed by vgen.py. -/
import Derived.Test.YthfdkmbijjkmaaaDoorVF3
namespace Go.Proofs.YthfdkmbijjkmaaaDoor.V
open Go Go.RowKit
set_option linter.unusedVariables false
set_option linter.unusedSimpArgs false
set_option maxRecDepth 100000
set_option maxHeartbeats 4000000
/-! ### function 4, wayfinder/wayfinderlaw17.AgentRestarts -/
namespace f_law17_AgentRestarts
noncomputable def c0 : Code := (Go.Proofs.Tryd.f4.body).getD .skip
abbrev ps : Sg := [(true, Tf20b), (true, T4414)]
abbrev rs : Sg := [(false, .bool)]
noncomputable def V : Env := { tt := tt, Γ := slk [(7, f_law17_awake.S), (8, f_law09_Few.S), (9, f_frame_Seal.S), (10, f_agent_Handle.S), (13, f_agent_Restart.S), (14, f_ref17_Same.S)] }
theorem V_ok : EnvOk P V := { ck := tt_ck, fits := slk_cons f_law17_awake.fits (slk_cons f_law09_Few.fits (slk_cons f_frame_Seal.fits (slk_cons f_agent_Handle.fits (slk_cons f_agent_Restart.fits (slk_cons f_ref17_Same.fits (slk_nil)))))), mixed := mixed }
abbrev R := Tup rs
noncomputable abbrev Q (r : R) : Exit → St → Prop := Qr tt Go.Proofs.Tryd.f4.results ⟨ps, rs, .any, none, fun _ _ => True⟩ r
noncomputable def s1 (p1 : Bool) (p2 : Bool) (p3 : Tf20b.T) (p4 : T4414.T) : St := ⟨111, [(2, .cv (.one (.ptr 0 0))), (3, .cv (.one (.ptr 1 0))), (5, .cv (.one (.bool p1))), (37, .cv (.one (.bool p2)))], [(.box 7, (encC .any Tf20b p3)), (.box 10, (encC .any T4414 p4))]⟩
noncomputable def s2 (p1 : List Int) (p2 : Int) (p3 : Bool) (p4 : Tf20b.T) : St := ⟨111, [(7, .cv (.one (.ptr 0 0))), (8, .cv (.one (.sl (.int .u8) p1 .any))), (9, .cv (.one (.int .i64 p2))), (95, .cv (.one (.bool p3)))], [(.box 7, (encC .any Tf20b p4))]⟩
noncomputable def j2 (k : Nat) (p1 : List Int) (p2 : Int) (p3 : Bool) (p4 : Tf20b.T) : Option R :=
  if p3 = true then
  some (false, ())
else
  if (p2 != (0 : Int)) = true then
    some (true, ())
  else
    (f_agent_Handle.f k p4 p1 (40 : Int)).bind fun y15 =>
      (f_ref17_Same.f k p4 (y15.1.1, (y15.1.2.1, (y15.1.2.2.1, (y15.1.2.2.2.1, (y15.1.2.2.2.2.1, (y15.1.2.2.2.2.2.1, p4.2.2.2.2.2.2))))))).bind fun y17 =>
        some (y17.1, ())
theorem j2_ok {r} {k p1 p2 p3 p4} (H : j2 k p1 p2 p3 p4 = some r) : Gw P 0 (Q r) (Px c0 895 []) (s2 p1 p2 p3 p4) := by
  unfold j2 at H
  rcases of_ite H with ⟨hb13, H⟩ | ⟨hb13, H⟩
  · refine C1 hb13 (by kernel_rfl) ?_
    refine Rg V_ok 0 [] az (by kernel_rfl) ?_
    exact Lf (Eq.trans (by kernel_rfl) H)
  · refine C0 hb13 (by kernel_rfl) ?_
    refine Rg V_ok 0 [] az (by kernel_rfl) ?_
    rcases of_ite H with ⟨hb14, H⟩ | ⟨hb14, H⟩
    · refine C1 hb14 (by kernel_rfl) ?_
      refine Rg V_ok 0 [] az (by kernel_rfl) ?_
      exact Lf (Eq.trans (by kernel_rfl) H)
    · refine C0 hb14 (by kernel_rfl) ?_
      obtain ⟨y15, e16, H⟩ := of_bind H
      refine Rg V_ok 1 [(2, hr f_agent_Handle.S y15), (6, hb 1)] (ac (f_agent_Handle.rl e16) az) (by kernel_rfl) ?_
      refine Rg V_ok 0 [] az (by kernel_rfl) ?_
      obtain ⟨y17, e18, H⟩ := of_bind H
      refine Rg V_ok 0 [(2, hr f_ref17_Same.S y17)] (ac (f_ref17_Same.rl e18) az) (by kernel_rfl) ?_
      refine Rg V_ok 0 [] az (by kernel_rfl) ?_
      exact Lf (Eq.trans (by kernel_rfl) H)
noncomputable def j1 (k : Nat) (p1 : Bool) (p2 : Bool) (p3 : Tf20b.T) (p4 : T4414.T) : Option R :=
  if p2 = true then
  some (p1, ())
else
  (f_agent_Restart.f k p3).bind fun y7 =>
    (f_frame_Seal.f k (p4.1, (p3.1, p4.2.2))).bind fun y9 =>
      if (y7.1.1 != (IntKind.i64.wrap (p3.1 + 1))) = true then
        j2 k y9.1 y9.2.1 true y7.1
      else
        if y7.1.2.2.1 = true then
          j2 k y9.1 y9.2.1 true y7.1
        else
          if (y7.1.2.1 != (0 : Int)) = true then
            j2 k y9.1 y9.2.1 true y7.1
          else
            if (y7.1.2.2.2.1 != (0 : Int)) = true then
              j2 k y9.1 y9.2.1 true y7.1
            else
              if (y7.1.2.2.2.2.1 != (0 : Int)) = true then
                j2 k y9.1 y9.2.1 true y7.1
              else
                if ((y7.1.2.2.2.2.2.1.length : Int) != (0 : Int)) = true then
                  j2 k y9.1 y9.2.1 true y7.1
                else
                  if (y7.1.2.2.2.2.2.2 != p3.2.2.2.2.2.2) = true then
                    j2 k y9.1 y9.2.1 true y7.1
                  else
                    (f_agent_Restart.f k y7.1).bind fun y11 =>
                      j2 k y9.1 y9.2.1 (y11.1.1 != (IntKind.i64.wrap (p3.1 + 2))) y7.1
theorem j1_ok {r} {k p1 p2 p3 p4} (H : j1 k p1 p2 p3 p4 = some r) : Gw P 0 (Q r) (Px c0 55 []) (s1 p1 p2 p3 p4) := by
  unfold j1 at H
  rcases of_ite H with ⟨hb6, H⟩ | ⟨hb6, H⟩
  · refine C1 hb6 (by kernel_rfl) ?_
    refine Rg V_ok 0 [] az (by kernel_rfl) ?_
    exact Lf (Eq.trans (by kernel_rfl) H)
  · refine C0 hb6 (by kernel_rfl) ?_
    obtain ⟨y7, e8, H⟩ := of_bind H
    refine Rg V_ok 1 [(1, hr f_agent_Restart.S y7), (2, hb 2)] (ac (f_agent_Restart.rl e8) az) (by kernel_rfl) ?_
    refine Rg V_ok 0 [] az (by kernel_rfl) ?_
    obtain ⟨y9, e10, H⟩ := of_bind H
    refine Rg V_ok 0 [(1, hr f_frame_Seal.S y9)] (ac (f_frame_Seal.rl e10) az) (by kernel_rfl) ?_
    rcases of_ite H with ⟨hb12, H⟩ | ⟨hb12, H⟩
    · refine Rg V_ok 0 [(5, {bv := some true})] (ac hb12 az) (by kernel_rfl) ?_
      exact Jm {fz := [], gr := 0, ad := [], live := [7, 8, 9, 95], src := [some 2]} (by kernel_rfl) (by kernel_rfl) (j2_ok H)
    · rcases of_ite H with ⟨hb19, H⟩ | ⟨hb19, H⟩
      · refine Rg V_ok 0 [(5, {bv := some false}), (9, {bv := some true})] (ac hb12 (ac hb19 az)) (by kernel_rfl) ?_
        exact Jm {fz := [], gr := 0, ad := [], live := [7, 8, 9, 95], src := [some 2]} (by kernel_rfl) (by kernel_rfl) (j2_ok H)
      · rcases of_ite H with ⟨hb20, H⟩ | ⟨hb20, H⟩
        · refine Rg V_ok 0 [(5, {bv := some false}), (9, {bv := some false}), (14, {bv := some true})] (ac hb12 (ac hb19 (ac hb20 az))) (by kernel_rfl) ?_
          exact Jm {fz := [], gr := 0, ad := [], live := [7, 8, 9, 95], src := [some 2]} (by kernel_rfl) (by kernel_rfl) (j2_ok H)
        · rcases of_ite H with ⟨hb21, H⟩ | ⟨hb21, H⟩
          · refine Rg V_ok 0 [(5, {bv := some false}), (9, {bv := some false}), (14, {bv := some false}), (19, {bv := some true})] (ac hb12 (ac hb19 (ac hb20 (ac hb21 az)))) (by kernel_rfl) ?_
            exact Jm {fz := [], gr := 0, ad := [], live := [7, 8, 9, 95], src := [some 2]} (by kernel_rfl) (by kernel_rfl) (j2_ok H)
          · rcases of_ite H with ⟨hb22, H⟩ | ⟨hb22, H⟩
            · refine Rg V_ok 0 [(5, {bv := some false}), (9, {bv := some false}), (14, {bv := some false}), (19, {bv := some false}), (24, {bv := some true})] (ac hb12 (ac hb19 (ac hb20 (ac hb21 (ac hb22 az))))) (by kernel_rfl) ?_
              exact Jm {fz := [], gr := 0, ad := [], live := [7, 8, 9, 95], src := [some 2]} (by kernel_rfl) (by kernel_rfl) (j2_ok H)
            · rcases of_ite H with ⟨hb23, H⟩ | ⟨hb23, H⟩
              · refine Rg V_ok 0 [(5, {bv := some false}), (9, {bv := some false}), (14, {bv := some false}), (19, {bv := some false}), (24, {bv := some false}), (30, {bv := some true})] (ac hb12 (ac hb19 (ac hb20 (ac hb21 (ac hb22 (ac hb23 az)))))) (by kernel_rfl) ?_
                exact Jm {fz := [], gr := 0, ad := [], live := [7, 8, 9, 95], src := [some 2]} (by kernel_rfl) (by kernel_rfl) (j2_ok H)
              · rcases of_ite H with ⟨hb24, H⟩ | ⟨hb24, H⟩
                · refine Rg V_ok 0 [(5, {bv := some false}), (9, {bv := some false}), (14, {bv := some false}), (19, {bv := some false}), (24, {bv := some false}), (30, {bv := some false}), (37, {bv := some true})] (ac hb12 (ac hb19 (ac hb20 (ac hb21 (ac hb22 (ac hb23 (ac hb24 az))))))) (by kernel_rfl) ?_
                  exact Jm {fz := [], gr := 0, ad := [], live := [7, 8, 9, 95], src := [some 2]} (by kernel_rfl) (by kernel_rfl) (j2_ok H)
                · obtain ⟨y11, e25, H⟩ := of_bind H
                  refine Rg V_ok 0 [(5, {bv := some false}), (9, {bv := some false}), (14, {bv := some false}), (19, {bv := some false}), (24, {bv := some false}), (30, {bv := some false}), (37, {bv := some false}), (40, hr f_agent_Restart.S y11)] (ac hb12 (ac hb19 (ac hb20 (ac hb21 (ac hb22 (ac hb23 (ac hb24 (ac (f_agent_Restart.rl e25) az)))))))) (by kernel_rfl) ?_
                  exact Jm {fz := [], gr := 0, ad := [], live := [7, 8, 9, 95], src := [some 2]} (by kernel_rfl) (by kernel_rfl) (j2_ok H)
noncomputable def f (k : Nat) (a1 : Tf20b.T) (a2 : T4414.T) : Option R :=
  (f_law17_awake.f k).bind fun y1 =>
    (f_law09_Few.f k a1.2.2.2.2.2.1).bind fun y3 =>
      if (!y1.1) = true then
        j1 k y1.1 true a1 a2
      else
        if (!y3.1) = true then
          j1 k y1.1 true a1 a2
        else
          if (decide (a1.1 < (1 : Int))) = true then
            j1 k y1.1 true a1 a2
          else
            if (decide (a1.1 > (1000 : Int))) = true then
              j1 k y1.1 true a1 a2
            else
              j1 k y1.1 (decide (a1.2.2.2.2.2.2 > (1099511627776 : Int))) a1 a2
noncomputable def S : Spec := ⟨ps, rs, .any, none, fun x r => ∃ k, f k x.1 x.2.1 = some r⟩
theorem rl {k a1 a2 r} (e : f k a1 a2 = some r) : S.rel (a1, a2, ()) r := ⟨k, e⟩
theorem f_ok {r k a1 a2} (H : f k a1 a2 = some r) : Gw P 0 (Q r) (Px c0 1 []) (⟨111, [(0, .cv (.agg (encC .any Tf20b a1))), (1, .cv (.agg (encC .any T4414 a2)))], []⟩) := by
  unfold f at H
  refine Rg V_ok 2 [(0, hb 0), (1, hb 1)] az (by kernel_rfl) ?_
  obtain ⟨y1, e2, H⟩ := of_bind H
  refine Rg V_ok 0 [(0, hr f_law17_awake.S y1)] (ac (f_law17_awake.rl e2) az) (by kernel_rfl) ?_
  obtain ⟨y3, e4, H⟩ := of_bind H
  refine Rg V_ok 0 [(2, hr f_law09_Few.S y3)] (ac (f_law09_Few.rl e4) az) (by kernel_rfl) ?_
  rcases of_ite H with ⟨hb5, H⟩ | ⟨hb5, H⟩
  · refine Rg V_ok 0 [(1, {bv := some true})] (ac hb5 az) (by kernel_rfl) ?_
    exact Jm {fz := [], gr := 0, ad := [], live := [2, 3, 5, 37], src := [some 0, some 1]} (by kernel_rfl) (by kernel_rfl) (j1_ok H)
  · rcases of_ite H with ⟨hb26, H⟩ | ⟨hb26, H⟩
    · refine Rg V_ok 0 [(1, {bv := some false}), (5, {bv := some true})] (ac hb5 (ac hb26 az)) (by kernel_rfl) ?_
      exact Jm {fz := [], gr := 0, ad := [], live := [2, 3, 5, 37], src := [some 0, some 1]} (by kernel_rfl) (by kernel_rfl) (j1_ok H)
    · rcases of_ite H with ⟨hb27, H⟩ | ⟨hb27, H⟩
      · refine Rg V_ok 0 [(1, {bv := some false}), (5, {bv := some false}), (10, {bv := some true})] (ac hb5 (ac hb26 (ac hb27 az))) (by kernel_rfl) ?_
        exact Jm {fz := [], gr := 0, ad := [], live := [2, 3, 5, 37], src := [some 0, some 1]} (by kernel_rfl) (by kernel_rfl) (j1_ok H)
      · rcases of_ite H with ⟨hb28, H⟩ | ⟨hb28, H⟩
        · refine Rg V_ok 0 [(1, {bv := some false}), (5, {bv := some false}), (10, {bv := some false}), (15, {bv := some true})] (ac hb5 (ac hb26 (ac hb27 (ac hb28 az)))) (by kernel_rfl) ?_
          exact Jm {fz := [], gr := 0, ad := [], live := [2, 3, 5, 37], src := [some 0, some 1]} (by kernel_rfl) (by kernel_rfl) (j1_ok H)
        · refine Rg V_ok 0 [(1, {bv := some false}), (5, {bv := some false}), (10, {bv := some false}), (15, {bv := some false})] (ac hb5 (ac hb26 (ac hb27 (ac hb28 az)))) (by kernel_rfl) ?_
          exact Jm {fz := [], gr := 0, ad := [], live := [2, 3, 5, 37], src := [some 0, some 1]} (by kernel_rfl) (by kernel_rfl) (j1_ok H)
theorem fits : Fits P 4 S := fits_of V_ok Go.Proofs.Tryd.func4 (by kernel_rfl) (by decide) (by decide) rfl (fun x r ⟨k, H⟩ => of_G (f_ok H))
end f_law17_AgentRestarts
/-! ### function 16, wayfinder/sess.New -/
namespace f_sess_New
noncomputable def c0 : Code := (Go.Proofs.Tryd.f16.body).getD .skip
abbrev ps : Sg := [(false, (.int .i64))]
abbrev rs : Sg := [(true, Tb104)]
noncomputable def V : Env := { tt := tt, Γ := slk [] }
theorem V_ok : EnvOk P V := { ck := tt_ck, fits := slk_nil, mixed := mixed }
abbrev R := Tup rs
noncomputable abbrev Q (r : R) : Exit → St → Prop := Qr tt Go.Proofs.Tryd.f16.results ⟨ps, rs, .any, none, fun _ _ => True⟩ r
noncomputable def f (k : Nat) (a1 : Int) : Option R :=
  some ((a1, (1, [])), ())
noncomputable def S : Spec := ⟨ps, rs, .any, none, fun x r => ∃ k, f k x.1 = some r⟩
theorem rl {k a1 r} (e : f k a1 = some r) : S.rel (a1, ()) r := ⟨k, e⟩
theorem f_ok {r k a1} (H : f k a1 = some r) : Gw P 0 (Q r) (Px c0 1 []) (⟨5, [(0, .cv (.one (.int .i64 a1)))], []⟩) := by
  unfold f at H
  refine Rg V_ok 1 [(0, hb 0)] az (by kernel_rfl) ?_
  refine Rg V_ok 0 [] az (by kernel_rfl) ?_
  exact Lf (Eq.trans (by kernel_rfl) H)
theorem fits : Fits P 16 S := fits_of V_ok Go.Proofs.Tryd.func16 (by kernel_rfl) (by decide) (by decide) rfl (fun x r ⟨k, H⟩ => of_G (f_ok H))
end f_sess_New
/-! ### function 42, wayfinder/sess.own -/
namespace f_sess_own
noncomputable def c0 : Code := (Go.Proofs.Tryd.f42.body).getD .skip
abbrev ps : Sg := [(true, Tb104)]
abbrev rs : Sg := [(true, Tb104)]
noncomputable def V : Env := { tt := tt, Γ := slk [] }
theorem V_ok : EnvOk P V := { ck := tt_ck, fits := slk_nil, mixed := mixed }
abbrev R := Tup rs
noncomputable abbrev Q (r : R) : Exit → St → Prop := Qr tt Go.Proofs.Tryd.f42.results ⟨ps, rs, .any, none, fun _ _ => True⟩ r
noncomputable def f (k : Nat) (a1 : Tb104.T) : Option R :=
  if 0 ≤ (a1.2.2.length : Int) ∧ (a1.2.2.length : Int) = (a1.2.2.length : Int) ∧ (80 : Int) * (a1.2.2.length : Int) ≤ 140737488355328 ∧ (a1.2.2.length : Int) ≤ 140737488355328 then
    if a1.2.2.length = (List.replicate (a1.2.2.length : Int).toNat ((0, (0, (0, (0, ((0, 0), (0, (0, (0, 0)))))))) : T4414.T)).length then
      some (a1, ())
    else none
  else none
noncomputable def S : Spec := ⟨ps, rs, .any, none, fun x r => ∃ k, f k x.1 = some r⟩
theorem rl {k a1 r} (e : f k a1 = some r) : S.rel (a1, ()) r := ⟨k, e⟩
theorem f_ok {r k a1} (H : f k a1 = some r) : Gw P 0 (Q r) (Px c0 1 []) (⟨15, [(0, .cv (.agg (encC .any Tb104 a1)))], []⟩) := by
  unfold f at H
  refine Rg V_ok 2 [(0, hb 0), (1, hb 1)] az (by kernel_rfl) ?_
  obtain ⟨n1, H⟩ := of_if H
  refine Rg V_ok 1 [(3, hb 2)] (ac n1 az) (by kernel_rfl) ?_
  obtain ⟨n2, H⟩ := of_if H
  refine Rg V_ok 0 [] (ac n2 az) (by kernel_rfl) ?_
  refine Rg V_ok 0 [] az (by kernel_rfl) ?_
  refine Rg V_ok 0 [] az (by kernel_rfl) ?_
  exact Lf (Eq.trans (by kernel_rfl) H)
theorem fits : Fits P 42 S := fits_of V_ok Go.Proofs.Tryd.func42 (by kernel_rfl) (by decide) (by decide) rfl (fun x r ⟨k, H⟩ => of_G (f_ok H))
end f_sess_own
/-! ### function 42, wayfinder/sess.own, where it is called -/
namespace i_sess_own_b60
noncomputable def c0 : Code := (Go.Proofs.Tryd.f42.body).getD .skip
noncomputable def V : Env := { tt := tt, Γ := slk [] }
theorem V_ok : EnvOk P V := { ck := tt_ck, fits := slk_nil, mixed := mixed }
abbrev R := (Int) × (Int) × (List T4414.T) × Unit
noncomputable def s0 (p1 : Tb104.T) (p2 : Tb104.T) (p3 : T4414.T) (p4 : Int) (p5 : Int) : St := ⟨15, [(0, .cv (.agg (encC .any Tb104 p1)))], [(.box 3, (encC .any Tb104 p2)), (.box 10, (encC .any T4414 p3)), (.box 3, [.int .i64 p4, .int .i64 p5, .nils])]⟩
noncomputable def out (p1 : Tb104.T) (p2 : Tb104.T) (p3 : T4414.T) (p4 : Int) (p5 : Int) (r : R) : St := ⟨15, [(2, .cv (.one (.ptr 3 0)))], [(.box 3, (encC .any Tb104 p2)), (.box 10, (encC .any T4414 p3)), (.box 3, [.int .i64 p4, .int .i64 p5, .nils]), (.box 3, [.int .i64 r.1, .int .i64 r.2.1, .own 4]), (.buf 32 T4414 r.2.2.1, [])]⟩
abbrev Q (p1 : Tb104.T) (p2 : Tb104.T) (p3 : T4414.T) (p4 : Int) (p5 : Int) (r : R) := CallQ 3 (out p1 p2 p3 p4 p5 r)
noncomputable def f (k : Nat) (p1 : Tb104.T) (p2 : Tb104.T) (p3 : T4414.T) (p4 : Int) (p5 : Int) : Option R :=
  if 0 ≤ (p1.2.2.length : Int) ∧ (p1.2.2.length : Int) = (p1.2.2.length : Int) ∧ (80 : Int) * (p1.2.2.length : Int) ≤ 140737488355328 ∧ (p1.2.2.length : Int) ≤ 140737488355328 then
    if p1.2.2.length = (List.replicate (p1.2.2.length : Int).toNat ((0, (0, (0, (0, ((0, 0), (0, (0, (0, 0)))))))) : T4414.T)).length then
      some (p1.1, (p1.2.1, (p1.2.2, ())))
    else none
  else none
theorem f_ok {r k p1 p2 p3 p4 p5} (H : f k p1 p2 p3 p4 p5 = some r) : Gw P 3 (Q p1 p2 p3 p4 p5 r) (Px c0 1 []) (s0 p1 p2 p3 p4 p5) := by
  unfold f at H
  refine Rg V_ok 2 [(0, hb 3), (1, hb 4)] az (by kernel_rfl) ?_
  obtain ⟨n1, H⟩ := of_if H
  refine Rg V_ok 1 [(3, hb 5)] (ac n1 az) (by kernel_rfl) ?_
  obtain ⟨n2, H⟩ := of_if H
  refine Rg V_ok 0 [] (ac n2 az) (by kernel_rfl) ?_
  refine Rg V_ok 0 [] az (by kernel_rfl) ?_
  refine Rg V_ok 0 [] az (by kernel_rfl) ?_
  obtain rfl := Option.some.inj H
  exact Lq {fz := [], gr := 0, ad := [], live := [2], src := [some 0, some 1, some 2, some 4, some 5]} (by kernel_rfl)
theorem ok {r k p1 p2 p3 p4 p5} (H : f k p1 p2 p3 p4 p5 = some r) : W P 3 c0 (s0 p1 p2 p3 p4 p5) (CallQ 3 (out p1 p2 p3 p4 p5 r)) := of_G (f_ok H)
theorem at_ : FnAt P 42 15 c0 Go.Proofs.Tryd.f42.results := fnAt Go.Proofs.Tryd.func42 (by kernel_rfl) (by decide) (by kernel_rfl) (by kernel_rfl)
end i_sess_own_b60
/-! ### function 17, wayfinder/sess.Push -/
namespace f_sess_Push
noncomputable def c0 : Code := (Go.Proofs.Tryd.f17.body).getD .skip
abbrev ps : Sg := [(true, Tb104), (true, T4414)]
abbrev rs : Sg := [(true, Tb104), (false, (.int .i64))]
noncomputable def V : Env := { tt := tt, Γ := slk [] }
theorem V_ok : EnvOk P V := { ck := tt_ck, fits := slk_nil, mixed := mixed }
abbrev R := Tup rs
noncomputable abbrev Q (r : R) : Exit → St → Prop := Qr tt Go.Proofs.Tryd.f17.results ⟨ps, rs, .any, none, fun _ _ => True⟩ r
noncomputable def f (k : Nat) (a1 : Tb104.T) (a2 : T4414.T) : Option R :=
  (i_sess_own_b60.f k a1 a1 a2 (0 : Int) (0 : Int)).bind fun y1 =>
    if (decide (y1.2.1 > (1048576 : Int))) = true then
      some ((y1.1, (y1.2.1, y1.2.2.1)), ((7 : Int), ()))
    else
      if (y1.2.2.1.length + 1) * 80 ≤ 140737488355328 then
        some ((y1.1, ((IntKind.i64.wrap (y1.2.1 + 1)), (y1.2.2.1 ++ [(a2.1, (y1.1, (y1.2.1, a2.2.2.2)))]))), ((0 : Int), ()))
      else none
noncomputable def S : Spec := ⟨ps, rs, .any, none, fun x r => ∃ k, f k x.1 x.2.1 = some r⟩
theorem rl {k a1 a2 r} (e : f k a1 a2 = some r) : S.rel (a1, a2, ()) r := ⟨k, e⟩
theorem f_ok {r k a1 a2} (H : f k a1 a2 = some r) : Gw P 0 (Q r) (Px c0 1 []) (⟨29, [(0, .cv (.agg (encC .any Tb104 a1))), (1, .cv (.agg (encC .any T4414 a2)))], []⟩) := by
  unfold f at H
  refine Rg V_ok 3 [(0, hb 0), (1, hb 1), (2, hb 2)] az (by kernel_rfl) ?_
  refine GT {live := [2, 3, 4], src := [some 0, some 1, some 2]} (by kernel_rfl) (RI (by kernel_rfl) ?_)
  refine EV V_ok 0 [] 1 az (by kernel_rfl) ?_
  obtain ⟨y1, e2, H⟩ := of_bind H
  refine CL V_ok i_sess_own_b60.at_ (i_sess_own_b60.ok e2) (by kernel_rfl) (by kernel_rfl) (by kernel_rfl) ?_
  refine EV V_ok 0 [] 1 az (by kernel_rfl) ?_
  refine RN (by kernel_rfl) (by kernel_rfl) ?_
  refine Rg V_ok 0 [] az (by kernel_rfl) ?_
  rcases of_ite H with ⟨hb3, H⟩ | ⟨hb3, H⟩
  · refine C1 hb3 (by kernel_rfl) ?_
    refine Rg V_ok 0 [] az (by kernel_rfl) ?_
    exact Lf (Eq.trans (by kernel_rfl) H)
  · refine C0 hb3 (by kernel_rfl) ?_
    refine Rg V_ok 0 [] az (by kernel_rfl) ?_
    obtain ⟨n4, H⟩ := of_if H
    refine Rg V_ok 1 [(4, hb 5)] (ac n4 az) (by kernel_rfl) ?_
    refine Rg V_ok 0 [] az (by kernel_rfl) ?_
    exact Lf (Eq.trans (by kernel_rfl) H)
theorem fits : Fits P 17 S := fits_of V_ok Go.Proofs.Tryd.func17 (by kernel_rfl) (by decide) (by decide) rfl (fun x r ⟨k, H⟩ => of_G (f_ok H))
end f_sess_Push
/-! ### function 5, wayfinder/wayfinderlaw17.AgentRuns -/
namespace f_law17_AgentRuns
noncomputable def c0 : Code := (Go.Proofs.Tryd.f5.body).getD .skip
abbrev ps : Sg := [(false, (.slice T4414))]
abbrev rs : Sg := [(false, .bool)]
noncomputable def V : Env := { tt := tt, Γ := slk [(7, f_law17_awake.S), (9, f_frame_Seal.S), (10, f_agent_Handle.S), (15, f_agent_New.S), (16, f_sess_New.S), (17, f_sess_Push.S), (18, f_table_Put.S), (19, f_table_Drop.S), (20, f_ref08_Same.S)] }
theorem V_ok : EnvOk P V := { ck := tt_ck, fits := slk_cons f_law17_awake.fits (slk_cons f_frame_Seal.fits (slk_cons f_agent_Handle.fits (slk_cons f_agent_New.fits (slk_cons f_sess_New.fits (slk_cons f_sess_Push.fits (slk_cons f_table_Put.fits (slk_cons f_table_Drop.fits (slk_cons f_ref08_Same.fits (slk_nil))))))))), mixed := mixed }
abbrev R := Tup rs
noncomputable abbrev Q (r : R) : Exit → St → Prop := Qr tt Go.Proofs.Tryd.f5.results ⟨ps, rs, .any, none, fun _ _ => True⟩ r
noncomputable def s1 (p1 : List T4414.T) (p2 : Bool) (p3 : Bool) : St := ⟨176, [(0, .cv (.one (.sl T4414 p1 .any))), (3, .cv (.one (.bool p2))), (29, .cv (.one (.bool p3)))], []⟩
noncomputable def s2 (p1 : List T4414.T) (p2 : Int) (p3 : Bool) (p4 : Int) (p5 : Tf20b.T) (p6 : Tb104.T) : St := ⟨176, [(0, .cv (.one (.sl T4414 p1 .any))), (4, .cv (.one (.ptr 0 0))), (5, .cv (.one (.ptr 1 0))), (6, .cv (.one (.nils))), (7, .cv (.one (.int .i64 p2))), (8, .cv (.one (.bool p3))), (9, .cv (.one (.int .i64 p4)))], [(.box 7, (encC .any Tf20b p5)), (.box 3, (encC .any Tb104 p6))]⟩
noncomputable def s3 (p1 : List T814c.T) (p2 : Int) (p3 : Bool) (p4 : Int) (p5 : Tf20b.T) (p6 : Tb104.T) : St := ⟨176, [(4, .cv (.one (.ptr 0 0))), (5, .cv (.one (.ptr 1 0))), (6, .cv (.one (.sl T814c p1 .any))), (7, .cv (.one (.int .i64 p2))), (8, .cv (.one (.bool p3))), (12, .cv (.one (.int .i64 p4)))], [(.box 7, (encC .any Tf20b p5)), (.box 3, (encC .any Tb104 p6))]⟩
noncomputable def s4 (p1 : List T814c.T) (p2 : Int) (p3 : Bool) (p4 : Int) (p5 : List Int) (p6 : Bool) (p7 : Tf20b.T) (p8 : Tb104.T) (p9 : T4414.T) : St := ⟨176, [(4, .cv (.one (.ptr 0 0))), (5, .cv (.one (.ptr 1 0))), (6, .cv (.one (.sl T814c p1 .any))), (7, .cv (.one (.int .i64 p2))), (8, .cv (.one (.bool p3))), (12, .cv (.one (.int .i64 p4))), (13, .cv (.one (.ptr 2 0))), (14, .cv (.one (.sl (.int .u8) p5 .any))), (77, .cv (.one (.bool p6)))], [(.box 7, (encC .any Tf20b p7)), (.box 3, (encC .any Tb104 p8)), (.box 10, (encC .any T4414 p9))]⟩
noncomputable def s5 (p1 : List T814c.T) (p2 : Int) (p3 : Bool) (p4 : Int) (p5 : List Int) (p6 : Tf20b.T) (p7 : Tb104.T) : St := ⟨176, [(4, .cv (.one (.ptr 0 0))), (5, .cv (.one (.ptr 1 0))), (6, .cv (.one (.sl T814c p1 .any))), (7, .cv (.one (.int .i64 p2))), (8, .cv (.one (.bool p3))), (12, .cv (.one (.int .i64 p4))), (14, .cv (.one (.sl (.int .u8) p5 .any)))], [(.box 7, (encC .any Tf20b p6)), (.box 3, (encC .any Tb104 p7))]⟩
noncomputable def j5 (L3 : List T814c.T → Int → Bool → Int → Tf20b.T → Tb104.T → Option R) (k : Nat) (p1 : List T814c.T) (p2 : Int) (p3 : Bool) (p4 : Int) (p5 : List Int) (p6 : Tf20b.T) (p7 : Tb104.T) : Option R :=
  (f_agent_Handle.f k p6 p5 (1000 : Int)).bind fun y24 =>
  L3 p1 p2 p3 (IntKind.i64.wrap (p4 + 1)) y24.1 p7
theorem j5_ok {r} {L3 : List T814c.T → Int → Bool → Int → Tf20b.T → Tb104.T → Option R} {m3 : Nat} (hL3 : ∀ p1 p2 p3 p4 p5 p6, L3 p1 p2 p3 p4 p5 p6 = some r → Gw P 0 (Q r) (Pb c0 5631 [] m3) (s3 p1 p2 p3 p4 p5 p6)) {k p1 p2 p3 p4 p5 p6 p7} (H : j5 L3 k p1 p2 p3 p4 p5 p6 p7 = some r) : Gw P 0 (Q r) (Px c0 2041343 [m3]) (s5 p1 p2 p3 p4 p5 p6 p7) := by
  unfold j5 at H
  obtain ⟨y24, e25, H⟩ := of_bind H
  refine Rg V_ok 1 [(2, hr f_agent_Handle.S y24), (6, hb 2)] (ac (f_agent_Handle.rl e25) az) (by kernel_rfl) ?_
  refine Rg V_ok 0 [] az (by kernel_rfl) ?_
  refine Rg V_ok 0 [] az (by kernel_rfl) ?_
  exact Jm {fz := [], gr := 0, ad := [], live := [4, 5, 6, 7, 8, 12], src := [some 0, some 1]} (by kernel_rfl) (by kernel_rfl) (hL3 p1 p2 p3 (IntKind.i64.wrap (p4 + 1)) y24.1 p7 H)
noncomputable def j4 (L3 : List T814c.T → Int → Bool → Int → Tf20b.T → Tb104.T → Option R) (k : Nat) (p1 : List T814c.T) (p2 : Int) (p3 : Bool) (p4 : Int) (p5 : List Int) (p6 : Bool) (p7 : Tf20b.T) (p8 : Tb104.T) (p9 : T4414.T) : Option R :=
  if p6 = true then
  some (true, ())
else
  if (p9.1 == (2 : Int)) = true then
    (f_table_Put.f k p1 p9.2.2.2.1 p9.2.2.2.2 (1000 : Int)).bind fun y22 =>
      j5 L3 k y22.1 p2 p3 p4 p5 p7 p8
  else
    if (p9.1 == (3 : Int)) = true then
      j5 L3 k p1 p9.2.2.2.1 p3 p4 p5 p7 p8
    else
      if (p9.1 == (4 : Int)) = true then
        (f_table_Drop.f k p1 p9.2.2.2.1).bind fun y28 =>
          j5 L3 k y28.1 p2 p3 p4 p5 p7 p8
      else
        if (p9.1 == (5 : Int)) = true then
          j5 L3 k p1 p2 true p4 p5 p7 p8
        else
          j5 L3 k p1 p2 p3 p4 p5 p7 p8
theorem j4_ok {r} {L3 : List T814c.T → Int → Bool → Int → Tf20b.T → Tb104.T → Option R} {m3 : Nat} (hL3 : ∀ p1 p2 p3 p4 p5 p6, L3 p1 p2 p3 p4 p5 p6 = some r → Gw P 0 (Q r) (Pb c0 5631 [] m3) (s3 p1 p2 p3 p4 p5 p6)) {k p1 p2 p3 p4 p5 p6 p7 p8 p9} (H : j4 L3 k p1 p2 p3 p4 p5 p6 p7 p8 p9 = some r) : Gw P 0 (Q r) (Px c0 1779199 [m3]) (s4 p1 p2 p3 p4 p5 p6 p7 p8 p9) := by
  unfold j4 at H
  rcases of_ite H with ⟨hb20, H⟩ | ⟨hb20, H⟩
  · refine C1 hb20 (by kernel_rfl) ?_
    refine Rg V_ok 0 [] az (by kernel_rfl) ?_
    exact Lf (Eq.trans (by kernel_rfl) H)
  · refine C0 hb20 (by kernel_rfl) ?_
    refine Rg V_ok 0 [] az (by kernel_rfl) ?_
    refine Rg V_ok 0 [] az (by kernel_rfl) ?_
    rcases of_ite H with ⟨hb21, H⟩ | ⟨hb21, H⟩
    · refine C1 hb21 (by kernel_rfl) ?_
      obtain ⟨y22, e23, H⟩ := of_bind H
      refine Rg V_ok 0 [(5, hr f_table_Put.S y22)] (ac (f_table_Put.rl e23) az) (by kernel_rfl) ?_
      refine Rg V_ok 0 [] az (by kernel_rfl) ?_
      exact Jm {fz := [], gr := 0, ad := [], live := [4, 5, 6, 7, 8, 12, 14], src := [some 0, some 1]} (by kernel_rfl) (by kernel_rfl) (j5_ok hL3 H)
    · refine C0 hb21 (by kernel_rfl) ?_
      refine Rg V_ok 0 [] az (by kernel_rfl) ?_
      rcases of_ite H with ⟨hb26, H⟩ | ⟨hb26, H⟩
      · refine C1 hb26 (by kernel_rfl) ?_
        refine Rg V_ok 0 [] az (by kernel_rfl) ?_
        exact Jm {fz := [], gr := 0, ad := [], live := [4, 5, 6, 7, 8, 12, 14], src := [some 0, some 1]} (by kernel_rfl) (by kernel_rfl) (j5_ok hL3 H)
      · refine C0 hb26 (by kernel_rfl) ?_
        refine Rg V_ok 0 [] az (by kernel_rfl) ?_
        rcases of_ite H with ⟨hb27, H⟩ | ⟨hb27, H⟩
        · refine C1 hb27 (by kernel_rfl) ?_
          obtain ⟨y28, e29, H⟩ := of_bind H
          refine Rg V_ok 0 [(3, hr f_table_Drop.S y28)] (ac (f_table_Drop.rl e29) az) (by kernel_rfl) ?_
          exact Jm {fz := [], gr := 0, ad := [], live := [4, 5, 6, 7, 8, 12, 14], src := [some 0, some 1]} (by kernel_rfl) (by kernel_rfl) (j5_ok hL3 H)
        · refine C0 hb27 (by kernel_rfl) ?_
          refine Rg V_ok 0 [] az (by kernel_rfl) ?_
          rcases of_ite H with ⟨hb30, H⟩ | ⟨hb30, H⟩
          · refine C1 hb30 (by kernel_rfl) ?_
            refine Rg V_ok 0 [] az (by kernel_rfl) ?_
            exact Jm {fz := [], gr := 0, ad := [], live := [4, 5, 6, 7, 8, 12, 14], src := [some 0, some 1]} (by kernel_rfl) (by kernel_rfl) (j5_ok hL3 H)
          · refine C0 hb30 (by kernel_rfl) ?_
            exact Jm {fz := [], gr := 0, ad := [], live := [4, 5, 6, 7, 8, 12, 14], src := [some 0, some 1]} (by kernel_rfl) (by kernel_rfl) (j5_ok hL3 H)
noncomputable def s6 (p1 : List T814c.T) (p2 : Bool) (p3 : Tf20b.T) : St := ⟨176, [(4, .cv (.one (.ptr 0 0))), (6, .cv (.one (.sl T814c p1 .any))), (141, .cv (.one (.bool p2)))], [(.box 7, (encC .any Tf20b p3))]⟩
noncomputable def s7 (p1 : List T814c.T) (p2 : Int) (p3 : Tf20b.T) : St := ⟨176, [(4, .cv (.one (.ptr 0 0))), (6, .cv (.one (.sl T814c p1 .any))), (20, .cv (.one (.int .i64 p2)))], [(.box 7, (encC .any Tf20b p3))]⟩
noncomputable def s8 (p1 : List T814c.T) (p2 : Int) (p3 : Bool) (p4 : Tf20b.T) : St := ⟨176, [(4, .cv (.one (.ptr 0 0))), (6, .cv (.one (.sl T814c p1 .any))), (20, .cv (.one (.int .i64 p2))), (175, .cv (.one (.bool p3)))], [(.box 7, (encC .any Tf20b p4))]⟩
noncomputable def j8 (L7 : List T814c.T → Int → Tf20b.T → Option R) (k : Nat) (p1 : List T814c.T) (p2 : Int) (p3 : Bool) (p4 : Tf20b.T) : Option R :=
  if p3 = true then
  some (false, ())
else
  L7 p1 (IntKind.i64.wrap (p2 + 1)) p4
theorem j8_ok {r} {L7 : List T814c.T → Int → Tf20b.T → Option R} {m7 : Nat} (hL7 : ∀ p1 p2 p3, L7 p1 p2 p3 = some r → Gw P 0 (Q r) (Pb c0 22527 [] m7) (s7 p1 p2 p3)) {k p1 p2 p3 p4} (H : j8 L7 k p1 p2 p3 p4 = some r) : Gw P 0 (Q r) (Px c0 1873919 [m7]) (s8 p1 p2 p3 p4) := by
  unfold j8 at H
  rcases of_ite H with ⟨hb41, H⟩ | ⟨hb41, H⟩
  · refine C1 hb41 (by kernel_rfl) ?_
    refine Rg V_ok 0 [] az (by kernel_rfl) ?_
    exact Lf (Eq.trans (by kernel_rfl) H)
  · refine C0 hb41 (by kernel_rfl) ?_
    refine Rg V_ok 0 [] az (by kernel_rfl) ?_
    exact Jm {fz := [], gr := 0, ad := [], live := [4, 6, 20], src := [some 0]} (by kernel_rfl) (by kernel_rfl) (hL7 p1 (IntKind.i64.wrap (p2 + 1)) p4 H)
noncomputable def b7 (L7 : List T814c.T → Int → Tf20b.T → Option R) (k : Nat) (p1 : List T814c.T) (p2 : Int) (p3 : Tf20b.T) : Option R :=
  if (decide (p2 < (p1.length : Int))) = true then
  if 0 ≤ p2 then
    if p2 < (p3.2.2.2.2.2.1.length : Int) then
      if p2 < (p1.length : Int) then
        (f_ref08_Same.f k ((att T814c p3.2.2.2.2.2.1 p2).2) ((att T814c p1 p2).2)).bind fun y35 =>
          if (!y35.1) = true then
            j8 L7 k p1 p2 true p3
          else
            j8 L7 k p1 p2 (((att T814c p3.2.2.2.2.2.1 p2).1) != ((att T814c p1 p2).1)) p3
      else none
    else none
  else none
else
  some (true, ())
theorem b7_ok {r} {L7 : List T814c.T → Int → Tf20b.T → Option R} {m7 : Nat} (hL7 : ∀ p1 p2 p3, L7 p1 p2 p3 = some r → Gw P 0 (Q r) (Pb c0 22527 [] m7) (s7 p1 p2 p3)) {k p1 p2 p3} (H : b7 L7 k p1 p2 p3 = some r) : Gw P 0 (Q r) (Px c0 38911 [m7]) (s7 p1 p2 p3) := by
  unfold b7 at H
  refine Rg V_ok 0 [] az (by kernel_rfl) ?_
  rcases of_ite H with ⟨hb34, H⟩ | ⟨hb34, H⟩
  · refine C1 hb34 (by kernel_rfl) ?_
    obtain ⟨n36, H⟩ := of_if H
    obtain ⟨n37, H⟩ := of_if H
    obtain ⟨n38, H⟩ := of_if H
    obtain ⟨y35, e39, H⟩ := of_bind H
    refine Rg V_ok 0 [(11, hr f_ref08_Same.S y35)] (ac n36 (ac n37 (ac n36 (ac n38 (ac (f_ref08_Same.rl e39) az))))) (by kernel_rfl) ?_
    rcases of_ite H with ⟨hb40, H⟩ | ⟨hb40, H⟩
    · refine Rg V_ok 0 [(1, {bv := some true})] (ac hb40 az) (by kernel_rfl) ?_
      exact Jm {fz := [], gr := 0, ad := [], live := [4, 6, 20, 175], src := [some 0]} (by kernel_rfl) (by kernel_rfl) (j8_ok hL7 H)
    · refine Rg V_ok 0 [(1, {bv := some false})] (ac hb40 (ac n36 (ac n37 (ac n36 (ac n38 az))))) (by kernel_rfl) ?_
      exact Jm {fz := [], gr := 0, ad := [], live := [4, 6, 20, 175], src := [some 0]} (by kernel_rfl) (by kernel_rfl) (j8_ok hL7 H)
  · refine C0 hb34 (by kernel_rfl) ?_
    refine Rg V_ok 0 [] az (by kernel_rfl) ?_
    exact Lf (Eq.trans (by kernel_rfl) H)
noncomputable def l7 (k : Nat) : Nat → List T814c.T → Int → Tf20b.T → Option R
  | 0, _, _, _ => none
  | m + 1, p1, p2, p3 => b7 (l7 k m) k p1 p2 p3
theorem l7_ok {r} (k : Nat) : ∀ (m7 : Nat) (p1 : List T814c.T) (p2 : Int) (p3 : Tf20b.T), l7 k m7 p1 p2 p3 = some r → Gw P 0 (Q r) (Pb c0 22527 [] m7) (s7 p1 p2 p3)
  | 0, _, _, _, H => by cases H
  | m7 + 1, p1, p2, p3, H => SU (by kernel_rfl) (b7_ok (l7_ok k m7) H)
noncomputable def j6 (k : Nat) (p1 : List T814c.T) (p2 : Bool) (p3 : Tf20b.T) : Option R :=
  if p2 = true then
  some (false, ())
else
  l7 k k p1 0 p3
theorem j6_ok {r} {k p1 p2 p3} (H : j6 k p1 p2 p3 = some r) : Gw P 0 (Q r) (Px c0 7167 []) (s6 p1 p2 p3) := by
  unfold j6 at H
  rcases of_ite H with ⟨hb33, H⟩ | ⟨hb33, H⟩
  · refine C1 hb33 (by kernel_rfl) ?_
    refine Rg V_ok 0 [] az (by kernel_rfl) ?_
    exact Lf (Eq.trans (by kernel_rfl) H)
  · refine C0 hb33 (by kernel_rfl) ?_
    refine Rg V_ok 0 [] az (by kernel_rfl) ?_
    exact LP k (Jm {fz := [], gr := 0, ad := [], live := [4, 6, 20], src := [some 0]} (by kernel_rfl) (by kernel_rfl) (l7_ok k k p1 0 p3 H))
noncomputable def b3 (L3 : List T814c.T → Int → Bool → Int → Tf20b.T → Tb104.T → Option R) (k : Nat) (p1 : List T814c.T) (p2 : Int) (p3 : Bool) (p4 : Int) (p5 : Tf20b.T) (p6 : Tb104.T) : Option R :=
  if (decide (p4 < (p6.2.2.length : Int))) = true then
  if 0 ≤ p4 then
    if p4 < (p6.2.2.length : Int) then
      (f_frame_Seal.f k (att T4414 p6.2.2 p4)).bind fun y17 =>
        if (y17.2.1 != (0 : Int)) = true then
          j4 L3 k p1 p2 p3 p4 y17.1 true p5 p6 (att T4414 p6.2.2 p4)
        else
          if (((att T4414 p6.2.2 p4).1) == (0 : Int)) = true then
            j4 L3 k p1 p2 p3 p4 y17.1 true p5 p6 (att T4414 p6.2.2 p4)
          else
            j4 L3 k p1 p2 p3 p4 y17.1 (((att T4414 p6.2.2 p4).1) == (1 : Int)) p5 p6 (att T4414 p6.2.2 p4)
    else none
  else none
else
  if ((p5.2.2.2.2.2.1.length : Int) != (p1.length : Int)) = true then
    j6 k p1 true p5
  else
    if (p5.2.2.2.1 != p2) = true then
      j6 k p1 true p5
    else
      if (!((p5.2.2.1 == p3) && true)) = true then
        j6 k p1 true p5
      else
        if (p5.2.1 != (p6.2.2.length : Int)) = true then
          j6 k p1 true p5
        else
          j6 k p1 (p5.2.2.2.2.1 != (0 : Int)) p5
theorem b3_ok {r} {L3 : List T814c.T → Int → Bool → Int → Tf20b.T → Tb104.T → Option R} {m3 : Nat} (hL3 : ∀ p1 p2 p3 p4 p5 p6, L3 p1 p2 p3 p4 p5 p6 = some r → Gw P 0 (Q r) (Pb c0 5631 [] m3) (s3 p1 p2 p3 p4 p5 p6)) {k p1 p2 p3 p4 p5 p6} (H : b3 L3 k p1 p2 p3 p4 p5 p6 = some r) : Gw P 0 (Q r) (Px c0 9727 [m3]) (s3 p1 p2 p3 p4 p5 p6) := by
  unfold b3 at H
  refine Rg V_ok 0 [] az (by kernel_rfl) ?_
  rcases of_ite H with ⟨hb14, H⟩ | ⟨hb14, H⟩
  · refine C1 hb14 (by kernel_rfl) ?_
    obtain ⟨n15, H⟩ := of_if H
    obtain ⟨n16, H⟩ := of_if H
    refine Rg V_ok 1 [(5, hb 2)] (ac n15 (ac n16 az)) (by kernel_rfl) ?_
    obtain ⟨y17, e18, H⟩ := of_bind H
    refine Rg V_ok 0 [(1, hr f_frame_Seal.S y17)] (ac (f_frame_Seal.rl e18) az) (by kernel_rfl) ?_
    rcases of_ite H with ⟨hb19, H⟩ | ⟨hb19, H⟩
    · refine Rg V_ok 0 [(1, {bv := some true})] (ac hb19 az) (by kernel_rfl) ?_
      exact Jm {fz := [], gr := 0, ad := [], live := [4, 5, 6, 7, 8, 12, 13, 14, 77], src := [some 0, some 1, some 2]} (by kernel_rfl) (by kernel_rfl) (j4_ok hL3 H)
    · rcases of_ite H with ⟨hb31, H⟩ | ⟨hb31, H⟩
      · refine Rg V_ok 0 [(1, {bv := some false}), (6, {bv := some true})] (ac hb19 (ac hb31 az)) (by kernel_rfl) ?_
        exact Jm {fz := [], gr := 0, ad := [], live := [4, 5, 6, 7, 8, 12, 13, 14, 77], src := [some 0, some 1, some 2]} (by kernel_rfl) (by kernel_rfl) (j4_ok hL3 H)
      · refine Rg V_ok 0 [(1, {bv := some false}), (6, {bv := some false})] (ac hb19 (ac hb31 az)) (by kernel_rfl) ?_
        exact Jm {fz := [], gr := 0, ad := [], live := [4, 5, 6, 7, 8, 12, 13, 14, 77], src := [some 0, some 1, some 2]} (by kernel_rfl) (by kernel_rfl) (j4_ok hL3 H)
  · refine C0 hb14 (by kernel_rfl) ?_
    rcases of_ite H with ⟨hb32, H⟩ | ⟨hb32, H⟩
    · refine Rg V_ok 0 [(5, {bv := some true})] (ac hb32 az) (by kernel_rfl) ?_
      exact Jm {fz := [], gr := 0, ad := [], live := [4, 6, 141], src := [some 0]} (by kernel_rfl) (by kernel_rfl) (j6_ok H)
    · rcases of_ite H with ⟨hb42, H⟩ | ⟨hb42, H⟩
      · refine Rg V_ok 0 [(5, {bv := some false}), (11, {bv := some true})] (ac hb32 (ac hb42 az)) (by kernel_rfl) ?_
        exact Jm {fz := [], gr := 0, ad := [], live := [4, 6, 141], src := [some 0]} (by kernel_rfl) (by kernel_rfl) (j6_ok H)
      · rcases of_ite H with ⟨hb43, H⟩ | ⟨hb43, H⟩
        · refine Rg V_ok 0 [(5, {bv := some false}), (11, {bv := some false}), (17, {bv := some true})] (ac hb32 (ac hb42 (ac hb43 az))) (by kernel_rfl) ?_
          exact Jm {fz := [], gr := 0, ad := [], live := [4, 6, 141], src := [some 0]} (by kernel_rfl) (by kernel_rfl) (j6_ok H)
        · rcases of_ite H with ⟨hb44, H⟩ | ⟨hb44, H⟩
          · refine Rg V_ok 0 [(5, {bv := some false}), (11, {bv := some false}), (17, {bv := some false}), (25, {bv := some true})] (ac hb32 (ac hb42 (ac hb43 (ac hb44 az)))) (by kernel_rfl) ?_
            exact Jm {fz := [], gr := 0, ad := [], live := [4, 6, 141], src := [some 0]} (by kernel_rfl) (by kernel_rfl) (j6_ok H)
          · refine Rg V_ok 0 [(5, {bv := some false}), (11, {bv := some false}), (17, {bv := some false}), (25, {bv := some false})] (ac hb32 (ac hb42 (ac hb43 (ac hb44 az)))) (by kernel_rfl) ?_
            exact Jm {fz := [], gr := 0, ad := [], live := [4, 6, 141], src := [some 0]} (by kernel_rfl) (by kernel_rfl) (j6_ok H)
noncomputable def l3 (k : Nat) : Nat → List T814c.T → Int → Bool → Int → Tf20b.T → Tb104.T → Option R
  | 0, _, _, _, _, _, _ => none
  | m + 1, p1, p2, p3, p4, p5, p6 => b3 (l3 k m) k p1 p2 p3 p4 p5 p6
theorem l3_ok {r} (k : Nat) : ∀ (m3 : Nat) (p1 : List T814c.T) (p2 : Int) (p3 : Bool) (p4 : Int) (p5 : Tf20b.T) (p6 : Tb104.T), l3 k m3 p1 p2 p3 p4 p5 p6 = some r → Gw P 0 (Q r) (Pb c0 5631 [] m3) (s3 p1 p2 p3 p4 p5 p6)
  | 0, _, _, _, _, _, _, H => by cases H
  | m3 + 1, p1, p2, p3, p4, p5, p6, H => SU (by kernel_rfl) (b3_ok (l3_ok k m3) H)
noncomputable def b2 (L2 : List T4414.T → Int → Bool → Int → Tf20b.T → Tb104.T → Option R) (k : Nat) (p1 : List T4414.T) (p2 : Int) (p3 : Bool) (p4 : Int) (p5 : Tf20b.T) (p6 : Tb104.T) : Option R :=
  if (decide (p4 < (p1.length : Int))) = true then
  if 0 ≤ p4 then
    if p4 < (p1.length : Int) then
      (f_sess_Push.f k p6 (att T4414 p1 p4)).bind fun y10 =>
        L2 p1 p2 p3 (IntKind.i64.wrap (p4 + 1)) p5 y10.1
    else none
  else none
else
  l3 k k [] p2 p3 0 p5 p6
theorem b2_ok {r} {L2 : List T4414.T → Int → Bool → Int → Tf20b.T → Tb104.T → Option R} {m2 : Nat} (hL2 : ∀ p1 p2 p3 p4 p5 p6, L2 p1 p2 p3 p4 p5 p6 = some r → Gw P 0 (Q r) (Pb c0 2815 [] m2) (s2 p1 p2 p3 p4 p5 p6)) {k p1 p2 p3 p4 p5 p6} (H : b2 L2 k p1 p2 p3 p4 p5 p6 = some r) : Gw P 0 (Q r) (Px c0 4863 [m2]) (s2 p1 p2 p3 p4 p5 p6) := by
  unfold b2 at H
  refine Rg V_ok 0 [] az (by kernel_rfl) ?_
  rcases of_ite H with ⟨hb9, H⟩ | ⟨hb9, H⟩
  · refine C1 hb9 (by kernel_rfl) ?_
    obtain ⟨n11, H⟩ := of_if H
    obtain ⟨n12, H⟩ := of_if H
    obtain ⟨y10, e13, H⟩ := of_bind H
    refine Rg V_ok 1 [(5, hr f_sess_Push.S y10), (9, hb 2)] (ac n11 (ac n12 (ac (f_sess_Push.rl e13) az))) (by kernel_rfl) ?_
    refine Rg V_ok 0 [] az (by kernel_rfl) ?_
    refine Rg V_ok 0 [] az (by kernel_rfl) ?_
    exact Jm {fz := [], gr := 0, ad := [], live := [0, 4, 5, 6, 7, 8, 9], src := [some 0, some 1]} (by kernel_rfl) (by kernel_rfl) (hL2 p1 p2 p3 (IntKind.i64.wrap (p4 + 1)) p5 y10.1 H)
  · refine C0 hb9 (by kernel_rfl) ?_
    refine Rg V_ok 0 [] az (by kernel_rfl) ?_
    exact LP k (Jm {fz := [], gr := 0, ad := [.tmp 6 (.sl T814c)], live := [4, 5, 6, 7, 8, 12], src := [some 0, some 1]} (by kernel_rfl) (by kernel_rfl) (l3_ok k k [] p2 p3 0 p5 p6 H))
noncomputable def l2 (k : Nat) : Nat → List T4414.T → Int → Bool → Int → Tf20b.T → Tb104.T → Option R
  | 0, _, _, _, _, _, _ => none
  | m + 1, p1, p2, p3, p4, p5, p6 => b2 (l2 k m) k p1 p2 p3 p4 p5 p6
theorem l2_ok {r} (k : Nat) : ∀ (m2 : Nat) (p1 : List T4414.T) (p2 : Int) (p3 : Bool) (p4 : Int) (p5 : Tf20b.T) (p6 : Tb104.T), l2 k m2 p1 p2 p3 p4 p5 p6 = some r → Gw P 0 (Q r) (Pb c0 2815 [] m2) (s2 p1 p2 p3 p4 p5 p6)
  | 0, _, _, _, _, _, _, H => by cases H
  | m2 + 1, p1, p2, p3, p4, p5, p6, H => SU (by kernel_rfl) (b2_ok (l2_ok k m2) H)
noncomputable def j1 (k : Nat) (p1 : List T4414.T) (p2 : Bool) (p3 : Bool) : Option R :=
  if p3 = true then
  some (p2, ())
else
  (f_agent_New.f k).bind fun y5 =>
    (f_sess_New.f k (1 : Int)).bind fun y7 =>
      l2 k k p1 0 false 0 y5.1 y7.1
theorem j1_ok {r} {k p1 p2 p3} (H : j1 k p1 p2 p3 = some r) : Gw P 0 (Q r) (Px c0 27 []) (s1 p1 p2 p3) := by
  unfold j1 at H
  rcases of_ite H with ⟨hb4, H⟩ | ⟨hb4, H⟩
  · refine C1 hb4 (by kernel_rfl) ?_
    refine Rg V_ok 0 [] az (by kernel_rfl) ?_
    exact Lf (Eq.trans (by kernel_rfl) H)
  · refine C0 hb4 (by kernel_rfl) ?_
    obtain ⟨y5, e6, H⟩ := of_bind H
    refine Rg V_ok 1 [(0, hr f_agent_New.S y5), (1, hb 0)] (ac (f_agent_New.rl e6) az) (by kernel_rfl) ?_
    obtain ⟨y7, e8, H⟩ := of_bind H
    refine Rg V_ok 1 [(0, hr f_sess_New.S y7), (1, hb 1)] (ac (f_sess_New.rl e8) az) (by kernel_rfl) ?_
    refine Rg V_ok 0 [] az (by kernel_rfl) ?_
    refine Rg V_ok 0 [] az (by kernel_rfl) ?_
    refine Rg V_ok 0 [] az (by kernel_rfl) ?_
    refine Rg V_ok 0 [] az (by kernel_rfl) ?_
    exact LP k (Jm {fz := [], gr := 0, ad := [], live := [0, 4, 5, 6, 7, 8, 9], src := [some 0, some 1]} (by kernel_rfl) (by kernel_rfl) (l2_ok k k p1 0 false 0 y5.1 y7.1 H))
noncomputable def f (k : Nat) (a1 : List T4414.T) : Option R :=
  (f_law17_awake.f k).bind fun y1 =>
    if (!y1.1) = true then
      j1 k a1 y1.1 true
    else
      j1 k a1 y1.1 (decide ((a1.length : Int) > (60 : Int)))
noncomputable def S : Spec := ⟨ps, rs, .any, none, fun x r => ∃ k, f k x.1 = some r⟩
theorem rl {k a1 r} (e : f k a1 = some r) : S.rel (a1, ()) r := ⟨k, e⟩
theorem f_ok {r k a1} (H : f k a1 = some r) : Gw P 0 (Q r) (Px c0 1 []) (⟨176, [(0, .cv (.one (.sl T4414 a1 .any)))], []⟩) := by
  unfold f at H
  refine Rg V_ok 0 [] az (by kernel_rfl) ?_
  obtain ⟨y1, e2, H⟩ := of_bind H
  refine Rg V_ok 0 [(0, hr f_law17_awake.S y1)] (ac (f_law17_awake.rl e2) az) (by kernel_rfl) ?_
  rcases of_ite H with ⟨hb3, H⟩ | ⟨hb3, H⟩
  · refine Rg V_ok 0 [(1, {bv := some true})] (ac hb3 az) (by kernel_rfl) ?_
    exact Jm {fz := [], gr := 0, ad := [], live := [0, 3, 29], src := []} (by kernel_rfl) (by kernel_rfl) (j1_ok H)
  · refine Rg V_ok 0 [(1, {bv := some false})] (ac hb3 az) (by kernel_rfl) ?_
    exact Jm {fz := [], gr := 0, ad := [], live := [0, 3, 29], src := []} (by kernel_rfl) (by kernel_rfl) (j1_ok H)
theorem fits : Fits P 5 S := fits_of V_ok Go.Proofs.Tryd.func5 (by kernel_rfl) (by decide) (by decide) rfl (fun x r ⟨k, H⟩ => of_G (f_ok H))
end f_law17_AgentRuns
/-! ### function 76, wayfinder/plan.Adds$1, where it is called -/
namespace i_plan_Adds_1_5da
noncomputable def c0 : Code := (Go.Proofs.Tryd.f76.body).getD .skip
noncomputable def V : Env := { tt := tt, Γ := slk [] }
theorem V_ok : EnvOk P V := { ck := tt_ck, fits := slk_nil, mixed := mixed }
abbrev R := (List T4414.T) × Unit
noncomputable def s0 (p1 : T1383.T) (p2 : Int) (p3 : T1383.T) (p4 : List T4414.T) : St := ⟨10, [(0, .cv (.agg (encC .any T1383 p1))), (1, .cv (.one (.ptr 1 0))), (2, .cv (.one (.ptr 0 0)))], [(.box 1, [.int .i64 p2]), (.box 1, [.own 3]), (.box 6, (encC .any T1383 p3)), (.buf 32 T4414 p4, [])]⟩
noncomputable def out (p1 : T1383.T) (p2 : Int) (p3 : T1383.T) (p4 : List T4414.T) (r : R) : St := ⟨10, [], [(.box 1, [.int .i64 p2]), (.box 1, [.own 4]), (.box 6, (encC .any T1383 p3)), (.dead, []), (.buf 32 T4414 r.1, [])]⟩
abbrev Q (p1 : T1383.T) (p2 : Int) (p3 : T1383.T) (p4 : List T4414.T) (r : R) := CallQ 4 (out p1 p2 p3 p4 r)
noncomputable def f (k : Nat) (p1 : T1383.T) (p2 : Int) (p3 : T1383.T) (p4 : List T4414.T) : Option R :=
  if (p4.length + 1) * 80 ≤ 140737488355328 then
    some ((p4 ++ [(2, (0, (0, (p2, p1))))]), ())
  else none
theorem f_ok {r k p1 p2 p3 p4} (H : f k p1 p2 p3 p4 = some r) : Gw P 4 (Q p1 p2 p3 p4 r) (Px c0 1 []) (s0 p1 p2 p3 p4) := by
  unfold f at H
  refine Rg V_ok 1 [(0, hb 4)] az (by kernel_rfl) ?_
  obtain ⟨n1, H⟩ := of_if H
  refine Rg V_ok 1 [(5, hb 5)] (ac n1 az) (by kernel_rfl) ?_
  obtain rfl := Option.some.inj H
  exact Lq {fz := [], gr := 0, ad := [], live := [], src := [some 0, some 1, some 2, some 3, some 5]} (by kernel_rfl)
theorem ok {r k p1 p2 p3 p4} (H : f k p1 p2 p3 p4 = some r) : W P 4 c0 (s0 p1 p2 p3 p4) (CallQ 4 (out p1 p2 p3 p4 r)) := of_G (f_ok H)
theorem at_ : FnAt P 76 10 c0 Go.Proofs.Tryd.f76.results := fnAt Go.Proofs.Tryd.func76 (by kernel_rfl) (by decide) (by kernel_rfl) (by kernel_rfl)
end i_plan_Adds_1_5da
/-! ### function 75, (wayfinder/plan.many[wayfinder/api.Rule]).do, where it is called -/
namespace i_plan_many_Rule_do_2f5
noncomputable def c0 : Code := (Go.Proofs.Tryd.f75.body).getD .skip
noncomputable def V : Env := { tt := tt, Γ := slk [] }
theorem V_ok : EnvOk P V := { ck := tt_ck, fits := slk_nil, mixed := mixed }
abbrev R := (Int) × (List T4414.T) × Unit
noncomputable def s0 (p1 : List T1383.T) (p2 : Int) : St := ⟨16, [(0, .cv (.one (.sl T1383 p1 .any))), (1, .cv (.one (.fn 76 [] [(1, 0), (0, 0)])))], [(.box 1, [.int .i64 p2]), (.box 1, [.nils])]⟩
noncomputable def out (r : R) : St := ⟨16, [], [(.box 1, [.int .i64 r.1]), (.box 1, [.own 2]), (.buf 32 T4414 r.2.1, [])]⟩
abbrev Q (r : R) := CallQ 2 (out r)
noncomputable def s1 (p1 : List T1383.T) (p2 : Int) (p3 : Int) (p4 : Int) (p5 : List T4414.T) : St := ⟨16, [(1, .cv (.one (.fn 76 [] [(1, 0), (0, 0)]))), (6, .cv (.one (.sl T1383 p1 .any))), (7, .cv (.one (.int .i64 p2))), (8, .cv (.one (.int .i64 p3)))], [(.box 1, [.int .i64 p4]), (.box 1, [.own 2]), (.buf 32 T4414 p5, [])]⟩
noncomputable def b1 (L1 : List T1383.T → Int → Int → Int → List T4414.T → Option R) (k : Nat) (p1 : List T1383.T) (p2 : Int) (p3 : Int) (p4 : Int) (p5 : List T4414.T) : Option R :=
  if (decide (p3 < p2)) = true then
  if 0 ≤ p3 then
    if p3 < (p1.length : Int) then
      (i_plan_Adds_1_5da.f k (att T1383 p1 p3) p4 (att T1383 p1 p3) p5).bind fun y4 =>
        L1 p1 p2 (IntKind.i64.wrap (p3 + 1)) p4 y4.1
    else none
  else none
else
  some (p4, (p5, ()))
theorem b1_ok {r} {L1 : List T1383.T → Int → Int → Int → List T4414.T → Option R} {m1 : Nat} (hL1 : ∀ p1 p2 p3 p4 p5, L1 p1 p2 p3 p4 p5 = some r → Gw P 2 (Q r) (Pb c0 5 [] m1) (s1 p1 p2 p3 p4 p5)) {k p1 p2 p3 p4 p5} (H : b1 L1 k p1 p2 p3 p4 p5 = some r) : Gw P 2 (Q r) (Px c0 9 [m1]) (s1 p1 p2 p3 p4 p5) := by
  unfold b1 at H
  refine Rg V_ok 0 [] az (by kernel_rfl) ?_
  rcases of_ite H with ⟨hb1, H⟩ | ⟨hb1, H⟩
  · refine C1 hb1 (by kernel_rfl) ?_
    obtain ⟨n2, H⟩ := of_if H
    obtain ⟨n3, H⟩ := of_if H
    refine Rg V_ok 1 [(2, hb 3)] (ac n2 (ac n3 az)) (by kernel_rfl) ?_
    refine GT {live := [1, 5, 6, 7, 8], src := [some 0, some 1, some 3, some 2]} (by kernel_rfl) (RI (by kernel_rfl) ?_)
    refine EV V_ok 0 [] 2 az (by kernel_rfl) ?_
    obtain ⟨y4, e5, H⟩ := of_bind H
    refine CL V_ok i_plan_Adds_1_5da.at_ (i_plan_Adds_1_5da.ok e5) (by kernel_rfl) (by kernel_rfl) (by kernel_rfl) ?_
    refine RN (by kernel_rfl) (by kernel_rfl) ?_
    refine Rg V_ok 0 [] az (by kernel_rfl) ?_
    exact Jm {fz := [], gr := 0, ad := [], live := [1, 6, 7, 8], src := [some 0, some 1, some 4]} (by kernel_rfl) (by kernel_rfl) (hL1 p1 p2 (IntKind.i64.wrap (p3 + 1)) p4 y4.1 H)
  · refine C0 hb1 (by kernel_rfl) ?_
    obtain rfl := Option.some.inj H
    exact Lq {fz := [], gr := 0, ad := [], live := [], src := [some 0, some 1, some 2]} (by kernel_rfl)
noncomputable def l1 (k : Nat) : Nat → List T1383.T → Int → Int → Int → List T4414.T → Option R
  | 0, _, _, _, _, _ => none
  | m + 1, p1, p2, p3, p4, p5 => b1 (l1 k m) k p1 p2 p3 p4 p5
theorem l1_ok {r} (k : Nat) : ∀ (m1 : Nat) (p1 : List T1383.T) (p2 : Int) (p3 : Int) (p4 : Int) (p5 : List T4414.T), l1 k m1 p1 p2 p3 p4 p5 = some r → Gw P 2 (Q r) (Pb c0 5 [] m1) (s1 p1 p2 p3 p4 p5)
  | 0, _, _, _, _, _, H => by cases H
  | m1 + 1, p1, p2, p3, p4, p5, H => SU (by kernel_rfl) (b1_ok (l1_ok k m1) H)
noncomputable def f (k : Nat) (p1 : List T1383.T) (p2 : Int) : Option R :=
  l1 k k p1 (p1.length : Int) 0 p2 []
theorem f_ok {r k p1 p2} (H : f k p1 p2 = some r) : Gw P 2 (Q r) (Px c0 1 []) (s0 p1 p2) := by
  unfold f at H
  refine Rg V_ok 0 [] az (by kernel_rfl) ?_
  exact LP k (Jm {fz := [], gr := 1, ad := [.ownC 1 0 2 32 T4414], live := [1, 6, 7, 8], src := [some 0, some 1, some 2]} (by kernel_rfl) (by kernel_rfl) (l1_ok k k p1 (p1.length : Int) 0 p2 [] H))
theorem ok {r k p1 p2} (H : f k p1 p2 = some r) : W P 2 c0 (s0 p1 p2) (CallQ 2 (out r)) := of_G (f_ok H)
theorem at_ : FnAt P 75 16 c0 Go.Proofs.Tryd.f75.results := fnAt Go.Proofs.Tryd.func75 (by kernel_rfl) (by decide) (by kernel_rfl) (by kernel_rfl)
end i_plan_many_Rule_do_2f5
/-! ### function 56, wayfinder/plan.Adds -/
namespace f_plan_Adds
noncomputable def c0 : Code := (Go.Proofs.Tryd.f56.body).getD .skip
abbrev ps : Sg := [(false, (.int .i64)), (false, (.slice T1383))]
abbrev rs : Sg := [(false, (.slice T4414))]
noncomputable def V : Env := { tt := tt, Γ := slk [] }
theorem V_ok : EnvOk P V := { ck := tt_ck, fits := slk_nil, mixed := mixed }
abbrev R := Tup rs
noncomputable abbrev Q (r : R) : Exit → St → Prop := Qr tt Go.Proofs.Tryd.f56.results ⟨ps, rs, .any, none, fun _ _ => True⟩ r
noncomputable def f (k : Nat) (a1 : Int) (a2 : List T1383.T) : Option R :=
  (i_plan_many_Rule_do_2f5.f k a2 a1).bind fun y1 =>
    some (y1.2.1, ())
noncomputable def S : Spec := ⟨ps, rs, .any, none, fun x r => ∃ k, f k x.1 x.2.1 = some r⟩
theorem rl {k a1 a2 r} (e : f k a1 a2 = some r) : S.rel (a1, a2, ()) r := ⟨k, e⟩
theorem f_ok {r k a1 a2} (H : f k a1 a2 = some r) : Gw P 0 (Q r) (Px c0 1 []) (⟨10, [(0, .cv (.one (.int .i64 a1))), (1, .cv (.one (.sl T1383 a2 .any)))], []⟩) := by
  unfold f at H
  refine Rg V_ok 1 [(0, hb 0)] az (by kernel_rfl) ?_
  refine Rg V_ok 1 [(0, hb 1)] az (by kernel_rfl) ?_
  refine GT {live := [1, 2, 5], src := [some 0, some 1]} (by kernel_rfl) (RI (by kernel_rfl) ?_)
  refine EV V_ok 0 [] 2 az (by kernel_rfl) ?_
  obtain ⟨y1, e2, H⟩ := of_bind H
  refine CL V_ok i_plan_many_Rule_do_2f5.at_ (i_plan_many_Rule_do_2f5.ok e2) (by kernel_rfl) (by kernel_rfl) (by kernel_rfl) ?_
  refine RN (by kernel_rfl) (by kernel_rfl) ?_
  refine Rg V_ok 0 [] az (by kernel_rfl) ?_
  exact Lf (Eq.trans (by kernel_rfl) H)
theorem fits : Fits P 56 S := fits_of V_ok Go.Proofs.Tryd.func56 (by kernel_rfl) (by decide) (by decide) rfl (fun x r ⟨k, H⟩ => of_G (f_ok H))
end f_plan_Adds
/-! ### function 55, wayfinder/plan.Sync$1, where it is called -/
namespace i_plan_Sync_1_a74
noncomputable def c0 : Code := (Go.Proofs.Tryd.f55.body).getD .skip
noncomputable def V : Env := { tt := tt, Γ := slk [(56, f_plan_Adds.S)] }
theorem V_ok : EnvOk P V := { ck := tt_ck, fits := slk_cons f_plan_Adds.fits (slk_nil), mixed := mixed }
abbrev R := (List T4414.T) × Unit
noncomputable def s0 (p1 : T814c.T) (p2 : T814c.T) (p3 : List T4414.T) : St := ⟨10, [(0, .cv (.agg [.int .i64 p1.1, .sl T1383 p1.2 .any])), (1, .cv (.one (.ptr 0 0)))], [(.box 1, [.own 2]), (.box 2, [.int .i64 p2.1, .sl T1383 p2.2 .any]), (.buf 32 T4414 p3, [])]⟩
noncomputable def out (p1 : T814c.T) (p2 : T814c.T) (p3 : List T4414.T) (r : R) : St := ⟨10, [], [(.box 1, [.own 3]), (.box 2, [.int .i64 p2.1, .sl T1383 p2.2 .any]), (.dead, []), (.buf 32 T4414 r.1, [])]⟩
abbrev Q (p1 : T814c.T) (p2 : T814c.T) (p3 : List T4414.T) (r : R) := CallQ 3 (out p1 p2 p3 r)
noncomputable def f (k : Nat) (p1 : T814c.T) (p2 : T814c.T) (p3 : List T4414.T) : Option R :=
  (f_plan_Adds.f k p1.1 p1.2).bind fun y1 =>
    if (p3.length + y1.1.length) * 80 ≤ 140737488355328 then
      some ((p3 ++ y1.1), ())
    else none
theorem f_ok {r k p1 p2 p3} (H : f k p1 p2 p3 = some r) : Gw P 3 (Q p1 p2 p3 r) (Px c0 1 []) (s0 p1 p2 p3) := by
  unfold f at H
  refine Rg V_ok 1 [(0, hb 3)] az (by kernel_rfl) ?_
  obtain ⟨y1, e2, H⟩ := of_bind H
  obtain ⟨n3, H⟩ := of_if H
  refine Rg V_ok 1 [(5, hr f_plan_Adds.S y1), (6, hb 4)] (ac (f_plan_Adds.rl e2) (ac n3 az)) (by kernel_rfl) ?_
  obtain rfl := Option.some.inj H
  exact Lq {fz := [], gr := 0, ad := [], live := [], src := [some 0, some 1, some 2, some 4]} (by kernel_rfl)
theorem ok {r k p1 p2 p3} (H : f k p1 p2 p3 = some r) : W P 3 c0 (s0 p1 p2 p3) (CallQ 3 (out p1 p2 p3 r)) := of_G (f_ok H)
theorem at_ : FnAt P 55 10 c0 Go.Proofs.Tryd.f55.results := fnAt Go.Proofs.Tryd.func55 (by kernel_rfl) (by decide) (by kernel_rfl) (by kernel_rfl)
end i_plan_Sync_1_a74
/-! ### function 54, (wayfinder/plan.many[wayfinder/api.Ver]).do, where it is called -/
namespace i_plan_many_Ver_do_d01
noncomputable def c0 : Code := (Go.Proofs.Tryd.f54.body).getD .skip
noncomputable def V : Env := { tt := tt, Γ := slk [] }
theorem V_ok : EnvOk P V := { ck := tt_ck, fits := slk_nil, mixed := mixed }
abbrev R := (List T4414.T) × Unit
noncomputable def s0 (p1 : List T814c.T) : St := ⟨16, [(0, .cv (.one (.sl T814c p1 .any))), (1, .cv (.one (.fn 55 [] [(0, 0)])))], [(.box 1, [.nils])]⟩
noncomputable def out (r : R) : St := ⟨16, [], [(.box 1, [.own 1]), (.buf 32 T4414 r.1, [])]⟩
abbrev Q (r : R) := CallQ 1 (out r)
noncomputable def s1 (p1 : List T814c.T) (p2 : Int) (p3 : Int) (p4 : List T4414.T) : St := ⟨16, [(1, .cv (.one (.fn 55 [] [(0, 0)]))), (6, .cv (.one (.sl T814c p1 .any))), (7, .cv (.one (.int .i64 p2))), (8, .cv (.one (.int .i64 p3)))], [(.box 1, [.own 1]), (.buf 32 T4414 p4, [])]⟩
noncomputable def b1 (L1 : List T814c.T → Int → Int → List T4414.T → Option R) (k : Nat) (p1 : List T814c.T) (p2 : Int) (p3 : Int) (p4 : List T4414.T) : Option R :=
  if (decide (p3 < p2)) = true then
  if 0 ≤ p3 then
    if p3 < (p1.length : Int) then
      (i_plan_Sync_1_a74.f k (att T814c p1 p3) (att T814c p1 p3) p4).bind fun y4 =>
        L1 p1 p2 (IntKind.i64.wrap (p3 + 1)) y4.1
    else none
  else none
else
  some (p4, ())
theorem b1_ok {r} {L1 : List T814c.T → Int → Int → List T4414.T → Option R} {m1 : Nat} (hL1 : ∀ p1 p2 p3 p4, L1 p1 p2 p3 p4 = some r → Gw P 1 (Q r) (Pb c0 5 [] m1) (s1 p1 p2 p3 p4)) {k p1 p2 p3 p4} (H : b1 L1 k p1 p2 p3 p4 = some r) : Gw P 1 (Q r) (Px c0 9 [m1]) (s1 p1 p2 p3 p4) := by
  unfold b1 at H
  refine Rg V_ok 0 [] az (by kernel_rfl) ?_
  rcases of_ite H with ⟨hb1, H⟩ | ⟨hb1, H⟩
  · refine C1 hb1 (by kernel_rfl) ?_
    obtain ⟨n2, H⟩ := of_if H
    obtain ⟨n3, H⟩ := of_if H
    refine Rg V_ok 1 [(2, hb 2)] (ac n2 (ac n3 az)) (by kernel_rfl) ?_
    refine GT {live := [1, 5, 6, 7, 8], src := [some 0, some 2, some 1]} (by kernel_rfl) (RI (by kernel_rfl) ?_)
    refine EV V_ok 0 [] 2 az (by kernel_rfl) ?_
    obtain ⟨y4, e5, H⟩ := of_bind H
    refine CL V_ok i_plan_Sync_1_a74.at_ (i_plan_Sync_1_a74.ok e5) (by kernel_rfl) (by kernel_rfl) (by kernel_rfl) ?_
    refine RN (by kernel_rfl) (by kernel_rfl) ?_
    refine Rg V_ok 0 [] az (by kernel_rfl) ?_
    exact Jm {fz := [], gr := 0, ad := [], live := [1, 6, 7, 8], src := [some 0, some 3]} (by kernel_rfl) (by kernel_rfl) (hL1 p1 p2 (IntKind.i64.wrap (p3 + 1)) y4.1 H)
  · refine C0 hb1 (by kernel_rfl) ?_
    obtain rfl := Option.some.inj H
    exact Lq {fz := [], gr := 0, ad := [], live := [], src := [some 0, some 1]} (by kernel_rfl)
noncomputable def l1 (k : Nat) : Nat → List T814c.T → Int → Int → List T4414.T → Option R
  | 0, _, _, _, _ => none
  | m + 1, p1, p2, p3, p4 => b1 (l1 k m) k p1 p2 p3 p4
theorem l1_ok {r} (k : Nat) : ∀ (m1 : Nat) (p1 : List T814c.T) (p2 : Int) (p3 : Int) (p4 : List T4414.T), l1 k m1 p1 p2 p3 p4 = some r → Gw P 1 (Q r) (Pb c0 5 [] m1) (s1 p1 p2 p3 p4)
  | 0, _, _, _, _, H => by cases H
  | m1 + 1, p1, p2, p3, p4, H => SU (by kernel_rfl) (b1_ok (l1_ok k m1) H)
noncomputable def f (k : Nat) (p1 : List T814c.T) : Option R :=
  l1 k k p1 (p1.length : Int) 0 []
theorem f_ok {r k p1} (H : f k p1 = some r) : Gw P 1 (Q r) (Px c0 1 []) (s0 p1) := by
  unfold f at H
  refine Rg V_ok 0 [] az (by kernel_rfl) ?_
  exact LP k (Jm {fz := [], gr := 1, ad := [.ownC 0 0 1 32 T4414], live := [1, 6, 7, 8], src := [some 0, some 1]} (by kernel_rfl) (by kernel_rfl) (l1_ok k k p1 (p1.length : Int) 0 [] H))
theorem ok {r k p1} (H : f k p1 = some r) : W P 1 c0 (s0 p1) (CallQ 1 (out r)) := of_G (f_ok H)
theorem at_ : FnAt P 54 16 c0 Go.Proofs.Tryd.f54.results := fnAt Go.Proofs.Tryd.func54 (by kernel_rfl) (by decide) (by kernel_rfl) (by kernel_rfl)
end i_plan_many_Ver_do_d01
/-! ### function 25, wayfinder/plan.Sync -/
namespace f_plan_Sync
noncomputable def c0 : Code := (Go.Proofs.Tryd.f25.body).getD .skip
abbrev ps : Sg := [(false, (.slice T814c)), (false, (.int .i64))]
abbrev rs : Sg := [(false, (.slice T4414))]
noncomputable def V : Env := { tt := tt, Γ := slk [] }
theorem V_ok : EnvOk P V := { ck := tt_ck, fits := slk_nil, mixed := mixed }
abbrev R := Tup rs
noncomputable abbrev Q (r : R) : Exit → St → Prop := Qr tt Go.Proofs.Tryd.f25.results ⟨ps, rs, .any, none, fun _ _ => True⟩ r
noncomputable def f (k : Nat) (a1 : List T814c.T) (a2 : Int) : Option R :=
  (i_plan_many_Ver_do_d01.f k a1).bind fun y1 =>
    if (y1.1.length + 2) * 80 ≤ 140737488355328 then
      some ((y1.1 ++ [(3, (0, (0, (a2, ((0, 0), (0, (0, (0, 0)))))))), (5, (0, (0, (0, ((0, 0), (0, (0, (0, 0))))))))]), ())
    else none
noncomputable def S : Spec := ⟨ps, rs, .any, none, fun x r => ∃ k, f k x.1 x.2.1 = some r⟩
theorem rl {k a1 a2 r} (e : f k a1 a2 = some r) : S.rel (a1, a2, ()) r := ⟨k, e⟩
theorem f_ok {r k a1 a2} (H : f k a1 a2 = some r) : Gw P 0 (Q r) (Px c0 1 []) (⟨15, [(0, .cv (.one (.sl T814c a1 .any))), (1, .cv (.one (.int .i64 a2)))], []⟩) := by
  unfold f at H
  refine Rg V_ok 0 [] az (by kernel_rfl) ?_
  refine Rg V_ok 1 [(0, hb 0)] az (by kernel_rfl) ?_
  refine GT {live := [0, 1, 5], src := [some 0]} (by kernel_rfl) (RI (by kernel_rfl) ?_)
  refine EV V_ok 0 [] 2 az (by kernel_rfl) ?_
  obtain ⟨y1, e2, H⟩ := of_bind H
  refine CL V_ok i_plan_many_Ver_do_d01.at_ (i_plan_many_Ver_do_d01.ok e2) (by kernel_rfl) (by kernel_rfl) (by kernel_rfl) ?_
  refine RN (by kernel_rfl) (by kernel_rfl) ?_
  obtain ⟨n3, H⟩ := of_if H
  refine Rg V_ok 1 [(5, hb 2)] (ac n3 az) (by kernel_rfl) ?_
  exact Lf (Eq.trans (by kernel_rfl) H)
theorem fits : Fits P 25 S := fits_of V_ok Go.Proofs.Tryd.func25 (by kernel_rfl) (by decide) (by decide) rfl (fun x r ⟨k, H⟩ => of_G (f_ok H))
end f_plan_Sync
/-! ### function 21, wayfinder/wayfinderlaw20.awake -/
namespace f_law20_awake
noncomputable def c0 : Code := (Go.Proofs.Tryd.f21.body).getD .skip
abbrev ps : Sg := []
abbrev rs : Sg := [(false, .bool)]
noncomputable def V : Env := { tt := tt, Γ := slk [(25, f_plan_Sync.S)] }
theorem V_ok : EnvOk P V := { ck := tt_ck, fits := slk_cons f_plan_Sync.fits (slk_nil), mixed := mixed }
abbrev R := Tup rs
noncomputable abbrev Q (r : R) : Exit → St → Prop := Qr tt Go.Proofs.Tryd.f21.results ⟨ps, rs, .any, none, fun _ _ => True⟩ r
noncomputable def f (k : Nat) : Option R :=
  (f_plan_Sync.f k [(3, [((0, 0), (-1, (0, (0, 0))))])] (3 : Int)).bind fun y1 =>
    if ((y1.1.length : Int) == (3 : Int)) = true then
      if (0 : Int) < (y1.1.length : Int) then
        if (((att T4414 y1.1 0).1) == (2 : Int)) = true then
          if ((((((att T4414 y1.1 0).2).2).2).1) == (3 : Int)) = true then
            if (1 : Int) < (y1.1.length : Int) then
              if (((att T4414 y1.1 1).1) == (3 : Int)) = true then
                if (2 : Int) < (y1.1.length : Int) then
                  some ((((att T4414 y1.1 2).1) == (5 : Int)), ())
                else none
              else
                some (false, ())
            else none
          else
            some (false, ())
        else
          some (false, ())
      else none
    else
      some (false, ())
noncomputable def S : Spec := ⟨ps, rs, .any, none, fun x r => ∃ k, f k = some r⟩
theorem rl {k r} (e : f k = some r) : S.rel (()) r := ⟨k, e⟩
theorem f_ok {r k} (H : f k = some r) : Gw P 0 (Q r) (Px c0 1 []) (⟨38, [], []⟩) := by
  unfold f at H
  refine Rg V_ok 0 [] az (by kernel_rfl) ?_
  obtain ⟨y1, e2, H⟩ := of_bind H
  refine Rg V_ok 0 [(4, hr f_plan_Sync.S y1)] (ac (f_plan_Sync.rl e2) az) (by kernel_rfl) ?_
  rcases of_ite H with ⟨hb3, H⟩ | ⟨hb3, H⟩
  · obtain ⟨n4, H⟩ := of_if H
    rcases of_ite H with ⟨hb5, H⟩ | ⟨hb5, H⟩
    · rcases of_ite H with ⟨hb6, H⟩ | ⟨hb6, H⟩
      · obtain ⟨n7, H⟩ := of_if H
        rcases of_ite H with ⟨hb8, H⟩ | ⟨hb8, H⟩
        · obtain ⟨n9, H⟩ := of_if H
          refine Rg V_ok 0 [(2, {bv := some true}), (9, {bv := some true}), (16, {bv := some true}), (23, {bv := some true})] (ac hb3 (ac (show 0 ≤ (0 : Int) by decide) (ac n4 (ac hb5 (ac (show 0 ≤ (0 : Int) by decide) (ac n4 (ac hb6 (ac (show 0 ≤ (1 : Int) by decide) (ac n7 (ac hb8 (ac (show 0 ≤ (2 : Int) by decide) (ac n9 az)))))))))))) (by kernel_rfl) ?_
          exact Lf (Eq.trans (by kernel_rfl) H)
        · refine Rg V_ok 0 [(2, {bv := some true}), (9, {bv := some true}), (16, {bv := some true}), (23, {bv := some false})] (ac hb3 (ac (show 0 ≤ (0 : Int) by decide) (ac n4 (ac hb5 (ac (show 0 ≤ (0 : Int) by decide) (ac n4 (ac hb6 (ac (show 0 ≤ (1 : Int) by decide) (ac n7 (ac hb8 az)))))))))) (by kernel_rfl) ?_
          exact Lf (Eq.trans (by kernel_rfl) H)
      · refine Rg V_ok 0 [(2, {bv := some true}), (9, {bv := some true}), (16, {bv := some false})] (ac hb3 (ac (show 0 ≤ (0 : Int) by decide) (ac n4 (ac hb5 (ac (show 0 ≤ (0 : Int) by decide) (ac n4 (ac hb6 az))))))) (by kernel_rfl) ?_
        exact Lf (Eq.trans (by kernel_rfl) H)
    · refine Rg V_ok 0 [(2, {bv := some true}), (9, {bv := some false})] (ac hb3 (ac (show 0 ≤ (0 : Int) by decide) (ac n4 (ac hb5 az)))) (by kernel_rfl) ?_
      exact Lf (Eq.trans (by kernel_rfl) H)
  · refine Rg V_ok 0 [(2, {bv := some false})] (ac hb3 az) (by kernel_rfl) ?_
    exact Lf (Eq.trans (by kernel_rfl) H)
theorem fits : Fits P 21 S := fits_of V_ok Go.Proofs.Tryd.func21 (by kernel_rfl) (by decide) (by decide) rfl (fun x r ⟨k, H⟩ => of_G (f_ok H))
end f_law20_awake
/-! ### function 42, wayfinder/sess.own, where it is called -/
namespace i_sess_own_9f5
noncomputable def c0 : Code := (Go.Proofs.Tryd.f42.body).getD .skip
noncomputable def V : Env := { tt := tt, Γ := slk [] }
theorem V_ok : EnvOk P V := { ck := tt_ck, fits := slk_nil, mixed := mixed }
abbrev R := (Int) × (Int) × (List T4414.T) × Unit
noncomputable def s0 (p1 : Tb104.T) (p2 : Tb104.T) (p3 : Int) (p4 : Int) (p5 : Int) : St := ⟨15, [(0, .cv (.agg (encC .any Tb104 p1)))], [(.box 3, (encC .any Tb104 p2)), (.box 1, [.int .i64 p3]), (.box 3, [.int .i64 p4, .int .i64 p5, .nils])]⟩
noncomputable def out (p1 : Tb104.T) (p2 : Tb104.T) (p3 : Int) (p4 : Int) (p5 : Int) (r : R) : St := ⟨15, [(2, .cv (.one (.ptr 3 0)))], [(.box 3, (encC .any Tb104 p2)), (.box 1, [.int .i64 p3]), (.box 3, [.int .i64 p4, .int .i64 p5, .nils]), (.box 3, [.int .i64 r.1, .int .i64 r.2.1, .own 4]), (.buf 32 T4414 r.2.2.1, [])]⟩
abbrev Q (p1 : Tb104.T) (p2 : Tb104.T) (p3 : Int) (p4 : Int) (p5 : Int) (r : R) := CallQ 3 (out p1 p2 p3 p4 p5 r)
noncomputable def f (k : Nat) (p1 : Tb104.T) (p2 : Tb104.T) (p3 : Int) (p4 : Int) (p5 : Int) : Option R :=
  if 0 ≤ (p1.2.2.length : Int) ∧ (p1.2.2.length : Int) = (p1.2.2.length : Int) ∧ (80 : Int) * (p1.2.2.length : Int) ≤ 140737488355328 ∧ (p1.2.2.length : Int) ≤ 140737488355328 then
    if p1.2.2.length = (List.replicate (p1.2.2.length : Int).toNat ((0, (0, (0, (0, ((0, 0), (0, (0, (0, 0)))))))) : T4414.T)).length then
      some (p1.1, (p1.2.1, (p1.2.2, ())))
    else none
  else none
theorem f_ok {r k p1 p2 p3 p4 p5} (H : f k p1 p2 p3 p4 p5 = some r) : Gw P 3 (Q p1 p2 p3 p4 p5 r) (Px c0 1 []) (s0 p1 p2 p3 p4 p5) := by
  unfold f at H
  refine Rg V_ok 2 [(0, hb 3), (1, hb 4)] az (by kernel_rfl) ?_
  obtain ⟨n1, H⟩ := of_if H
  refine Rg V_ok 1 [(3, hb 5)] (ac n1 az) (by kernel_rfl) ?_
  obtain ⟨n2, H⟩ := of_if H
  refine Rg V_ok 0 [] (ac n2 az) (by kernel_rfl) ?_
  refine Rg V_ok 0 [] az (by kernel_rfl) ?_
  refine Rg V_ok 0 [] az (by kernel_rfl) ?_
  obtain rfl := Option.some.inj H
  exact Lq {fz := [], gr := 0, ad := [], live := [2], src := [some 0, some 1, some 2, some 4, some 5]} (by kernel_rfl)
theorem ok {r k p1 p2 p3 p4 p5} (H : f k p1 p2 p3 p4 p5 = some r) : W P 3 c0 (s0 p1 p2 p3 p4 p5) (CallQ 3 (out p1 p2 p3 p4 p5 r)) := of_G (f_ok H)
theorem at_ : FnAt P 42 15 c0 Go.Proofs.Tryd.f42.results := fnAt Go.Proofs.Tryd.func42 (by kernel_rfl) (by decide) (by kernel_rfl) (by kernel_rfl)
end i_sess_own_9f5
/-! ### function 74, wayfinder/sess.Done$1, where it is called -/
namespace i_sess_Done_1_0ff
noncomputable def c0 : Code := (Go.Proofs.Tryd.f74.body).getD .skip
noncomputable def V : Env := { tt := tt, Γ := slk [] }
theorem V_ok : EnvOk P V := { ck := tt_ck, fits := slk_nil, mixed := mixed }
abbrev R := (Bool) × Unit
noncomputable def s0 (p1 : T4414.T) (p2 : Int) (p3 : Int) (p4 : Int) (p5 : Int) (p6 : Int) (p7 : List T4414.T) : St := ⟨8, [(0, .cv (.agg (encC .any T4414 p1))), (1, .cv (.one (.ptr 1 0)))], [(.box 3, [.int .i64 p2, .int .i64 p3, .own 3]), (.box 1, [.int .i64 p4]), (.box 3, [.int .i64 p5, .int .i64 p6, .nils]), (.buf 32 T4414 p7, [])]⟩
noncomputable def out (p1 : T4414.T) (p2 : Int) (p3 : Int) (p4 : Int) (p5 : Int) (p6 : Int) (p7 : List T4414.T) (r : R) : St := ⟨8, [(3, .cv (.one (.bool r.1)))], [(.box 3, [.int .i64 p2, .int .i64 p3, .own 3]), (.box 1, [.int .i64 p4]), (.box 3, [.int .i64 p5, .int .i64 p6, .nils]), (.buf 32 T4414 p7, [])]⟩
abbrev Q (p1 : T4414.T) (p2 : Int) (p3 : Int) (p4 : Int) (p5 : Int) (p6 : Int) (p7 : List T4414.T) (r : R) := CallQ 4 (out p1 p2 p3 p4 p5 p6 p7 r)
noncomputable def f (k : Nat) (p1 : T4414.T) (p2 : Int) (p3 : Int) (p4 : Int) (p5 : Int) (p6 : Int) (p7 : List T4414.T) : Option R :=
  some ((decide (p1.2.2.1 ≤ p4)), ())
theorem f_ok {r k p1 p2 p3 p4 p5 p6 p7} (H : f k p1 p2 p3 p4 p5 p6 p7 = some r) : Gw P 4 (Q p1 p2 p3 p4 p5 p6 p7 r) (Px c0 1 []) (s0 p1 p2 p3 p4 p5 p6 p7) := by
  unfold f at H
  refine Rg V_ok 1 [(0, hb 4)] az (by kernel_rfl) ?_
  refine Rg V_ok 0 [] az (by kernel_rfl) ?_
  obtain rfl := Option.some.inj H
  exact Lq {fz := [], gr := 0, ad := [], live := [3], src := [some 0, some 1, some 2, some 3]} (by kernel_rfl)
theorem ok {r k p1 p2 p3 p4 p5 p6 p7} (H : f k p1 p2 p3 p4 p5 p6 p7 = some r) : W P 4 c0 (s0 p1 p2 p3 p4 p5 p6 p7) (CallQ 4 (out p1 p2 p3 p4 p5 p6 p7 r)) := of_G (f_ok H)
theorem at_ : FnAt P 74 8 c0 Go.Proofs.Tryd.f74.results := fnAt Go.Proofs.Tryd.func74 (by kernel_rfl) (by decide) (by kernel_rfl) (by kernel_rfl)
end i_sess_Done_1_0ff
/-! ### function 82, slices.IndexFunc[[]wayfinder/api.Msg,wayfinder/api.Msg], where it is called -/
namespace i_slices_IndexFunc_Msg_c91
noncomputable def c0 : Code := (Go.Proofs.Tryd.f82.body).getD .skip
noncomputable def V : Env := { tt := tt, Γ := slk [] }
theorem V_ok : EnvOk P V := { ck := tt_ck, fits := slk_nil, mixed := mixed }
abbrev R := (Int) × (Int) × (Int) × (Int) × (Int) × (Int) × (List T4414.T) × Unit
noncomputable def s0 (p1 : Int) (p2 : Int) (p3 : Int) (p4 : Int) (p5 : Int) (p6 : List T4414.T) : St := ⟨19, [(0, .cv (.one (.own 3))), (1, .cv (.one (.fn 74 [] [(1, 0)])))], [(.box 3, [.int .i64 p1, .int .i64 p2, .own 3]), (.box 1, [.int .i64 p3]), (.box 3, [.int .i64 p4, .int .i64 p5, .nils]), (.buf 32 T4414 p6, [])]⟩
noncomputable def out (r : R) : St := ⟨19, [(4, .cv (.one (.int .i64 r.1)))], [(.box 3, [.int .i64 r.2.1, .int .i64 r.2.2.1, .own 3]), (.box 1, [.int .i64 r.2.2.2.1]), (.box 3, [.int .i64 r.2.2.2.2.1, .int .i64 r.2.2.2.2.2.1, .nils]), (.buf 32 T4414 r.2.2.2.2.2.2.1, [])]⟩
abbrev Q (r : R) := CallQ 4 (out r)
noncomputable def s1 (p1 : Int) (p2 : Int) (p3 : Int) (p4 : Int) (p5 : Int) (p6 : Int) (p7 : Int) (p8 : List T4414.T) : St := ⟨19, [(0, .cv (.one (.own 3))), (1, .cv (.one (.fn 74 [] [(1, 0)]))), (7, .cv (.one (.int .i64 p1))), (8, .cv (.one (.int .i64 p2)))], [(.box 3, [.int .i64 p3, .int .i64 p4, .own 3]), (.box 1, [.int .i64 p5]), (.box 3, [.int .i64 p6, .int .i64 p7, .nils]), (.buf 32 T4414 p8, [])]⟩
noncomputable def b1 (L1 : Int → Int → Int → Int → Int → Int → Int → List T4414.T → Option R) (k : Nat) (p1 : Int) (p2 : Int) (p3 : Int) (p4 : Int) (p5 : Int) (p6 : Int) (p7 : Int) (p8 : List T4414.T) : Option R :=
  if (decide (p2 < p1)) = true then
  if 0 ≤ p2 then
    if p2 < (p8.length : Int) then
      (i_sess_Done_1_0ff.f k (att T4414 p8 p2) p3 p4 p5 p6 p7 p8).bind fun y4 =>
        if y4.1 = true then
          some (p2, (p3, (p4, (p5, (p6, (p7, (p8, ())))))))
        else
          L1 p1 (IntKind.i64.wrap (p2 + 1)) p3 p4 p5 p6 p7 p8
    else none
  else none
else
  some ((-1), (p3, (p4, (p5, (p6, (p7, (p8, ())))))))
theorem b1_ok {r} {L1 : Int → Int → Int → Int → Int → Int → Int → List T4414.T → Option R} {m1 : Nat} (hL1 : ∀ p1 p2 p3 p4 p5 p6 p7 p8, L1 p1 p2 p3 p4 p5 p6 p7 p8 = some r → Gw P 4 (Q r) (Pb c0 21 [] m1) (s1 p1 p2 p3 p4 p5 p6 p7 p8)) {k p1 p2 p3 p4 p5 p6 p7 p8} (H : b1 L1 k p1 p2 p3 p4 p5 p6 p7 p8 = some r) : Gw P 4 (Q r) (Px c0 37 [m1]) (s1 p1 p2 p3 p4 p5 p6 p7 p8) := by
  unfold b1 at H
  refine Rg V_ok 0 [] az (by kernel_rfl) ?_
  rcases of_ite H with ⟨hb1, H⟩ | ⟨hb1, H⟩
  · refine C1 hb1 (by kernel_rfl) ?_
    refine Rg V_ok 0 [] az (by kernel_rfl) ?_
    refine GT {live := [0, 1, 5, 7, 8], src := [some 0, some 1, some 2, some 3]} (by kernel_rfl) (RI (by kernel_rfl) ?_)
    obtain ⟨n2, H⟩ := of_if H
    obtain ⟨n3, H⟩ := of_if H
    refine EV V_ok 0 [] 5 (ac n2 (ac n3 az)) (by kernel_rfl) ?_
    obtain ⟨y4, e5, H⟩ := of_bind H
    refine CL V_ok i_sess_Done_1_0ff.at_ (i_sess_Done_1_0ff.ok e5) (by kernel_rfl) (by kernel_rfl) (by kernel_rfl) ?_
    refine RN (by kernel_rfl) (by kernel_rfl) ?_
    rcases of_ite H with ⟨hb6, H⟩ | ⟨hb6, H⟩
    · refine C1 hb6 (by kernel_rfl) ?_
      refine Rg V_ok 0 [] az (by kernel_rfl) ?_
      obtain rfl := Option.some.inj H
      exact Lq {fz := [], gr := 0, ad := [], live := [4], src := [some 0, some 1, some 2, some 3]} (by kernel_rfl)
    · refine C0 hb6 (by kernel_rfl) ?_
      refine Rg V_ok 0 [] az (by kernel_rfl) ?_
      exact Jm {fz := [], gr := 0, ad := [], live := [0, 1, 7, 8], src := [some 0, some 1, some 2, some 3]} (by kernel_rfl) (by kernel_rfl) (hL1 p1 (IntKind.i64.wrap (p2 + 1)) p3 p4 p5 p6 p7 p8 H)
  · refine C0 hb1 (by kernel_rfl) ?_
    refine Rg V_ok 0 [] az (by kernel_rfl) ?_
    obtain rfl := Option.some.inj H
    exact Lq {fz := [], gr := 0, ad := [], live := [4], src := [some 0, some 1, some 2, some 3]} (by kernel_rfl)
noncomputable def l1 (k : Nat) : Nat → Int → Int → Int → Int → Int → Int → Int → List T4414.T → Option R
  | 0, _, _, _, _, _, _, _, _ => none
  | m + 1, p1, p2, p3, p4, p5, p6, p7, p8 => b1 (l1 k m) k p1 p2 p3 p4 p5 p6 p7 p8
theorem l1_ok {r} (k : Nat) : ∀ (m1 : Nat) (p1 : Int) (p2 : Int) (p3 : Int) (p4 : Int) (p5 : Int) (p6 : Int) (p7 : Int) (p8 : List T4414.T), l1 k m1 p1 p2 p3 p4 p5 p6 p7 p8 = some r → Gw P 4 (Q r) (Pb c0 21 [] m1) (s1 p1 p2 p3 p4 p5 p6 p7 p8)
  | 0, _, _, _, _, _, _, _, _, H => by cases H
  | m1 + 1, p1, p2, p3, p4, p5, p6, p7, p8, H => SU (by kernel_rfl) (b1_ok (l1_ok k m1) H)
noncomputable def f (k : Nat) (p1 : Int) (p2 : Int) (p3 : Int) (p4 : Int) (p5 : Int) (p6 : List T4414.T) : Option R :=
  l1 k k (p6.length : Int) 0 p1 p2 p3 p4 p5 p6
theorem f_ok {r k p1 p2 p3 p4 p5 p6} (H : f k p1 p2 p3 p4 p5 p6 = some r) : Gw P 4 (Q r) (Px c0 1 []) (s0 p1 p2 p3 p4 p5 p6) := by
  unfold f at H
  refine Rg V_ok 0 [] az (by kernel_rfl) ?_
  refine Rg V_ok 0 [] az (by kernel_rfl) ?_
  exact LP k (Jm {fz := [], gr := 0, ad := [], live := [0, 1, 7, 8], src := [some 0, some 1, some 2, some 3]} (by kernel_rfl) (by kernel_rfl) (l1_ok k k (p6.length : Int) 0 p1 p2 p3 p4 p5 p6 H))
theorem ok {r k p1 p2 p3 p4 p5 p6} (H : f k p1 p2 p3 p4 p5 p6 = some r) : W P 4 c0 (s0 p1 p2 p3 p4 p5 p6) (CallQ 4 (out r)) := of_G (f_ok H)
theorem at_ : FnAt P 82 19 c0 Go.Proofs.Tryd.f82.results := fnAt Go.Proofs.Tryd.func82 (by kernel_rfl) (by decide) (by kernel_rfl) (by kernel_rfl)
end i_slices_IndexFunc_Msg_c91
/-! ### function 74, wayfinder/sess.Done$1, where it is called -/
namespace i_sess_Done_1_67f
noncomputable def c0 : Code := (Go.Proofs.Tryd.f74.body).getD .skip
noncomputable def V : Env := { tt := tt, Γ := slk [] }
theorem V_ok : EnvOk P V := { ck := tt_ck, fits := slk_nil, mixed := mixed }
abbrev R := (Bool) × Unit
noncomputable def s0 (p1 : T4414.T) (p2 : Int) (p3 : Int) (p4 : Int) (p5 : Int) (p6 : Int) (p7 : List T4414.T) (p8 : T4414.T) : St := ⟨8, [(0, .cv (.agg (encC .any T4414 p1))), (1, .cv (.one (.ptr 1 0)))], [(.box 3, [.int .i64 p2, .int .i64 p3, .own 3]), (.box 1, [.int .i64 p4]), (.box 3, [.int .i64 p5, .int .i64 p6, .nils]), (.buf 32 T4414 p7, []), (.box 10, (encC .any T4414 p8))]⟩
noncomputable def out (p1 : T4414.T) (p2 : Int) (p3 : Int) (p4 : Int) (p5 : Int) (p6 : Int) (p7 : List T4414.T) (p8 : T4414.T) (r : R) : St := ⟨8, [(3, .cv (.one (.bool r.1)))], [(.box 3, [.int .i64 p2, .int .i64 p3, .own 3]), (.box 1, [.int .i64 p4]), (.box 3, [.int .i64 p5, .int .i64 p6, .nils]), (.buf 32 T4414 p7, []), (.box 10, (encC .any T4414 p8))]⟩
abbrev Q (p1 : T4414.T) (p2 : Int) (p3 : Int) (p4 : Int) (p5 : Int) (p6 : Int) (p7 : List T4414.T) (p8 : T4414.T) (r : R) := CallQ 5 (out p1 p2 p3 p4 p5 p6 p7 p8 r)
noncomputable def f (k : Nat) (p1 : T4414.T) (p2 : Int) (p3 : Int) (p4 : Int) (p5 : Int) (p6 : Int) (p7 : List T4414.T) (p8 : T4414.T) : Option R :=
  some ((decide (p1.2.2.1 ≤ p4)), ())
theorem f_ok {r k p1 p2 p3 p4 p5 p6 p7 p8} (H : f k p1 p2 p3 p4 p5 p6 p7 p8 = some r) : Gw P 5 (Q p1 p2 p3 p4 p5 p6 p7 p8 r) (Px c0 1 []) (s0 p1 p2 p3 p4 p5 p6 p7 p8) := by
  unfold f at H
  refine Rg V_ok 1 [(0, hb 5)] az (by kernel_rfl) ?_
  refine Rg V_ok 0 [] az (by kernel_rfl) ?_
  obtain rfl := Option.some.inj H
  exact Lq {fz := [], gr := 0, ad := [], live := [3], src := [some 0, some 1, some 2, some 3, some 4]} (by kernel_rfl)
theorem ok {r k p1 p2 p3 p4 p5 p6 p7 p8} (H : f k p1 p2 p3 p4 p5 p6 p7 p8 = some r) : W P 5 c0 (s0 p1 p2 p3 p4 p5 p6 p7 p8) (CallQ 5 (out p1 p2 p3 p4 p5 p6 p7 p8 r)) := of_G (f_ok H)
theorem at_ : FnAt P 74 8 c0 Go.Proofs.Tryd.f74.results := fnAt Go.Proofs.Tryd.func74 (by kernel_rfl) (by decide) (by kernel_rfl) (by kernel_rfl)
end i_sess_Done_1_67f
/-! ### function 73, slices.DeleteFunc[[]wayfinder/api.Msg,wayfinder/api.Msg], where it is called -/
namespace i_slices_DeleteFunc_Msg_c91
noncomputable def c0 : Code := (Go.Proofs.Tryd.f73.body).getD .skip
noncomputable def V : Env := { tt := tt, Γ := slk [] }
theorem V_ok : EnvOk P V := { ck := tt_ck, fits := slk_nil, mixed := mixed }
abbrev R := (List T4414.T) × (Int) × (Int) × (Int) × (Int) × (Int) × Unit
noncomputable def s0 (p1 : Int) (p2 : Int) (p3 : Int) (p4 : Int) (p5 : Int) (p6 : List T4414.T) : St := ⟨42, [(0, .cv (.one (.own 3))), (1, .cv (.one (.fn 74 [] [(1, 0)])))], [(.box 3, [.int .i64 p1, .int .i64 p2, .own 3]), (.box 1, [.int .i64 p3]), (.box 3, [.int .i64 p4, .int .i64 p5, .nils]), (.buf 32 T4414 p6, [])]⟩
noncomputable def out (r : R) : St := ⟨42, [(4, .cv (.one (.sl T4414 r.1 .any)))], [(.box 3, [.int .i64 r.2.1, .int .i64 r.2.2.1, .bad]), (.box 1, [.int .i64 r.2.2.2.1]), (.box 3, [.int .i64 r.2.2.2.2.1, .int .i64 r.2.2.2.2.2.1, .nils]), (.dead, [])]⟩
abbrev Q (r : R) := CallQ 4 (out r)
noncomputable def s1 (p1 : Int) (p2 : Int) (p3 : Int) (p4 : Int) (p5 : Int) (p6 : Int) (p7 : Int) (p8 : List T4414.T) : St := ⟨42, [(0, .cv (.one (.own 3))), (1, .cv (.one (.fn 74 [] [(1, 0)]))), (5, .cv (.one (.int .i64 p1))), (6, .cv (.one (.int .i64 p2)))], [(.box 3, [.int .i64 p3, .int .i64 p4, .own 3]), (.box 1, [.int .i64 p5]), (.box 3, [.int .i64 p6, .int .i64 p7, .nils]), (.buf 32 T4414 p8, [])]⟩
noncomputable def s2 (p1 : Int) (p2 : Int) (p3 : Int) (p4 : Int) (p5 : Int) (p6 : Int) (p7 : Int) (p8 : List T4414.T) : St := ⟨42, [(0, .cv (.one (.own 3))), (1, .cv (.one (.fn 74 [] [(1, 0)]))), (5, .cv (.one (.int .i64 p1))), (6, .cv (.one (.int .i64 p2)))], [(.box 3, [.int .i64 p3, .int .i64 p4, .own 3]), (.box 1, [.int .i64 p5]), (.box 3, [.int .i64 p6, .int .i64 p7, .nils]), (.buf 32 T4414 p8, [])]⟩
noncomputable def j2 (L1 : Int → Int → Int → Int → Int → Int → Int → List T4414.T → Option R) (k : Nat) (p1 : Int) (p2 : Int) (p3 : Int) (p4 : Int) (p5 : Int) (p6 : Int) (p7 : Int) (p8 : List T4414.T) : Option R :=
  L1 p1 (IntKind.i64.wrap (p2 + 1)) p3 p4 p5 p6 p7 p8
theorem j2_ok {r} {L1 : Int → Int → Int → Int → Int → Int → Int → List T4414.T → Option R} {m1 : Nat} (hL1 : ∀ p1 p2 p3 p4 p5 p6 p7 p8, L1 p1 p2 p3 p4 p5 p6 p7 p8 = some r → Gw P 4 (Q r) (Pb c0 87 [] m1) (s1 p1 p2 p3 p4 p5 p6 p7 p8)) {k p1 p2 p3 p4 p5 p6 p7 p8} (H : j2 L1 k p1 p2 p3 p4 p5 p6 p7 p8 = some r) : Gw P 4 (Q r) (Px c0 919 [m1]) (s2 p1 p2 p3 p4 p5 p6 p7 p8) := by
  unfold j2 at H
  refine Rg V_ok 0 [] az (by kernel_rfl) ?_
  exact Jm {fz := [], gr := 0, ad := [], live := [0, 1, 5, 6], src := [some 0, some 1, some 2, some 3]} (by kernel_rfl) (by kernel_rfl) (hL1 p1 (IntKind.i64.wrap (p2 + 1)) p3 p4 p5 p6 p7 p8 H)
noncomputable def b1 (L1 : Int → Int → Int → Int → Int → Int → Int → List T4414.T → Option R) (k : Nat) (p1 : Int) (p2 : Int) (p3 : Int) (p4 : Int) (p5 : Int) (p6 : Int) (p7 : Int) (p8 : List T4414.T) : Option R :=
  if (decide (p2 < (p8.length : Int))) = true then
  if 0 ≤ p2 then
    if p2 < (p8.length : Int) then
      (i_sess_Done_1_67f.f k (att T4414 p8 p2) p3 p4 p5 p6 p7 p8 (att T4414 p8 p2)).bind fun y7 =>
        if (!y7.1) = true then
          if 0 ≤ p1 then
            if p1 < (p8.length : Int) then
              j2 L1 k (IntKind.i64.wrap (p1 + 1)) p2 p3 p4 p5 p6 p7 (p8.set p1.toNat (att T4414 p8 p2))
            else none
          else none
        else
          j2 L1 k p1 p2 p3 p4 p5 p6 p7 p8
    else none
  else none
else
  if 0 ≤ p1 ∧ p1 ≤ (p8.length : Int) then
    if 0 ≤ p1 ∧ p1 ≤ ((p8.take p1.toNat ++ List.replicate (p8.length - p1.toNat) ((0, (0, (0, (0, ((0, 0), (0, (0, (0, 0)))))))) : T4414.T)).length : Int) then
      some (((p8.take p1.toNat ++ List.replicate (p8.length - p1.toNat) ((0, (0, (0, (0, ((0, 0), (0, (0, (0, 0)))))))) : T4414.T)).take p1.toNat), (p3, (p4, (p5, (p6, (p7, ()))))))
    else none
  else none
theorem b1_ok {r} {L1 : Int → Int → Int → Int → Int → Int → Int → List T4414.T → Option R} {m1 : Nat} (hL1 : ∀ p1 p2 p3 p4 p5 p6 p7 p8, L1 p1 p2 p3 p4 p5 p6 p7 p8 = some r → Gw P 4 (Q r) (Pb c0 87 [] m1) (s1 p1 p2 p3 p4 p5 p6 p7 p8)) {k p1 p2 p3 p4 p5 p6 p7 p8} (H : b1 L1 k p1 p2 p3 p4 p5 p6 p7 p8 = some r) : Gw P 4 (Q r) (Px c0 151 [m1]) (s1 p1 p2 p3 p4 p5 p6 p7 p8) := by
  unfold b1 at H
  refine Rg V_ok 0 [] az (by kernel_rfl) ?_
  rcases of_ite H with ⟨hb4, H⟩ | ⟨hb4, H⟩
  · refine C1 hb4 (by kernel_rfl) ?_
    obtain ⟨n5, H⟩ := of_if H
    obtain ⟨n6, H⟩ := of_if H
    refine Rg V_ok 1 [(4, hb 4)] (ac n5 (ac n6 az)) (by kernel_rfl) ?_
    refine GT {live := [0, 1, 5, 6, 7], src := [some 0, some 1, some 2, some 3, some 4]} (by kernel_rfl) (RI (by kernel_rfl) ?_)
    refine EV V_ok 0 [] 2 az (by kernel_rfl) ?_
    obtain ⟨y7, e8, H⟩ := of_bind H
    refine CL V_ok i_sess_Done_1_67f.at_ (i_sess_Done_1_67f.ok e8) (by kernel_rfl) (by kernel_rfl) (by kernel_rfl) ?_
    refine EV V_ok 0 [] 1 az (by kernel_rfl) ?_
    refine RN (by kernel_rfl) (by kernel_rfl) ?_
    rcases of_ite H with ⟨hb9, H⟩ | ⟨hb9, H⟩
    · refine C1 hb9 (by kernel_rfl) ?_
      obtain ⟨n10, H⟩ := of_if H
      obtain ⟨n11, H⟩ := of_if H
      refine Rg V_ok 0 [] (ac n10 (ac n11 az)) (by kernel_rfl) ?_
      refine Rg V_ok 0 [] az (by kernel_rfl) ?_
      exact Jm {fz := [], gr := 0, ad := [], live := [0, 1, 5, 6], src := [some 0, some 1, some 2, some 3]} (by kernel_rfl) (by kernel_rfl) (j2_ok hL1 H)
    · refine C0 hb9 (by kernel_rfl) ?_
      exact Jm {fz := [], gr := 0, ad := [], live := [0, 1, 5, 6], src := [some 0, some 1, some 2, some 3]} (by kernel_rfl) (by kernel_rfl) (j2_ok hL1 H)
  · refine C0 hb4 (by kernel_rfl) ?_
    obtain ⟨n12, H⟩ := of_if H
    refine Rg V_ok 0 [] (ac n12 az) (by kernel_rfl) ?_
    obtain ⟨n13, H⟩ := of_if H
    refine Rg V_ok 1 [(2, hb 4)] (ac n13 az) (by kernel_rfl) ?_
    obtain rfl := Option.some.inj H
    exact Lq {fz := [4], gr := 0, ad := [.cell 0 2 (.bad)], live := [4], src := [some 0, some 1, some 2, some 3]} (by kernel_rfl)
noncomputable def l1 (k : Nat) : Nat → Int → Int → Int → Int → Int → Int → Int → List T4414.T → Option R
  | 0, _, _, _, _, _, _, _, _ => none
  | m + 1, p1, p2, p3, p4, p5, p6, p7, p8 => b1 (l1 k m) k p1 p2 p3 p4 p5 p6 p7 p8
theorem l1_ok {r} (k : Nat) : ∀ (m1 : Nat) (p1 : Int) (p2 : Int) (p3 : Int) (p4 : Int) (p5 : Int) (p6 : Int) (p7 : Int) (p8 : List T4414.T), l1 k m1 p1 p2 p3 p4 p5 p6 p7 p8 = some r → Gw P 4 (Q r) (Pb c0 87 [] m1) (s1 p1 p2 p3 p4 p5 p6 p7 p8)
  | 0, _, _, _, _, _, _, _, _, H => by cases H
  | m1 + 1, p1, p2, p3, p4, p5, p6, p7, p8, H => SU (by kernel_rfl) (b1_ok (l1_ok k m1) H)
noncomputable def f (k : Nat) (p1 : Int) (p2 : Int) (p3 : Int) (p4 : Int) (p5 : Int) (p6 : List T4414.T) : Option R :=
  (i_slices_IndexFunc_Msg_c91.f k p1 p2 p3 p4 p5 p6).bind fun y1 =>
    if (y1.1 == (-1 : Int)) = true then
      some (y1.2.2.2.2.2.2.1, (y1.2.1, (y1.2.2.1, (y1.2.2.2.1, (y1.2.2.2.2.1, (y1.2.2.2.2.2.1, ()))))))
    else
      l1 k k y1.1 (IntKind.i64.wrap (y1.1 + 1)) y1.2.1 y1.2.2.1 y1.2.2.2.1 y1.2.2.2.2.1 y1.2.2.2.2.2.1 y1.2.2.2.2.2.2.1
theorem f_ok {r k p1 p2 p3 p4 p5 p6} (H : f k p1 p2 p3 p4 p5 p6 = some r) : Gw P 4 (Q r) (Px c0 1 []) (s0 p1 p2 p3 p4 p5 p6) := by
  unfold f at H
  refine Rg V_ok 0 [] az (by kernel_rfl) ?_
  refine GT {live := [0, 1], src := [some 0, some 1, some 2, some 3]} (by kernel_rfl) (RI (by kernel_rfl) ?_)
  refine EV V_ok 0 [] 2 az (by kernel_rfl) ?_
  obtain ⟨y1, e2, H⟩ := of_bind H
  refine CL V_ok i_slices_IndexFunc_Msg_c91.at_ (i_slices_IndexFunc_Msg_c91.ok e2) (by kernel_rfl) (by kernel_rfl) (by kernel_rfl) ?_
  refine EV V_ok 0 [] 1 az (by kernel_rfl) ?_
  refine RN (by kernel_rfl) (by kernel_rfl) ?_
  refine Rg V_ok 0 [] az (by kernel_rfl) ?_
  rcases of_ite H with ⟨hb3, H⟩ | ⟨hb3, H⟩
  · refine C1 hb3 (by kernel_rfl) ?_
    refine Rg V_ok 0 [] az (by kernel_rfl) ?_
    obtain rfl := Option.some.inj H
    exact Lq {fz := [3], gr := 0, ad := [.cell 0 2 (.bad)], live := [4], src := [some 0, some 1, some 2, some 3]} (by kernel_rfl)
  · refine C0 hb3 (by kernel_rfl) ?_
    refine Rg V_ok 0 [] az (by kernel_rfl) ?_
    exact LP k (Jm {fz := [], gr := 0, ad := [], live := [0, 1, 5, 6], src := [some 0, some 1, some 2, some 3]} (by kernel_rfl) (by kernel_rfl) (l1_ok k k y1.1 (IntKind.i64.wrap (y1.1 + 1)) y1.2.1 y1.2.2.1 y1.2.2.2.1 y1.2.2.2.2.1 y1.2.2.2.2.2.1 y1.2.2.2.2.2.2.1 H))
theorem ok {r k p1 p2 p3 p4 p5 p6} (H : f k p1 p2 p3 p4 p5 p6 = some r) : W P 4 c0 (s0 p1 p2 p3 p4 p5 p6) (CallQ 4 (out r)) := of_G (f_ok H)
theorem at_ : FnAt P 73 42 c0 Go.Proofs.Tryd.f73.results := fnAt Go.Proofs.Tryd.func73 (by kernel_rfl) (by decide) (by kernel_rfl) (by kernel_rfl)
end i_slices_DeleteFunc_Msg_c91
/-! ### function 53, wayfinder/sess.Done -/
namespace f_sess_Done
noncomputable def c0 : Code := (Go.Proofs.Tryd.f53.body).getD .skip
abbrev ps : Sg := [(true, Tb104), (false, (.int .i64)), (false, (.int .i64))]
abbrev rs : Sg := [(true, Tb104)]
noncomputable def V : Env := { tt := tt, Γ := slk [] }
theorem V_ok : EnvOk P V := { ck := tt_ck, fits := slk_nil, mixed := mixed }
abbrev R := Tup rs
noncomputable abbrev Q (r : R) : Exit → St → Prop := Qr tt Go.Proofs.Tryd.f53.results ⟨ps, rs, .any, none, fun _ _ => True⟩ r
noncomputable def s1 (p1 : Tb104.T) (p2 : Int) (p3 : Int) : St := ⟨19, [(3, .cv (.one (.ptr 0 0))), (6, .cv (.one (.ptr 1 0)))], [(.box 3, (encC .any Tb104 p1)), (.box 3, [.int .i64 p2, .int .i64 p3, .nils])]⟩
noncomputable def j1 (k : Nat) (p1 : Tb104.T) (p2 : Int) (p3 : Int) : Option R :=
  some (p1, ())
theorem j1_ok {r} {k p1 p2 p3} (H : j1 k p1 p2 p3 = some r) : Gw P 0 (Q r) (Px c0 15 []) (s1 p1 p2 p3) := by
  unfold j1 at H
  refine Rg V_ok 0 [] az (by kernel_rfl) ?_
  exact Lf (Eq.trans (by kernel_rfl) H)
noncomputable def s2 (p1 : Int) (p2 : Int) (p3 : Int) (p4 : Int) (p5 : List T4414.T) : St := ⟨19, [(3, .cv (.one (.ptr 0 0))), (6, .cv (.one (.ptr 1 0)))], [(.box 3, [.int .i64 p1, .int .i64 p2, .own 2]), (.box 3, [.int .i64 p3, .int .i64 p4, .nils]), (.buf 32 T4414 p5, [])]⟩
noncomputable def j2 (k : Nat) (p1 : Int) (p2 : Int) (p3 : Int) (p4 : Int) (p5 : List T4414.T) : Option R :=
  some ((p1, (p2, p5)), ())
theorem j2_ok {r} {k p1 p2 p3 p4 p5} (H : j2 k p1 p2 p3 p4 p5 = some r) : Gw P 0 (Q r) (Px c0 15 []) (s2 p1 p2 p3 p4 p5) := by
  unfold j2 at H
  refine Rg V_ok 0 [] az (by kernel_rfl) ?_
  exact Lf (Eq.trans (by kernel_rfl) H)
noncomputable def f (k : Nat) (a1 : Tb104.T) (a2 : Int) (a3 : Int) : Option R :=
  (i_sess_own_9f5.f k a1 a1 a3 (0 : Int) (0 : Int)).bind fun y1 =>
    if (a2 == y1.1) = true then
      (i_slices_DeleteFunc_Msg_c91.f k y1.1 y1.2.1 a3 (0 : Int) (0 : Int) y1.2.2.1).bind fun y4 =>
        j1 k (y4.2.1, (y4.2.2.1, y4.1)) y4.2.2.2.2.1 y4.2.2.2.2.2.1
    else
      j2 k y1.1 y1.2.1 (0 : Int) (0 : Int) y1.2.2.1
noncomputable def S : Spec := ⟨ps, rs, .any, none, fun x r => ∃ k, f k x.1 x.2.1 x.2.2.1 = some r⟩
theorem rl {k a1 a2 a3 r} (e : f k a1 a2 a3 = some r) : S.rel (a1, a2, a3, ()) r := ⟨k, e⟩
theorem f_ok {r k a1 a2 a3} (H : f k a1 a2 a3 = some r) : Gw P 0 (Q r) (Px c0 1 []) (⟨19, [(0, .cv (.agg (encC .any Tb104 a1))), (1, .cv (.one (.int .i64 a2))), (2, .cv (.one (.int .i64 a3)))], []⟩) := by
  unfold f at H
  refine Rg V_ok 3 [(0, hb 0), (1, hb 1), (2, hb 2)] az (by kernel_rfl) ?_
  refine GT {live := [1, 3, 5, 6], src := [some 0, some 1, some 2]} (by kernel_rfl) (RI (by kernel_rfl) ?_)
  refine EV V_ok 0 [] 1 az (by kernel_rfl) ?_
  obtain ⟨y1, e2, H⟩ := of_bind H
  refine CL V_ok i_sess_own_9f5.at_ (i_sess_own_9f5.ok e2) (by kernel_rfl) (by kernel_rfl) (by kernel_rfl) ?_
  refine EV V_ok 0 [] 1 az (by kernel_rfl) ?_
  refine RN (by kernel_rfl) (by kernel_rfl) ?_
  refine Rg V_ok 0 [] az (by kernel_rfl) ?_
  rcases of_ite H with ⟨hb3, H⟩ | ⟨hb3, H⟩
  · refine C1 hb3 (by kernel_rfl) ?_
    refine GT {live := [3, 5, 6], src := [some 0, some 1, some 2, some 4]} (by kernel_rfl) (RI (by kernel_rfl) ?_)
    refine EV V_ok 0 [] 3 az (by kernel_rfl) ?_
    obtain ⟨y4, e5, H⟩ := of_bind H
    refine CL V_ok i_slices_DeleteFunc_Msg_c91.at_ (i_slices_DeleteFunc_Msg_c91.ok e5) (by kernel_rfl) (by kernel_rfl) (by kernel_rfl) ?_
    refine EV V_ok 0 [] 2 az (by kernel_rfl) ?_
    refine RN (by kernel_rfl) (by kernel_rfl) ?_
    exact Jm {fz := [], gr := 0, ad := [], live := [3, 6], src := [some 0, some 2]} (by kernel_rfl) (by kernel_rfl) (j1_ok H)
  · refine C0 hb3 (by kernel_rfl) ?_
    exact Jm {fz := [], gr := 0, ad := [], live := [3, 6], src := [some 0, some 2, some 4]} (by kernel_rfl) (by kernel_rfl) (j2_ok H)
theorem fits : Fits P 53 S := fits_of V_ok Go.Proofs.Tryd.func53 (by kernel_rfl) (by decide) (by decide) rfl (fun x r ⟨k, H⟩ => of_G (f_ok H))
end f_sess_Done
/-! ### function 24, wayfinder/plan.Push -/
namespace f_plan_Push
noncomputable def c0 : Code := (Go.Proofs.Tryd.f24.body).getD .skip
abbrev ps : Sg := [(true, Tb104), (false, (.slice T4414))]
abbrev rs : Sg := [(true, Tb104)]
noncomputable def V : Env := { tt := tt, Γ := slk [(17, f_sess_Push.S), (53, f_sess_Done.S)] }
theorem V_ok : EnvOk P V := { ck := tt_ck, fits := slk_cons f_sess_Push.fits (slk_cons f_sess_Done.fits (slk_nil)), mixed := mixed }
abbrev R := Tup rs
noncomputable abbrev Q (r : R) : Exit → St → Prop := Qr tt Go.Proofs.Tryd.f24.results ⟨ps, rs, .any, none, fun _ _ => True⟩ r
noncomputable def s1 (p1 : List T4414.T) (p2 : Int) (p3 : Int) (p4 : Tb104.T) (p5 : Int) (p6 : Int) : St := ⟨31, [(2, .cv (.one (.ptr 0 0))), (4, .cv (.one (.ptr 1 0))), (14, .cv (.one (.sl T4414 p1 .any))), (15, .cv (.one (.int .i64 p2))), (16, .cv (.one (.int .i64 p3)))], [(.box 3, (encC .any Tb104 p4)), (.box 3, [.int .i64 p5, .int .i64 p6, .nils])]⟩
noncomputable def s2 (p1 : Tb104.T) (p2 : Int) (p3 : Int) : St := ⟨31, [(2, .cv (.one (.ptr 0 0))), (4, .cv (.one (.ptr 1 0)))], [(.box 3, (encC .any Tb104 p1)), (.box 3, [.int .i64 p2, .int .i64 p3, .nils])]⟩
noncomputable def j2 (k : Nat) (p1 : Tb104.T) (p2 : Int) (p3 : Int) : Option R :=
  some (p1, ())
theorem j2_ok {r} {k p1 p2 p3} (H : j2 k p1 p2 p3 = some r) : Gw P 0 (Q r) (Px c0 15 []) (s2 p1 p2 p3) := by
  unfold j2 at H
  refine Rg V_ok 0 [] az (by kernel_rfl) ?_
  exact Lf (Eq.trans (by kernel_rfl) H)
noncomputable def b1 (L1 : List T4414.T → Int → Int → Tb104.T → Int → Int → Option R) (k : Nat) (p1 : List T4414.T) (p2 : Int) (p3 : Int) (p4 : Tb104.T) (p5 : Int) (p6 : Int) : Option R :=
  if (decide (p3 < p2)) = true then
  if 0 ≤ p3 then
    if p3 < (p1.length : Int) then
      (f_sess_Push.f k p4 (att T4414 p1 p3)).bind fun y6 =>
        if (y6.2.1 != (0 : Int)) = true then
          j2 k p4 p5 p6
        else
          L1 p1 p2 (IntKind.i64.wrap (p3 + 1)) y6.1 p5 p6
    else none
  else none
else
  j2 k p4 p5 p6
theorem b1_ok {r} {L1 : List T4414.T → Int → Int → Tb104.T → Int → Int → Option R} {m1 : Nat} (hL1 : ∀ p1 p2 p3 p4 p5 p6, L1 p1 p2 p3 p4 p5 p6 = some r → Gw P 0 (Q r) (Pb c0 43 [] m1) (s1 p1 p2 p3 p4 p5 p6)) {k p1 p2 p3 p4 p5 p6} (H : b1 L1 k p1 p2 p3 p4 p5 p6 = some r) : Gw P 0 (Q r) (Px c0 75 [m1]) (s1 p1 p2 p3 p4 p5 p6) := by
  unfold b1 at H
  refine Rg V_ok 0 [] az (by kernel_rfl) ?_
  rcases of_ite H with ⟨hb3, H⟩ | ⟨hb3, H⟩
  · refine C1 hb3 (by kernel_rfl) ?_
    obtain ⟨n4, H⟩ := of_if H
    obtain ⟨n5, H⟩ := of_if H
    refine Rg V_ok 1 [(2, hb 2)] (ac n4 (ac n5 az)) (by kernel_rfl) ?_
    obtain ⟨y6, e7, H⟩ := of_bind H
    refine Rg V_ok 1 [(2, hr f_sess_Push.S y6), (6, hb 3)] (ac (f_sess_Push.rl e7) az) (by kernel_rfl) ?_
    refine Rg V_ok 0 [] az (by kernel_rfl) ?_
    rcases of_ite H with ⟨hb8, H⟩ | ⟨hb8, H⟩
    · refine C1 hb8 (by kernel_rfl) ?_
      exact Jm {fz := [], gr := 0, ad := [], live := [2, 4], src := [some 0, some 1]} (by kernel_rfl) (by kernel_rfl) (j2_ok H)
    · refine C0 hb8 (by kernel_rfl) ?_
      refine Rg V_ok 0 [] az (by kernel_rfl) ?_
      refine Rg V_ok 0 [] az (by kernel_rfl) ?_
      exact Jm {fz := [], gr := 0, ad := [], live := [2, 4, 14, 15, 16], src := [some 0, some 1]} (by kernel_rfl) (by kernel_rfl) (hL1 p1 p2 (IntKind.i64.wrap (p3 + 1)) y6.1 p5 p6 H)
  · refine C0 hb3 (by kernel_rfl) ?_
    exact Jm {fz := [], gr := 0, ad := [], live := [2, 4], src := [some 0, some 1]} (by kernel_rfl) (by kernel_rfl) (j2_ok H)
noncomputable def l1 (k : Nat) : Nat → List T4414.T → Int → Int → Tb104.T → Int → Int → Option R
  | 0, _, _, _, _, _, _ => none
  | m + 1, p1, p2, p3, p4, p5, p6 => b1 (l1 k m) k p1 p2 p3 p4 p5 p6
theorem l1_ok {r} (k : Nat) : ∀ (m1 : Nat) (p1 : List T4414.T) (p2 : Int) (p3 : Int) (p4 : Tb104.T) (p5 : Int) (p6 : Int), l1 k m1 p1 p2 p3 p4 p5 p6 = some r → Gw P 0 (Q r) (Pb c0 43 [] m1) (s1 p1 p2 p3 p4 p5 p6)
  | 0, _, _, _, _, _, _, H => by cases H
  | m1 + 1, p1, p2, p3, p4, p5, p6, H => SU (by kernel_rfl) (b1_ok (l1_ok k m1) H)
noncomputable def f (k : Nat) (a1 : Tb104.T) (a2 : List T4414.T) : Option R :=
  (f_sess_Done.f k a1 (IntKind.i64.wrap (a1.1 - 1)) (0 : Int)).bind fun y1 =>
    l1 k k a2 (a2.length : Int) 0 y1.1 0 0
noncomputable def S : Spec := ⟨ps, rs, .any, none, fun x r => ∃ k, f k x.1 x.2.1 = some r⟩
theorem rl {k a1 a2 r} (e : f k a1 a2 = some r) : S.rel (a1, a2, ()) r := ⟨k, e⟩
theorem f_ok {r k a1 a2} (H : f k a1 a2 = some r) : Gw P 0 (Q r) (Px c0 1 []) (⟨31, [(0, .cv (.agg (encC .any Tb104 a1))), (1, .cv (.one (.sl T4414 a2 .any)))], []⟩) := by
  unfold f at H
  refine Rg V_ok 2 [(0, hb 0), (1, hb 1)] az (by kernel_rfl) ?_
  obtain ⟨y1, e2, H⟩ := of_bind H
  refine Rg V_ok 0 [(4, hr f_sess_Done.S y1)] (ac (f_sess_Done.rl e2) az) (by kernel_rfl) ?_
  refine Rg V_ok 0 [] az (by kernel_rfl) ?_
  exact LP k (Jm {fz := [], gr := 0, ad := [], live := [2, 4, 14, 15, 16], src := [some 0, some 1]} (by kernel_rfl) (by kernel_rfl) (l1_ok k k a2 (a2.length : Int) 0 y1.1 0 0 H))
theorem fits : Fits P 24 S := fits_of V_ok Go.Proofs.Tryd.func24 (by kernel_rfl) (by decide) (by decide) rfl (fun x r ⟨k, H⟩ => of_G (f_ok H))
end f_plan_Push
end Go.Proofs.YthfdkmbijjkmaaaDoor.V
