/- Functions of the program, as Lean functions, and that the code answers so. Printed by vgen.py. -/
import Derived.Test.YthfdkmbijjkmaaaDoorVF0
namespace Go.Proofs.YthfdkmbijjkmaaaDoor.V
open Go Go.RowKit
set_option linter.unusedVariables false
set_option linter.unusedSimpArgs false
set_option maxRecDepth 100000
set_option maxHeartbeats 4000000
/-! ### function 29, wayfinder/agent.work, where it is called -/
namespace i_agent_work_fc0
noncomputable def c0 : Code := (Go.Proofs.Tryd.f29.body).getD .skip
noncomputable def V : Env := { tt := tt, Γ := slk [] }
theorem V_ok : EnvOk P V := { ck := tt_ck, fits := slk_nil, mixed := mixed }
abbrev R := Unit
noncomputable def s0 (p1 : Tf20b.T) (p2 p3 : Int) (p4 : Bool) (p5 p6 p7 : Int) (p8 : T66bd.T) (p9 : T4414.T) : St := ⟨3, [], [(.box 7, (encC .any Tf20b p1)), (.box 7, [.i p2, .i p3, .bool p4, .i p5, .i p6, .nils, .i p7]), (.box 8, (encC .any T66bd p8)), (.box 10, (encC .any T4414 p9))]⟩
noncomputable def out (p1 : Tf20b.T) (p2 p3 : Int) (p4 : Bool) (p5 p6 p7 : Int) (p8 : T66bd.T) (p9 : T4414.T) (r : R) : St := ⟨3, [(0, .cv (.one (.mp 4)))], [(.box 7, (encC .any Tf20b p1)), (.box 7, [.i p2, .i p3, .bool p4, .i p5, .i p6, .nils, .i p7]), (.box 8, (encC .any T66bd p8)), (.box 10, (encC .any T4414 p9)), (.map [(2, .fn 60 [] []), (3, .fn 61 [] []), (4, .fn 62 [] []), (5, .fn 63 [] [])], [])]⟩
abbrev Q (p1 : Tf20b.T) (p2 p3 : Int) (p4 : Bool) (p5 p6 p7 : Int) (p8 : T66bd.T) (p9 : T4414.T) (r : R) := CallQ 4 (out p1 p2 p3 p4 p5 p6 p7 p8 p9 r)
noncomputable def f (k : Nat) (p1 : Tf20b.T) (p2 p3 : Int) (p4 : Bool) (p5 p6 p7 : Int) (p8 : T66bd.T) (p9 : T4414.T) : Option R :=
  some ()
theorem f_ok {r k p1 p2 p3 p4 p5 p6 p7 p8 p9} (H : f k p1 p2 p3 p4 p5 p6 p7 p8 p9 = some r) : Gw P 4 (Q p1 p2 p3 p4 p5 p6 p7 p8 p9 r) (Px c0 1 []) (s0 p1 p2 p3 p4 p5 p6 p7 p8 p9) := by
  unfold f at H
  refine Rg V_ok 0 [] az ?_
  refine Rg V_ok 1 [(0, hb 4)] (ac (show (3 : Int) ≠ 2 by decide) (ac (show (4 : Int) ≠ 2 by decide) (ac (show (4 : Int) ≠ 3 by decide) (ac (show (5 : Int) ≠ 2 by decide) (ac (show (5 : Int) ≠ 3 by decide) (ac (show (5 : Int) ≠ 4 by decide) az)))))) ?_
  obtain rfl := Option.some.inj H
  exact Lq (tn [0] 5)
theorem ok {r k p1 p2 p3 p4 p5 p6 p7 p8 p9} (H : f k p1 p2 p3 p4 p5 p6 p7 p8 p9 = some r) : W P 4 c0 (s0 p1 p2 p3 p4 p5 p6 p7 p8 p9) (CallQ 4 (out p1 p2 p3 p4 p5 p6 p7 p8 p9 r)) := of_G (f_ok H)
theorem at_ : FnAt P 29 3 c0 Go.Proofs.Tryd.f29.results := fnAt Go.Proofs.Tryd.func29 (by kernel_rfl) (by decide) (by kernel_rfl) (by kernel_rfl)
end i_agent_work_fc0
/-! ### function 60, (*wayfinder/agent.worker).add, where it is called -/
namespace i_agent_worker_add_e47
noncomputable def c0 : Code := (Go.Proofs.Tryd.f60.body).getD .skip
noncomputable def V : Env := { tt := tt, Γ := slk [(18, f_table_Put.S)] }
theorem V_ok : EnvOk P V := { ck := tt_ck, fits := slk_cons f_table_Put.fits (slk_nil), mixed := mixed }
abbrev R := (T66bd.T) × Unit
noncomputable def s0 (p1 : T4414.T) (p2 p3 : Int) (p4 : Bool) (p5 p6 p7 : Int) (p8 : T66bd.T) (p9 : T4414.T) : St := ⟨36, [(0, .cv (.one (.ptr 1 0))), (1, .cv (.agg (encC .any T4414 p1)))], [(.box 7, [.i p2, .i p3, .bool p4, .i p5, .i p6, .nils, .i p7]), (.box 8, (encC .any T66bd p8)), (.box 10, (encC .any T4414 p9))]⟩
noncomputable def out (p1 : T4414.T) (p2 p3 : Int) (p4 : Bool) (p5 p6 p7 : Int) (p8 : T66bd.T) (p9 : T4414.T) (r : R) : St := ⟨36, [], [(.box 7, [.i p2, .i p3, .bool p4, .i p5, .i p6, .nils, .i p7]), (.box 8, (encC .any T66bd r.1)), (.box 10, (encC .any T4414 p9))]⟩
abbrev Q (p1 : T4414.T) (p2 p3 : Int) (p4 : Bool) (p5 p6 p7 : Int) (p8 : T66bd.T) (p9 : T4414.T) (r : R) := CallQ 3 (out p1 p2 p3 p4 p5 p6 p7 p8 p9 r)
noncomputable def f (k : Nat) (p1 : T4414.T) (p2 p3 : Int) (p4 : Bool) (p5 p6 p7 : Int) (p8 : T66bd.T) (p9 : T4414.T) : Option R :=
  (f_table_Put.f k p8.1.2.2.2.2.2.1 p1.2.2.2.1 p1.2.2.2.2 p8.2).bind fun y1 =>
    if (y1.2.1 == (7 : Int)) = true then
      some (((p8.1.1, (p8.1.2.1, (p8.1.2.2.1, (p8.1.2.2.2.1, (p1.2.2.2.1, (y1.1, p8.1.2.2.2.2.2.2)))))), p8.2), ())
    else
      some (((p8.1.1, (p8.1.2.1, (p8.1.2.2.1, (p8.1.2.2.2.1, (p8.1.2.2.2.2.1, (y1.1, p8.1.2.2.2.2.2.2)))))), p8.2), ())
theorem f_ok {r k p1 p2 p3 p4 p5 p6 p7 p8 p9} (H : f k p1 p2 p3 p4 p5 p6 p7 p8 p9 = some r) : Gw P 3 (Q p1 p2 p3 p4 p5 p6 p7 p8 p9 r) (Px c0 1 []) (s0 p1 p2 p3 p4 p5 p6 p7 p8 p9) := by
  unfold f at H
  refine Rg V_ok 1 [(0, hb 3)] az ?_
  obtain ⟨y1, e2, H⟩ := of_bind H
  refine Rg V_ok 0 [(13, hr f_table_Put.S y1)] (ac (f_table_Put.rl e2) az) ?_
  refine Rg V_ok 0 [] az ?_
  refine Rg V_ok 0 [] az ?_
  rcases of_ite H with ⟨hb3, H⟩ | ⟨hb3, H⟩
  · refine C1 hb3 ?_
    refine Rg V_ok 0 [] az ?_
    obtain rfl := Option.some.inj H
    exact Lq (tn [] 3)
  · refine C0 hb3 ?_
    obtain rfl := Option.some.inj H
    exact Lq (tn [] 3)
theorem ok {r k p1 p2 p3 p4 p5 p6 p7 p8 p9} (H : f k p1 p2 p3 p4 p5 p6 p7 p8 p9 = some r) : W P 3 c0 (s0 p1 p2 p3 p4 p5 p6 p7 p8 p9) (CallQ 3 (out p1 p2 p3 p4 p5 p6 p7 p8 p9 r)) := of_G (f_ok H)
theorem at_ : FnAt P 60 36 c0 Go.Proofs.Tryd.f60.results := fnAt Go.Proofs.Tryd.func60 (by kernel_rfl) (by decide) (by kernel_rfl) (by kernel_rfl)
end i_agent_worker_add_e47
/-! ### function 61, (*wayfinder/agent.worker).flip, where it is called -/
namespace i_agent_worker_flip_e47
noncomputable def c0 : Code := (Go.Proofs.Tryd.f61.body).getD .skip
noncomputable def V : Env := { tt := tt, Γ := slk [] }
theorem V_ok : EnvOk P V := { ck := tt_ck, fits := slk_nil, mixed := mixed }
abbrev R := (T66bd.T) × Unit
noncomputable def s0 (p1 : T4414.T) (p2 p3 : Int) (p4 : Bool) (p5 p6 p7 : Int) (p8 : T66bd.T) (p9 : T4414.T) : St := ⟨10, [(0, .cv (.one (.ptr 1 0))), (1, .cv (.agg (encC .any T4414 p1)))], [(.box 7, [.i p2, .i p3, .bool p4, .i p5, .i p6, .nils, .i p7]), (.box 8, (encC .any T66bd p8)), (.box 10, (encC .any T4414 p9))]⟩
noncomputable def out (p1 : T4414.T) (p2 p3 : Int) (p4 : Bool) (p5 p6 p7 : Int) (p8 : T66bd.T) (p9 : T4414.T) (r : R) : St := ⟨10, [], [(.box 7, [.i p2, .i p3, .bool p4, .i p5, .i p6, .nils, .i p7]), (.box 8, (encC .any T66bd r.1)), (.box 10, (encC .any T4414 p9))]⟩
abbrev Q (p1 : T4414.T) (p2 p3 : Int) (p4 : Bool) (p5 p6 p7 : Int) (p8 : T66bd.T) (p9 : T4414.T) (r : R) := CallQ 3 (out p1 p2 p3 p4 p5 p6 p7 p8 p9 r)
noncomputable def f (k : Nat) (p1 : T4414.T) (p2 p3 : Int) (p4 : Bool) (p5 p6 p7 : Int) (p8 : T66bd.T) (p9 : T4414.T) : Option R :=
  some (((p8.1.1, (p8.1.2.1, (p8.1.2.2.1, (p1.2.2.2.1, p8.1.2.2.2.2)))), p8.2), ())
theorem f_ok {r k p1 p2 p3 p4 p5 p6 p7 p8 p9} (H : f k p1 p2 p3 p4 p5 p6 p7 p8 p9 = some r) : Gw P 3 (Q p1 p2 p3 p4 p5 p6 p7 p8 p9 r) (Px c0 1 []) (s0 p1 p2 p3 p4 p5 p6 p7 p8 p9) := by
  unfold f at H
  refine Rg V_ok 1 [(0, hb 3)] az ?_
  refine Rg V_ok 0 [] az ?_
  obtain rfl := Option.some.inj H
  exact Lq (tn [] 3)
theorem ok {r k p1 p2 p3 p4 p5 p6 p7 p8 p9} (H : f k p1 p2 p3 p4 p5 p6 p7 p8 p9 = some r) : W P 3 c0 (s0 p1 p2 p3 p4 p5 p6 p7 p8 p9) (CallQ 3 (out p1 p2 p3 p4 p5 p6 p7 p8 p9 r)) := of_G (f_ok H)
theorem at_ : FnAt P 61 10 c0 Go.Proofs.Tryd.f61.results := fnAt Go.Proofs.Tryd.func61 (by kernel_rfl) (by decide) (by kernel_rfl) (by kernel_rfl)
end i_agent_worker_flip_e47
/-! ### function 62, (*wayfinder/agent.worker).collect, where it is called -/
namespace i_agent_worker_collect_e47
noncomputable def c0 : Code := (Go.Proofs.Tryd.f62.body).getD .skip
noncomputable def V : Env := { tt := tt, Γ := slk [(19, f_table_Drop.S)] }
theorem V_ok : EnvOk P V := { ck := tt_ck, fits := slk_cons f_table_Drop.fits (slk_nil), mixed := mixed }
abbrev R := (T66bd.T) × Unit
noncomputable def s0 (p1 : T4414.T) (p2 p3 : Int) (p4 : Bool) (p5 p6 p7 : Int) (p8 : T66bd.T) (p9 : T4414.T) : St := ⟨28, [(0, .cv (.one (.ptr 1 0))), (1, .cv (.agg (encC .any T4414 p1)))], [(.box 7, [.i p2, .i p3, .bool p4, .i p5, .i p6, .nils, .i p7]), (.box 8, (encC .any T66bd p8)), (.box 10, (encC .any T4414 p9))]⟩
noncomputable def out (p1 : T4414.T) (p2 p3 : Int) (p4 : Bool) (p5 p6 p7 : Int) (p8 : T66bd.T) (p9 : T4414.T) (r : R) : St := ⟨28, [], [(.box 7, [.i p2, .i p3, .bool p4, .i p5, .i p6, .nils, .i p7]), (.box 8, (encC .any T66bd r.1)), (.box 10, (encC .any T4414 p9))]⟩
abbrev Q (p1 : T4414.T) (p2 p3 : Int) (p4 : Bool) (p5 p6 p7 : Int) (p8 : T66bd.T) (p9 : T4414.T) (r : R) := CallQ 3 (out p1 p2 p3 p4 p5 p6 p7 p8 p9 r)
noncomputable def f (k : Nat) (p1 : T4414.T) (p2 p3 : Int) (p4 : Bool) (p5 p6 p7 : Int) (p8 : T66bd.T) (p9 : T4414.T) : Option R :=
  (f_table_Drop.f k p8.1.2.2.2.2.2.1 p1.2.2.2.1).bind fun y1 =>
    if (p8.1.2.2.2.2.1 == p1.2.2.2.1) = true then
      some (((p8.1.1, (p8.1.2.1, (p8.1.2.2.1, (p8.1.2.2.2.1, (0, (y1.1, p8.1.2.2.2.2.2.2)))))), p8.2), ())
    else
      some (((p8.1.1, (p8.1.2.1, (p8.1.2.2.1, (p8.1.2.2.2.1, (p8.1.2.2.2.2.1, (y1.1, p8.1.2.2.2.2.2.2)))))), p8.2), ())
theorem f_ok {r k p1 p2 p3 p4 p5 p6 p7 p8 p9} (H : f k p1 p2 p3 p4 p5 p6 p7 p8 p9 = some r) : Gw P 3 (Q p1 p2 p3 p4 p5 p6 p7 p8 p9 r) (Px c0 1 []) (s0 p1 p2 p3 p4 p5 p6 p7 p8 p9) := by
  unfold f at H
  refine Rg V_ok 1 [(0, hb 3)] az ?_
  obtain ⟨y1, e2, H⟩ := of_bind H
  refine Rg V_ok 0 [(8, hr f_table_Drop.S y1)] (ac (f_table_Drop.rl e2) az) ?_
  refine Rg V_ok 0 [] az ?_
  rcases of_ite H with ⟨hb3, H⟩ | ⟨hb3, H⟩
  · refine C1 hb3 ?_
    refine Rg V_ok 0 [] az ?_
    obtain rfl := Option.some.inj H
    exact Lq (tn [] 3)
  · refine C0 hb3 ?_
    obtain rfl := Option.some.inj H
    exact Lq (tn [] 3)
theorem ok {r k p1 p2 p3 p4 p5 p6 p7 p8 p9} (H : f k p1 p2 p3 p4 p5 p6 p7 p8 p9 = some r) : W P 3 c0 (s0 p1 p2 p3 p4 p5 p6 p7 p8 p9) (CallQ 3 (out p1 p2 p3 p4 p5 p6 p7 p8 p9 r)) := of_G (f_ok H)
theorem at_ : FnAt P 62 28 c0 Go.Proofs.Tryd.f62.results := fnAt Go.Proofs.Tryd.func62 (by kernel_rfl) (by decide) (by kernel_rfl) (by kernel_rfl)
end i_agent_worker_collect_e47
/-! ### function 63, (*wayfinder/agent.worker).open, where it is called -/
namespace i_agent_worker_open_e47
noncomputable def c0 : Code := (Go.Proofs.Tryd.f63.body).getD .skip
noncomputable def V : Env := { tt := tt, Γ := slk [] }
theorem V_ok : EnvOk P V := { ck := tt_ck, fits := slk_nil, mixed := mixed }
abbrev R := (T66bd.T) × Unit
noncomputable def s0 (p1 : T4414.T) (p2 p3 : Int) (p4 : Bool) (p5 p6 p7 : Int) (p8 : T66bd.T) (p9 : T4414.T) : St := ⟨8, [(0, .cv (.one (.ptr 1 0))), (1, .cv (.agg (encC .any T4414 p1)))], [(.box 7, [.i p2, .i p3, .bool p4, .i p5, .i p6, .nils, .i p7]), (.box 8, (encC .any T66bd p8)), (.box 10, (encC .any T4414 p9))]⟩
noncomputable def out (p1 : T4414.T) (p2 p3 : Int) (p4 : Bool) (p5 p6 p7 : Int) (p8 : T66bd.T) (p9 : T4414.T) (r : R) : St := ⟨8, [], [(.box 7, [.i p2, .i p3, .bool p4, .i p5, .i p6, .nils, .i p7]), (.box 8, (encC .any T66bd r.1)), (.box 10, (encC .any T4414 p9))]⟩
abbrev Q (p1 : T4414.T) (p2 p3 : Int) (p4 : Bool) (p5 p6 p7 : Int) (p8 : T66bd.T) (p9 : T4414.T) (r : R) := CallQ 3 (out p1 p2 p3 p4 p5 p6 p7 p8 p9 r)
noncomputable def f (k : Nat) (p1 : T4414.T) (p2 p3 : Int) (p4 : Bool) (p5 p6 p7 : Int) (p8 : T66bd.T) (p9 : T4414.T) : Option R :=
  some (((p8.1.1, (p8.1.2.1, (true, p8.1.2.2.2))), p8.2), ())
theorem f_ok {r k p1 p2 p3 p4 p5 p6 p7 p8 p9} (H : f k p1 p2 p3 p4 p5 p6 p7 p8 p9 = some r) : Gw P 3 (Q p1 p2 p3 p4 p5 p6 p7 p8 p9 r) (Px c0 1 []) (s0 p1 p2 p3 p4 p5 p6 p7 p8 p9) := by
  unfold f at H
  refine Rg V_ok 1 [(0, hb 3)] az ?_
  refine Rg V_ok 0 [] az ?_
  obtain rfl := Option.some.inj H
  exact Lq (tn [] 3)
theorem ok {r k p1 p2 p3 p4 p5 p6 p7 p8 p9} (H : f k p1 p2 p3 p4 p5 p6 p7 p8 p9 = some r) : W P 3 c0 (s0 p1 p2 p3 p4 p5 p6 p7 p8 p9) (CallQ 3 (out p1 p2 p3 p4 p5 p6 p7 p8 p9 r)) := of_G (f_ok H)
theorem at_ : FnAt P 63 8 c0 Go.Proofs.Tryd.f63.results := fnAt Go.Proofs.Tryd.func63 (by kernel_rfl) (by decide) (by kernel_rfl) (by kernel_rfl)
end i_agent_worker_open_e47
/-! ### function 10, wayfinder/agent.Handle -/
namespace f_agent_Handle
noncomputable def c0 : Code := (Go.Proofs.Tryd.f10.body).getD .skip
abbrev ps : Sg := [(true, Tf20b), (false, (.slice (.int .u8))), (false, (.int .i64))]
abbrev rs : Sg := [(true, Tf20b), (false, (.slice (.slice (.int .u8))))]
noncomputable def V : Env := { tt := tt, Γ := slk [(9, f_frame_Seal.S), (11, f_agent_Hail.S), (12, f_frame_Open.S), (28, f_agent_own.S), (30, f_sess_Take.S), (31, f_agent_frames.S)] }
theorem V_ok : EnvOk P V := { ck := tt_ck, fits := slk_cons f_frame_Seal.fits (slk_cons f_agent_Hail.fits (slk_cons f_frame_Open.fits (slk_cons f_agent_own.fits (slk_cons f_sess_Take.fits (slk_cons f_agent_frames.fits (slk_nil)))))), mixed := mixed }
abbrev R := Tup rs
noncomputable abbrev Q (r : R) : Exit → St → Prop := Qr tt Go.Proofs.Tryd.f10.results ⟨ps, rs, .any, none, fun _ _ => True⟩ r
noncomputable def s1 (p1 : Bool) (p2 : Tf20b.T) (p3 p4 : Int) (p5 : Bool) (p6 p7 p8 : Int) (p9 : T66bd.T) (p10 : T4414.T) : St := ⟨110, [(3, .cv (.one (.ptr 0 0))), (6, .cv (.one (.ptr 1 0))), (8, .cv (.one (.ptr 2 0))), (9, .cv (.one (.ptr 3 0))), (11, .cv (.one (.fn 60 [] []))), (37, .cv (.one (.bool p1)))], [(.box 7, (encC .any Tf20b p2)), (.box 7, [.i p3, .i p4, .bool p5, .i p6, .i p7, .nils, .i p8]), (.box 8, (encC .any T66bd p9)), (.box 10, (encC .any T4414 p10))]⟩
noncomputable def s2 (p1 p2 : Int) (p3 : Bool) (p4 p5 p6 : Int) (p7 : T66bd.T) : St := ⟨110, [(6, .cv (.one (.ptr 0 0))), (8, .cv (.one (.ptr 1 0)))], [(.box 7, [.i p1, .i p2, .bool p3, .i p4, .i p5, .nils, .i p6]), (.box 8, (encC .any T66bd p7))]⟩
noncomputable def j2 (k : Nat) (p1 p2 : Int) (p3 : Bool) (p4 p5 p6 : Int) (p7 : T66bd.T) : Option R :=
  (f_frame_Seal.f k (1, (p7.1.1, (p7.1.2.1, (p7.1.2.2.2.2.1, ((0, 0), (0, (0, (0, 0))))))))).bind fun y25 =>
  (f_agent_frames.f k y25.1).bind fun y27 =>
    some (p7.1, (y27.1, ()))
theorem j2_ok {r} {k p1 p2 p3 p4 p5 p6 p7} (H : j2 k p1 p2 p3 p4 p5 p6 p7 = some r) : Gw P 0 (Q r) (Px c0 127 []) (s2 p1 p2 p3 p4 p5 p6 p7) := by
  unfold j2 at H
  obtain ⟨y25, e26, H⟩ := of_bind H
  refine Rg V_ok 0 [(16, hr f_frame_Seal.S y25)] (ac (f_frame_Seal.rl e26) az) ?_
  obtain ⟨y27, e28, H⟩ := of_bind H
  refine Rg V_ok 0 [(5, hr f_agent_frames.S y27)] (ac (f_agent_frames.rl e28) az) ?_
  exact Lf (Eq.trans (by kernel_rfl) H)
noncomputable def j1 (k : Nat) (p1 : Bool) (p2 : Tf20b.T) (p3 p4 : Int) (p5 : Bool) (p6 p7 p8 : Int) (p9 : T66bd.T) (p10 : T4414.T) : Option R :=
  if p1 = true then
  some ((p9.1.1, (p9.1.2.1, (p9.1.2.2.1, (p9.1.2.2.2.1, (p9.1.2.2.2.2.1, (p9.1.2.2.2.2.2.1, (IntKind.i64.wrap (p9.1.2.2.2.2.2.2 + 1)))))))), ([], ()))
else
  (f_sess_Take.f k p9.1.1 p9.1.2.1 p10).bind fun y15 =>
    if (y15.1 == (8 : Int)) = true then
      (f_agent_Hail.f k p2).bind fun y18 =>
        (f_agent_frames.f k y18.1).bind fun y19 =>
          some (p9.1, (y19.1, ()))
    else
      if (y15.1 == (0 : Int)) = true then
        (i_agent_worker_add_e47.f k p10 p3 p4 p5 p6 p7 p8 p9 p10).bind fun y23 =>
          j2 k p3 p4 p5 p6 p7 p8 ((y23.1.1.1, (p10.2.2.1, y23.1.1.2.2)), y23.1.2)
      else
        j2 k p3 p4 p5 p6 p7 p8 p9
theorem j1_ok {r} {k p1 p2 p3 p4 p5 p6 p7 p8 p9 p10} (H : j1 k p1 p2 p3 p4 p5 p6 p7 p8 p9 p10 = some r) : Gw P 0 (Q r) (Px c0 111 []) (s1 p1 p2 p3 p4 p5 p6 p7 p8 p9 p10) := by
  unfold j1 at H
  rcases of_ite H with ⟨hb14, H⟩ | ⟨hb14, H⟩
  · refine C1 hb14 ?_
    refine Rg V_ok 0 [] az ?_
    refine Rg V_ok 0 [] az ?_
    exact Lf (Eq.trans (by kernel_rfl) H)
  · refine C0 hb14 ?_
    obtain ⟨y15, e16, H⟩ := of_bind H
    refine Rg V_ok 0 [(11, hr f_sess_Take.S y15)] (ac (f_sess_Take.rl e16) az) ?_
    refine Rg V_ok 0 [] az ?_
    rcases of_ite H with ⟨hb17, H⟩ | ⟨hb17, H⟩
    · refine C1 hb17 ?_
      obtain ⟨y18, e20, H⟩ := of_bind H
      obtain ⟨y19, e21, H⟩ := of_bind H
      refine Rg V_ok 0 [(5, hr f_agent_Hail.S y18), (6, hr f_agent_frames.S y19)] (ac (f_agent_Hail.rl e20) (ac (f_agent_frames.rl e21) az)) ?_
      exact Lf (Eq.trans (by kernel_rfl) H)
    · refine C0 hb17 ?_
      refine Rg V_ok 0 [] az ?_
      rcases of_ite H with ⟨hb22, H⟩ | ⟨hb22, H⟩
      · refine C1 hb22 ?_
        refine GT (tl [6, 8, 9, 11] [1, 2, 3]) (RI ?_)
        refine EV V_ok 0 [] 3 az ?_
        obtain ⟨y23, e24, H⟩ := of_bind H
        refine CL V_ok i_agent_worker_add_e47.at_ (i_agent_worker_add_e47.ok e24) ?_
        refine RN ?_
        refine Rg V_ok 0 [] az ?_
        exact Jm (tn [6, 8] 2) (j2_ok H)
      · refine C0 hb22 ?_
        exact Jm (tl [6, 8] [1, 2]) (j2_ok H)
noncomputable def s3 (p1 : Bool) (p2 : Tf20b.T) (p3 p4 : Int) (p5 : Bool) (p6 p7 p8 : Int) (p9 : T66bd.T) (p10 : T4414.T) : St := ⟨110, [(3, .cv (.one (.ptr 0 0))), (6, .cv (.one (.ptr 1 0))), (8, .cv (.one (.ptr 2 0))), (9, .cv (.one (.ptr 3 0))), (11, .cv (.one (.fn 61 [] []))), (37, .cv (.one (.bool p1)))], [(.box 7, (encC .any Tf20b p2)), (.box 7, [.i p3, .i p4, .bool p5, .i p6, .i p7, .nils, .i p8]), (.box 8, (encC .any T66bd p9)), (.box 10, (encC .any T4414 p10))]⟩
noncomputable def s4 (p1 p2 : Int) (p3 : Bool) (p4 p5 p6 : Int) (p7 : T66bd.T) : St := ⟨110, [(6, .cv (.one (.ptr 0 0))), (8, .cv (.one (.ptr 1 0)))], [(.box 7, [.i p1, .i p2, .bool p3, .i p4, .i p5, .nils, .i p6]), (.box 8, (encC .any T66bd p7))]⟩
noncomputable def j4 (k : Nat) (p1 p2 : Int) (p3 : Bool) (p4 p5 p6 : Int) (p7 : T66bd.T) : Option R :=
  (f_frame_Seal.f k (1, (p7.1.1, (p7.1.2.1, (p7.1.2.2.2.2.1, ((0, 0), (0, (0, (0, 0))))))))).bind fun y43 =>
  (f_agent_frames.f k y43.1).bind fun y45 =>
    some (p7.1, (y45.1, ()))
theorem j4_ok {r} {k p1 p2 p3 p4 p5 p6 p7} (H : j4 k p1 p2 p3 p4 p5 p6 p7 = some r) : Gw P 0 (Q r) (Px c0 127 []) (s4 p1 p2 p3 p4 p5 p6 p7) := by
  unfold j4 at H
  obtain ⟨y43, e44, H⟩ := of_bind H
  refine Rg V_ok 0 [(16, hr f_frame_Seal.S y43)] (ac (f_frame_Seal.rl e44) az) ?_
  obtain ⟨y45, e46, H⟩ := of_bind H
  refine Rg V_ok 0 [(5, hr f_agent_frames.S y45)] (ac (f_agent_frames.rl e46) az) ?_
  exact Lf (Eq.trans (by kernel_rfl) H)
noncomputable def j3 (k : Nat) (p1 : Bool) (p2 : Tf20b.T) (p3 p4 : Int) (p5 : Bool) (p6 p7 p8 : Int) (p9 : T66bd.T) (p10 : T4414.T) : Option R :=
  if p1 = true then
  some ((p9.1.1, (p9.1.2.1, (p9.1.2.2.1, (p9.1.2.2.2.1, (p9.1.2.2.2.2.1, (p9.1.2.2.2.2.2.1, (IntKind.i64.wrap (p9.1.2.2.2.2.2.2 + 1)))))))), ([], ()))
else
  (f_sess_Take.f k p9.1.1 p9.1.2.1 p10).bind fun y33 =>
    if (y33.1 == (8 : Int)) = true then
      (f_agent_Hail.f k p2).bind fun y36 =>
        (f_agent_frames.f k y36.1).bind fun y37 =>
          some (p9.1, (y37.1, ()))
    else
      if (y33.1 == (0 : Int)) = true then
        (i_agent_worker_flip_e47.f k p10 p3 p4 p5 p6 p7 p8 p9 p10).bind fun y41 =>
          j4 k p3 p4 p5 p6 p7 p8 ((y41.1.1.1, (p10.2.2.1, y41.1.1.2.2)), y41.1.2)
      else
        j4 k p3 p4 p5 p6 p7 p8 p9
theorem j3_ok {r} {k p1 p2 p3 p4 p5 p6 p7 p8 p9 p10} (H : j3 k p1 p2 p3 p4 p5 p6 p7 p8 p9 p10 = some r) : Gw P 0 (Q r) (Px c0 111 []) (s3 p1 p2 p3 p4 p5 p6 p7 p8 p9 p10) := by
  unfold j3 at H
  rcases of_ite H with ⟨hb32, H⟩ | ⟨hb32, H⟩
  · refine C1 hb32 ?_
    refine Rg V_ok 0 [] az ?_
    refine Rg V_ok 0 [] az ?_
    exact Lf (Eq.trans (by kernel_rfl) H)
  · refine C0 hb32 ?_
    obtain ⟨y33, e34, H⟩ := of_bind H
    refine Rg V_ok 0 [(11, hr f_sess_Take.S y33)] (ac (f_sess_Take.rl e34) az) ?_
    refine Rg V_ok 0 [] az ?_
    rcases of_ite H with ⟨hb35, H⟩ | ⟨hb35, H⟩
    · refine C1 hb35 ?_
      obtain ⟨y36, e38, H⟩ := of_bind H
      obtain ⟨y37, e39, H⟩ := of_bind H
      refine Rg V_ok 0 [(5, hr f_agent_Hail.S y36), (6, hr f_agent_frames.S y37)] (ac (f_agent_Hail.rl e38) (ac (f_agent_frames.rl e39) az)) ?_
      exact Lf (Eq.trans (by kernel_rfl) H)
    · refine C0 hb35 ?_
      refine Rg V_ok 0 [] az ?_
      rcases of_ite H with ⟨hb40, H⟩ | ⟨hb40, H⟩
      · refine C1 hb40 ?_
        refine GT (tl [6, 8, 9, 11] [1, 2, 3]) (RI ?_)
        refine EV V_ok 0 [] 3 az ?_
        obtain ⟨y41, e42, H⟩ := of_bind H
        refine CL V_ok i_agent_worker_flip_e47.at_ (i_agent_worker_flip_e47.ok e42) ?_
        refine RN ?_
        refine Rg V_ok 0 [] az ?_
        exact Jm (tn [6, 8] 2) (j4_ok H)
      · refine C0 hb40 ?_
        exact Jm (tl [6, 8] [1, 2]) (j4_ok H)
noncomputable def s5 (p1 : Bool) (p2 : Tf20b.T) (p3 p4 : Int) (p5 : Bool) (p6 p7 p8 : Int) (p9 : T66bd.T) (p10 : T4414.T) : St := ⟨110, [(3, .cv (.one (.ptr 0 0))), (6, .cv (.one (.ptr 1 0))), (8, .cv (.one (.ptr 2 0))), (9, .cv (.one (.ptr 3 0))), (11, .cv (.one (.fn 62 [] []))), (37, .cv (.one (.bool p1)))], [(.box 7, (encC .any Tf20b p2)), (.box 7, [.i p3, .i p4, .bool p5, .i p6, .i p7, .nils, .i p8]), (.box 8, (encC .any T66bd p9)), (.box 10, (encC .any T4414 p10))]⟩
noncomputable def s6 (p1 p2 : Int) (p3 : Bool) (p4 p5 p6 : Int) (p7 : T66bd.T) : St := ⟨110, [(6, .cv (.one (.ptr 0 0))), (8, .cv (.one (.ptr 1 0)))], [(.box 7, [.i p1, .i p2, .bool p3, .i p4, .i p5, .nils, .i p6]), (.box 8, (encC .any T66bd p7))]⟩
noncomputable def j6 (k : Nat) (p1 p2 : Int) (p3 : Bool) (p4 p5 p6 : Int) (p7 : T66bd.T) : Option R :=
  (f_frame_Seal.f k (1, (p7.1.1, (p7.1.2.1, (p7.1.2.2.2.2.1, ((0, 0), (0, (0, (0, 0))))))))).bind fun y61 =>
  (f_agent_frames.f k y61.1).bind fun y63 =>
    some (p7.1, (y63.1, ()))
theorem j6_ok {r} {k p1 p2 p3 p4 p5 p6 p7} (H : j6 k p1 p2 p3 p4 p5 p6 p7 = some r) : Gw P 0 (Q r) (Px c0 127 []) (s6 p1 p2 p3 p4 p5 p6 p7) := by
  unfold j6 at H
  obtain ⟨y61, e62, H⟩ := of_bind H
  refine Rg V_ok 0 [(16, hr f_frame_Seal.S y61)] (ac (f_frame_Seal.rl e62) az) ?_
  obtain ⟨y63, e64, H⟩ := of_bind H
  refine Rg V_ok 0 [(5, hr f_agent_frames.S y63)] (ac (f_agent_frames.rl e64) az) ?_
  exact Lf (Eq.trans (by kernel_rfl) H)
noncomputable def j5 (k : Nat) (p1 : Bool) (p2 : Tf20b.T) (p3 p4 : Int) (p5 : Bool) (p6 p7 p8 : Int) (p9 : T66bd.T) (p10 : T4414.T) : Option R :=
  if p1 = true then
  some ((p9.1.1, (p9.1.2.1, (p9.1.2.2.1, (p9.1.2.2.2.1, (p9.1.2.2.2.2.1, (p9.1.2.2.2.2.2.1, (IntKind.i64.wrap (p9.1.2.2.2.2.2.2 + 1)))))))), ([], ()))
else
  (f_sess_Take.f k p9.1.1 p9.1.2.1 p10).bind fun y51 =>
    if (y51.1 == (8 : Int)) = true then
      (f_agent_Hail.f k p2).bind fun y54 =>
        (f_agent_frames.f k y54.1).bind fun y55 =>
          some (p9.1, (y55.1, ()))
    else
      if (y51.1 == (0 : Int)) = true then
        (i_agent_worker_collect_e47.f k p10 p3 p4 p5 p6 p7 p8 p9 p10).bind fun y59 =>
          j6 k p3 p4 p5 p6 p7 p8 ((y59.1.1.1, (p10.2.2.1, y59.1.1.2.2)), y59.1.2)
      else
        j6 k p3 p4 p5 p6 p7 p8 p9
theorem j5_ok {r} {k p1 p2 p3 p4 p5 p6 p7 p8 p9 p10} (H : j5 k p1 p2 p3 p4 p5 p6 p7 p8 p9 p10 = some r) : Gw P 0 (Q r) (Px c0 111 []) (s5 p1 p2 p3 p4 p5 p6 p7 p8 p9 p10) := by
  unfold j5 at H
  rcases of_ite H with ⟨hb50, H⟩ | ⟨hb50, H⟩
  · refine C1 hb50 ?_
    refine Rg V_ok 0 [] az ?_
    refine Rg V_ok 0 [] az ?_
    exact Lf (Eq.trans (by kernel_rfl) H)
  · refine C0 hb50 ?_
    obtain ⟨y51, e52, H⟩ := of_bind H
    refine Rg V_ok 0 [(11, hr f_sess_Take.S y51)] (ac (f_sess_Take.rl e52) az) ?_
    refine Rg V_ok 0 [] az ?_
    rcases of_ite H with ⟨hb53, H⟩ | ⟨hb53, H⟩
    · refine C1 hb53 ?_
      obtain ⟨y54, e56, H⟩ := of_bind H
      obtain ⟨y55, e57, H⟩ := of_bind H
      refine Rg V_ok 0 [(5, hr f_agent_Hail.S y54), (6, hr f_agent_frames.S y55)] (ac (f_agent_Hail.rl e56) (ac (f_agent_frames.rl e57) az)) ?_
      exact Lf (Eq.trans (by kernel_rfl) H)
    · refine C0 hb53 ?_
      refine Rg V_ok 0 [] az ?_
      rcases of_ite H with ⟨hb58, H⟩ | ⟨hb58, H⟩
      · refine C1 hb58 ?_
        refine GT (tl [6, 8, 9, 11] [1, 2, 3]) (RI ?_)
        refine EV V_ok 0 [] 3 az ?_
        obtain ⟨y59, e60, H⟩ := of_bind H
        refine CL V_ok i_agent_worker_collect_e47.at_ (i_agent_worker_collect_e47.ok e60) ?_
        refine RN ?_
        refine Rg V_ok 0 [] az ?_
        exact Jm (tn [6, 8] 2) (j6_ok H)
      · refine C0 hb58 ?_
        exact Jm (tl [6, 8] [1, 2]) (j6_ok H)
noncomputable def s7 (p1 : Bool) (p2 : Tf20b.T) (p3 p4 : Int) (p5 : Bool) (p6 p7 p8 : Int) (p9 : T66bd.T) (p10 : T4414.T) : St := ⟨110, [(3, .cv (.one (.ptr 0 0))), (6, .cv (.one (.ptr 1 0))), (8, .cv (.one (.ptr 2 0))), (9, .cv (.one (.ptr 3 0))), (11, .cv (.one (.fn 63 [] []))), (37, .cv (.one (.bool p1)))], [(.box 7, (encC .any Tf20b p2)), (.box 7, [.i p3, .i p4, .bool p5, .i p6, .i p7, .nils, .i p8]), (.box 8, (encC .any T66bd p9)), (.box 10, (encC .any T4414 p10))]⟩
noncomputable def s8 (p1 p2 : Int) (p3 : Bool) (p4 p5 p6 : Int) (p7 : T66bd.T) : St := ⟨110, [(6, .cv (.one (.ptr 0 0))), (8, .cv (.one (.ptr 1 0)))], [(.box 7, [.i p1, .i p2, .bool p3, .i p4, .i p5, .nils, .i p6]), (.box 8, (encC .any T66bd p7))]⟩
noncomputable def j8 (k : Nat) (p1 p2 : Int) (p3 : Bool) (p4 p5 p6 : Int) (p7 : T66bd.T) : Option R :=
  (f_frame_Seal.f k (1, (p7.1.1, (p7.1.2.1, (p7.1.2.2.2.2.1, ((0, 0), (0, (0, (0, 0))))))))).bind fun y79 =>
  (f_agent_frames.f k y79.1).bind fun y81 =>
    some (p7.1, (y81.1, ()))
theorem j8_ok {r} {k p1 p2 p3 p4 p5 p6 p7} (H : j8 k p1 p2 p3 p4 p5 p6 p7 = some r) : Gw P 0 (Q r) (Px c0 127 []) (s8 p1 p2 p3 p4 p5 p6 p7) := by
  unfold j8 at H
  obtain ⟨y79, e80, H⟩ := of_bind H
  refine Rg V_ok 0 [(16, hr f_frame_Seal.S y79)] (ac (f_frame_Seal.rl e80) az) ?_
  obtain ⟨y81, e82, H⟩ := of_bind H
  refine Rg V_ok 0 [(5, hr f_agent_frames.S y81)] (ac (f_agent_frames.rl e82) az) ?_
  exact Lf (Eq.trans (by kernel_rfl) H)
noncomputable def j7 (k : Nat) (p1 : Bool) (p2 : Tf20b.T) (p3 p4 : Int) (p5 : Bool) (p6 p7 p8 : Int) (p9 : T66bd.T) (p10 : T4414.T) : Option R :=
  if p1 = true then
  some ((p9.1.1, (p9.1.2.1, (p9.1.2.2.1, (p9.1.2.2.2.1, (p9.1.2.2.2.2.1, (p9.1.2.2.2.2.2.1, (IntKind.i64.wrap (p9.1.2.2.2.2.2.2 + 1)))))))), ([], ()))
else
  (f_sess_Take.f k p9.1.1 p9.1.2.1 p10).bind fun y69 =>
    if (y69.1 == (8 : Int)) = true then
      (f_agent_Hail.f k p2).bind fun y72 =>
        (f_agent_frames.f k y72.1).bind fun y73 =>
          some (p9.1, (y73.1, ()))
    else
      if (y69.1 == (0 : Int)) = true then
        (i_agent_worker_open_e47.f k p10 p3 p4 p5 p6 p7 p8 p9 p10).bind fun y77 =>
          j8 k p3 p4 p5 p6 p7 p8 ((y77.1.1.1, (p10.2.2.1, y77.1.1.2.2)), y77.1.2)
      else
        j8 k p3 p4 p5 p6 p7 p8 p9
theorem j7_ok {r} {k p1 p2 p3 p4 p5 p6 p7 p8 p9 p10} (H : j7 k p1 p2 p3 p4 p5 p6 p7 p8 p9 p10 = some r) : Gw P 0 (Q r) (Px c0 111 []) (s7 p1 p2 p3 p4 p5 p6 p7 p8 p9 p10) := by
  unfold j7 at H
  rcases of_ite H with ⟨hb68, H⟩ | ⟨hb68, H⟩
  · refine C1 hb68 ?_
    refine Rg V_ok 0 [] az ?_
    refine Rg V_ok 0 [] az ?_
    exact Lf (Eq.trans (by kernel_rfl) H)
  · refine C0 hb68 ?_
    obtain ⟨y69, e70, H⟩ := of_bind H
    refine Rg V_ok 0 [(11, hr f_sess_Take.S y69)] (ac (f_sess_Take.rl e70) az) ?_
    refine Rg V_ok 0 [] az ?_
    rcases of_ite H with ⟨hb71, H⟩ | ⟨hb71, H⟩
    · refine C1 hb71 ?_
      obtain ⟨y72, e74, H⟩ := of_bind H
      obtain ⟨y73, e75, H⟩ := of_bind H
      refine Rg V_ok 0 [(5, hr f_agent_Hail.S y72), (6, hr f_agent_frames.S y73)] (ac (f_agent_Hail.rl e74) (ac (f_agent_frames.rl e75) az)) ?_
      exact Lf (Eq.trans (by kernel_rfl) H)
    · refine C0 hb71 ?_
      refine Rg V_ok 0 [] az ?_
      rcases of_ite H with ⟨hb76, H⟩ | ⟨hb76, H⟩
      · refine C1 hb76 ?_
        refine GT (tl [6, 8, 9, 11] [1, 2, 3]) (RI ?_)
        refine EV V_ok 0 [] 3 az ?_
        obtain ⟨y77, e78, H⟩ := of_bind H
        refine CL V_ok i_agent_worker_open_e47.at_ (i_agent_worker_open_e47.ok e78) ?_
        refine RN ?_
        refine Rg V_ok 0 [] az ?_
        exact Jm (tn [6, 8] 2) (j8_ok H)
      · refine C0 hb76 ?_
        exact Jm (tl [6, 8] [1, 2]) (j8_ok H)
noncomputable def s9 (p1 : Bool) (p2 : Tf20b.T) (p3 p4 : Int) (p5 : Bool) (p6 p7 p8 : Int) (p9 : T66bd.T) (p10 : T4414.T) : St := ⟨110, [(3, .cv (.one (.ptr 0 0))), (6, .cv (.one (.ptr 1 0))), (8, .cv (.one (.ptr 2 0))), (9, .cv (.one (.ptr 3 0))), (11, .cv (.one (.nilf))), (37, .cv (.one (.bool p1)))], [(.box 7, (encC .any Tf20b p2)), (.box 7, [.i p3, .i p4, .bool p5, .i p6, .i p7, .nils, .i p8]), (.box 8, (encC .any T66bd p9)), (.box 10, (encC .any T4414 p10))]⟩
noncomputable def j9 (k : Nat) (p1 : Bool) (p2 : Tf20b.T) (p3 p4 : Int) (p5 : Bool) (p6 p7 p8 : Int) (p9 : T66bd.T) (p10 : T4414.T) : Option R :=
  if p1 = true then
  some ((p9.1.1, (p9.1.2.1, (p9.1.2.2.1, (p9.1.2.2.2.1, (p9.1.2.2.2.2.1, (p9.1.2.2.2.2.2.1, (IntKind.i64.wrap (p9.1.2.2.2.2.2.2 + 1)))))))), ([], ()))
else
  (f_sess_Take.f k p9.1.1 p9.1.2.1 p10).bind fun y87 =>
    if (y87.1 == (8 : Int)) = true then
      (f_agent_Hail.f k p2).bind fun y90 =>
        (f_agent_frames.f k y90.1).bind fun y91 =>
          some (p9.1, (y91.1, ()))
    else
      if (y87.1 == (0 : Int)) = true then
        none
      else
        (f_frame_Seal.f k (1, (p9.1.1, (p9.1.2.1, (p9.1.2.2.2.2.1, ((0, 0), (0, (0, (0, 0))))))))).bind fun y95 =>
          (f_agent_frames.f k y95.1).bind fun y97 =>
            some (p9.1, (y97.1, ()))
theorem j9_ok {r} {k p1 p2 p3 p4 p5 p6 p7 p8 p9 p10} (H : j9 k p1 p2 p3 p4 p5 p6 p7 p8 p9 p10 = some r) : Gw P 0 (Q r) (Px c0 111 []) (s9 p1 p2 p3 p4 p5 p6 p7 p8 p9 p10) := by
  unfold j9 at H
  rcases of_ite H with ⟨hb86, H⟩ | ⟨hb86, H⟩
  · refine C1 hb86 ?_
    refine Rg V_ok 0 [] az ?_
    refine Rg V_ok 0 [] az ?_
    exact Lf (Eq.trans (by kernel_rfl) H)
  · refine C0 hb86 ?_
    obtain ⟨y87, e88, H⟩ := of_bind H
    refine Rg V_ok 0 [(11, hr f_sess_Take.S y87)] (ac (f_sess_Take.rl e88) az) ?_
    refine Rg V_ok 0 [] az ?_
    rcases of_ite H with ⟨hb89, H⟩ | ⟨hb89, H⟩
    · refine C1 hb89 ?_
      obtain ⟨y90, e92, H⟩ := of_bind H
      obtain ⟨y91, e93, H⟩ := of_bind H
      refine Rg V_ok 0 [(5, hr f_agent_Hail.S y90), (6, hr f_agent_frames.S y91)] (ac (f_agent_Hail.rl e92) (ac (f_agent_frames.rl e93) az)) ?_
      exact Lf (Eq.trans (by kernel_rfl) H)
    · refine C0 hb89 ?_
      refine Rg V_ok 0 [] az ?_
      rcases of_ite H with ⟨hb94, H⟩ | ⟨hb94, H⟩
      · refine C1 hb94 ?_
        refine GT (tl [6, 8, 9, 11] [1, 2, 3]) (RI ?_)
        refine EV V_ok 0 [] 3 az ?_
        cases H
      · refine C0 hb94 ?_
        obtain ⟨y95, e96, H⟩ := of_bind H
        refine Rg V_ok 0 [(16, hr f_frame_Seal.S y95)] (ac (f_frame_Seal.rl e96) az) ?_
        obtain ⟨y97, e98, H⟩ := of_bind H
        refine Rg V_ok 0 [(5, hr f_agent_frames.S y97)] (ac (f_agent_frames.rl e98) az) ?_
        exact Lf (Eq.trans (by kernel_rfl) H)
noncomputable def f (k : Nat) (a1 : Tf20b.T) (a2 : List Int) (a3 : Int) : Option R :=
  (f_agent_own.f k a1).bind fun y1 =>
    (f_frame_Open.f k a2).bind fun y3 =>
      if y3.1.1 = (2 : Int) then
        (i_agent_work_fc0.f k a1 (0 : Int) (0 : Int) false (0 : Int) (0 : Int) (0 : Int) (y1.1, a3) y3.1).bind fun y11 =>
          if (y3.2.1 != (0 : Int)) = true then
            j1 k true a1 (0 : Int) (0 : Int) false (0 : Int) (0 : Int) (0 : Int) (y1.1, a3) y3.1
          else
            j1 k false a1 (0 : Int) (0 : Int) false (0 : Int) (0 : Int) (0 : Int) (y1.1, a3) y3.1
      else
        if y3.1.1 = (3 : Int) then
          (i_agent_work_fc0.f k a1 (0 : Int) (0 : Int) false (0 : Int) (0 : Int) (0 : Int) (y1.1, a3) y3.1).bind fun y29 =>
            if (y3.2.1 != (0 : Int)) = true then
              j3 k true a1 (0 : Int) (0 : Int) false (0 : Int) (0 : Int) (0 : Int) (y1.1, a3) y3.1
            else
              j3 k false a1 (0 : Int) (0 : Int) false (0 : Int) (0 : Int) (0 : Int) (y1.1, a3) y3.1
        else
          if y3.1.1 = (4 : Int) then
            (i_agent_work_fc0.f k a1 (0 : Int) (0 : Int) false (0 : Int) (0 : Int) (0 : Int) (y1.1, a3) y3.1).bind fun y47 =>
              if (y3.2.1 != (0 : Int)) = true then
                j5 k true a1 (0 : Int) (0 : Int) false (0 : Int) (0 : Int) (0 : Int) (y1.1, a3) y3.1
              else
                j5 k false a1 (0 : Int) (0 : Int) false (0 : Int) (0 : Int) (0 : Int) (y1.1, a3) y3.1
          else
            if y3.1.1 = (5 : Int) then
              (i_agent_work_fc0.f k a1 (0 : Int) (0 : Int) false (0 : Int) (0 : Int) (0 : Int) (y1.1, a3) y3.1).bind fun y65 =>
                if (y3.2.1 != (0 : Int)) = true then
                  j7 k true a1 (0 : Int) (0 : Int) false (0 : Int) (0 : Int) (0 : Int) (y1.1, a3) y3.1
                else
                  j7 k false a1 (0 : Int) (0 : Int) false (0 : Int) (0 : Int) (0 : Int) (y1.1, a3) y3.1
            else
              (i_agent_work_fc0.f k a1 (0 : Int) (0 : Int) false (0 : Int) (0 : Int) (0 : Int) (y1.1, a3) y3.1).bind fun y83 =>
                if (y3.2.1 != (0 : Int)) = true then
                  j9 k true a1 (0 : Int) (0 : Int) false (0 : Int) (0 : Int) (0 : Int) (y1.1, a3) y3.1
                else
                  j9 k true a1 (0 : Int) (0 : Int) false (0 : Int) (0 : Int) (0 : Int) (y1.1, a3) y3.1
noncomputable def S : Spec := ⟨ps, rs, .any, none, fun x r => ∃ k, f k x.1 x.2.1 x.2.2.1 = some r⟩
theorem rl {k a1 a2 a3 r} (e : f k a1 a2 a3 = some r) : S.rel (a1, a2, a3, ()) r := ⟨k, e⟩
theorem f_ok {r k a1 a2 a3} (H : f k a1 a2 a3 = some r) : Gw P 0 (Q r) (Px c0 1 []) (⟨110, [(0, .cv (.agg (encC .any Tf20b a1))), (1, .cv (.one (.sl (.int .u8) a2 .any))), (2, .cv (.one (.i a3)))], []⟩) := by
  unfold f at H
  refine Rg V_ok 2 [(0, hb 0), (1, hb 1)] az ?_
  obtain ⟨y1, e2, H⟩ := of_bind H
  refine Rg V_ok 1 [(1, hr f_agent_own.S y1), (4, hb 2)] (ac (f_agent_own.rl e2) az) ?_
  obtain ⟨y3, e4, H⟩ := of_bind H
  refine Rg V_ok 1 [(1, hr f_frame_Open.S y3), (5, hb 3)] (ac (f_frame_Open.rl e4) az) ?_
  rcases of_ifx H with ⟨hk7, H⟩ | ⟨hk7, H⟩
  · obtain ⟨y11, e12, H⟩ := of_bind H
    let x : Nx := (Px c0 23 [])
    let t0 : St := ⟨110, [(3, .cv (.one (.ptr 0 0))), (6, .cv (.one (.ptr 1 0))), (8, .cv (.one (.ptr 2 0))), (9, .cv (.one (.ptr 3 0))), (10, .cv (.one (.i y3.2.1)))], [(.box 7, (encC .any Tf20b a1)), (.box 7, [.i 0, .i 0, .bool false, .i 0, .i 0, .nils, .i 0]), (.box 8, [.i y1.1.1, .i y1.1.2.1, .bool y1.1.2.2.1, .i y1.1.2.2.2.1, .i y1.1.2.2.2.2.1, .sl T814c y1.1.2.2.2.2.2.1 .any, .i y1.1.2.2.2.2.2.2, .i a3]), (.box 10, (encC .any T4414 y3.1))]⟩
    refine Jm (x' := x) (τ := t0) (tn [3, 6, 8, 9, 10] 4) ?_
    let Φ := phiX P 0 (Q r) x
    let t1 : St := stpS V x 0 [] 1 (tn [3, 6, 8, 9, 10, 27] 4) t0
    let t2 : St := clT V.tt x 0 Go.Proofs.Tryd.f29.results (tn [3, 6, 8, 9, 10, 26, 27] 5) t1 (i_agent_work_fc0.out a1 (0 : Int) (0 : Int) false (0 : Int) (0 : Int) (0 : Int) (y1.1, a3) y3.1 y11)
    let t3 : St := stpS V x 0 [] 2 (tn [3, 6, 8, 9, 10, 28] 4) t1
    let t4 : St := stpS V x 0 [] 2 (tn [3, 6, 8, 9, 10, 26, 28] 5) t2
    let t5 : St := stpS V x 0 [(3, {lu := some 0})] 3 (tn [3, 6, 8, 9, 10, 29] 4) t4
    let t6 : St := stpS V x 0 [] 4 (tn [3, 6, 8, 9, 10, 25] 4) t5
    let t7 : St := stpS V x 0 [] 5 (tn [3, 6, 8, 9, 10, 25, 30] 4) t6
    let t8 : St := stpS V x 0 [] 6 (tn [3, 6, 8, 9, 10, 30, 31] 4) t7
    let t9 : St := stpS V x 0 [] 7 (tn [3, 6, 8, 9, 10, 11, 31] 4) t8
    let t10 : St := stpS V x 0 [] 8 (tn [3, 6, 8, 9, 10, 11, 12] 4) t9
    have w10 : WA P 0 (opsX x) 0 (bs 9 511) Φ t10 := by
      refine WA_nil (by kernel_rfl) (RAn (by kernel_rfl) ?_)
      rcases of_ite H with ⟨hb13, H⟩ | ⟨hb13, H⟩
      · refine Rg V_ok 0 [(1, {bv := some true})] (ac hb13 az) ?_
        exact Jm (tn [3, 6, 8, 9, 11, 37] 4) (j1_ok H)
      · refine Rg V_ok 0 [(1, {bv := some false})] (ac hb13 az) ?_
        exact Jm (tn [3, 6, 8, 9, 11, 37] 4) (j1_ok H)
    have w9 : WA P 0 (opsX x) 1 (bs 9 255) Φ t9 := WT V_ok [] 8 (tn [3, 6, 8, 9, 10, 11, 12] 4) az w10
    have w8 : WA P 0 (opsX x) 2 (bs 9 127) Φ t8 := WT V_ok [] 7 (tn [3, 6, 8, 9, 10, 11, 31] 4) az w9
    have w7 : WA P 0 (opsX x) 3 (bs 9 63) Φ t7 := WT V_ok [] 6 (tn [3, 6, 8, 9, 10, 30, 31] 4) az w8
    have w6 : WA P 0 (opsX x) 4 (bs 9 31) Φ t6 := WT V_ok [] 5 (tn [3, 6, 8, 9, 10, 25, 30] 4) az w7
    have w5 : WA P 0 (opsX x) 5 (bs 9 15) Φ t5 := WT V_ok [] 4 (tn [3, 6, 8, 9, 10, 25] 4) az w6
    have w4 : WA P 0 (opsX x) 6 (bs 9 7) Φ t4 := WAs (an (WE V_ok 0 [(3, {lu := some 0})] 3 (tn [3, 6, 8, 9, 10, 29] 4) (ac hk7 az) w5) aN)
    have w3 : WA P 0 (opsX x) 7 (bs 9 6) Φ t3 := WAs (an (WC V_ok 0 (tn [3, 6, 8, 9, 10, 26, 28] 5) i_agent_work_fc0.at_ (i_agent_work_fc0.ok e12) w4) aN)
    have w2 : WA P 0 (opsX x) 7 (bs 9 3) Φ t2 := WAs (an (WE V_ok 0 [] 2 (tn [3, 6, 8, 9, 10, 26, 28] 5) az w4) aN)
    have w1 : WA P 0 (opsX x) 8 (bs 9 2) Φ t1 := WAs (an (WC V_ok 0 (tn [3, 6, 8, 9, 10, 26, 27] 5) i_agent_work_fc0.at_ (i_agent_work_fc0.ok e12) w2) (an (WE V_ok 0 [] 2 (tn [3, 6, 8, 9, 10, 28] 4) az w3) aN))
    have w0 : WA P 0 (opsX x) 9 (bs 9 0) Φ t0 := WT V_ok [] 1 (tn [3, 6, 8, 9, 10, 27] 4) az w1
    exact RA V_ok 9 (by kernel_rfl) (by kernel_rfl) (by kernel_rfl) w0
  · rcases of_ifx H with ⟨hk8, H⟩ | ⟨hk8, H⟩
    · obtain ⟨y29, e30, H⟩ := of_bind H
      let x : Nx := (Px c0 23 [])
      let t0 : St := ⟨110, [(3, .cv (.one (.ptr 0 0))), (6, .cv (.one (.ptr 1 0))), (8, .cv (.one (.ptr 2 0))), (9, .cv (.one (.ptr 3 0))), (10, .cv (.one (.i y3.2.1)))], [(.box 7, (encC .any Tf20b a1)), (.box 7, [.i 0, .i 0, .bool false, .i 0, .i 0, .nils, .i 0]), (.box 8, [.i y1.1.1, .i y1.1.2.1, .bool y1.1.2.2.1, .i y1.1.2.2.2.1, .i y1.1.2.2.2.2.1, .sl T814c y1.1.2.2.2.2.2.1 .any, .i y1.1.2.2.2.2.2.2, .i a3]), (.box 10, (encC .any T4414 y3.1))]⟩
      refine Jm (x' := x) (τ := t0) (tn [3, 6, 8, 9, 10] 4) ?_
      let Φ := phiX P 0 (Q r) x
      let t1 : St := stpS V x 0 [] 1 (tn [3, 6, 8, 9, 10, 27] 4) t0
      let t2 : St := clT V.tt x 0 Go.Proofs.Tryd.f29.results (tn [3, 6, 8, 9, 10, 26, 27] 5) t1 (i_agent_work_fc0.out a1 (0 : Int) (0 : Int) false (0 : Int) (0 : Int) (0 : Int) (y1.1, a3) y3.1 y29)
      let t3 : St := stpS V x 0 [] 2 (tn [3, 6, 8, 9, 10, 28] 4) t1
      let t4 : St := stpS V x 0 [] 2 (tn [3, 6, 8, 9, 10, 26, 28] 5) t2
      let t5 : St := stpS V x 0 [(3, {lu := some 1})] 3 (tn [3, 6, 8, 9, 10, 29] 4) t4
      let t6 : St := stpS V x 0 [] 4 (tn [3, 6, 8, 9, 10, 25] 4) t5
      let t7 : St := stpS V x 0 [] 5 (tn [3, 6, 8, 9, 10, 25, 30] 4) t6
      let t8 : St := stpS V x 0 [] 6 (tn [3, 6, 8, 9, 10, 30, 31] 4) t7
      let t9 : St := stpS V x 0 [] 7 (tn [3, 6, 8, 9, 10, 11, 31] 4) t8
      let t10 : St := stpS V x 0 [] 8 (tn [3, 6, 8, 9, 10, 11, 12] 4) t9
      have w10 : WA P 0 (opsX x) 0 (bs 9 511) Φ t10 := by
        refine WA_nil (by kernel_rfl) (RAn (by kernel_rfl) ?_)
        rcases of_ite H with ⟨hb31, H⟩ | ⟨hb31, H⟩
        · refine Rg V_ok 0 [(1, {bv := some true})] (ac hb31 az) ?_
          exact Jm (tn [3, 6, 8, 9, 11, 37] 4) (j3_ok H)
        · refine Rg V_ok 0 [(1, {bv := some false})] (ac hb31 az) ?_
          exact Jm (tn [3, 6, 8, 9, 11, 37] 4) (j3_ok H)
      have w9 : WA P 0 (opsX x) 1 (bs 9 255) Φ t9 := WT V_ok [] 8 (tn [3, 6, 8, 9, 10, 11, 12] 4) az w10
      have w8 : WA P 0 (opsX x) 2 (bs 9 127) Φ t8 := WT V_ok [] 7 (tn [3, 6, 8, 9, 10, 11, 31] 4) az w9
      have w7 : WA P 0 (opsX x) 3 (bs 9 63) Φ t7 := WT V_ok [] 6 (tn [3, 6, 8, 9, 10, 30, 31] 4) az w8
      have w6 : WA P 0 (opsX x) 4 (bs 9 31) Φ t6 := WT V_ok [] 5 (tn [3, 6, 8, 9, 10, 25, 30] 4) az w7
      have w5 : WA P 0 (opsX x) 5 (bs 9 15) Φ t5 := WT V_ok [] 4 (tn [3, 6, 8, 9, 10, 25] 4) az w6
      have w4 : WA P 0 (opsX x) 6 (bs 9 7) Φ t4 := WAs (an (WE V_ok 0 [(3, {lu := some 1})] 3 (tn [3, 6, 8, 9, 10, 29] 4) (ac hk8 (ac hk7 az)) w5) aN)
      have w3 : WA P 0 (opsX x) 7 (bs 9 6) Φ t3 := WAs (an (WC V_ok 0 (tn [3, 6, 8, 9, 10, 26, 28] 5) i_agent_work_fc0.at_ (i_agent_work_fc0.ok e30) w4) aN)
      have w2 : WA P 0 (opsX x) 7 (bs 9 3) Φ t2 := WAs (an (WE V_ok 0 [] 2 (tn [3, 6, 8, 9, 10, 26, 28] 5) az w4) aN)
      have w1 : WA P 0 (opsX x) 8 (bs 9 2) Φ t1 := WAs (an (WC V_ok 0 (tn [3, 6, 8, 9, 10, 26, 27] 5) i_agent_work_fc0.at_ (i_agent_work_fc0.ok e30) w2) (an (WE V_ok 0 [] 2 (tn [3, 6, 8, 9, 10, 28] 4) az w3) aN))
      have w0 : WA P 0 (opsX x) 9 (bs 9 0) Φ t0 := WT V_ok [] 1 (tn [3, 6, 8, 9, 10, 27] 4) az w1
      exact RA V_ok 9 (by kernel_rfl) (by kernel_rfl) (by kernel_rfl) w0
    · rcases of_ifx H with ⟨hk9, H⟩ | ⟨hk9, H⟩
      · obtain ⟨y47, e48, H⟩ := of_bind H
        let x : Nx := (Px c0 23 [])
        let t0 : St := ⟨110, [(3, .cv (.one (.ptr 0 0))), (6, .cv (.one (.ptr 1 0))), (8, .cv (.one (.ptr 2 0))), (9, .cv (.one (.ptr 3 0))), (10, .cv (.one (.i y3.2.1)))], [(.box 7, (encC .any Tf20b a1)), (.box 7, [.i 0, .i 0, .bool false, .i 0, .i 0, .nils, .i 0]), (.box 8, [.i y1.1.1, .i y1.1.2.1, .bool y1.1.2.2.1, .i y1.1.2.2.2.1, .i y1.1.2.2.2.2.1, .sl T814c y1.1.2.2.2.2.2.1 .any, .i y1.1.2.2.2.2.2.2, .i a3]), (.box 10, (encC .any T4414 y3.1))]⟩
        refine Jm (x' := x) (τ := t0) (tn [3, 6, 8, 9, 10] 4) ?_
        let Φ := phiX P 0 (Q r) x
        let t1 : St := stpS V x 0 [] 1 (tn [3, 6, 8, 9, 10, 27] 4) t0
        let t2 : St := clT V.tt x 0 Go.Proofs.Tryd.f29.results (tn [3, 6, 8, 9, 10, 26, 27] 5) t1 (i_agent_work_fc0.out a1 (0 : Int) (0 : Int) false (0 : Int) (0 : Int) (0 : Int) (y1.1, a3) y3.1 y47)
        let t3 : St := stpS V x 0 [] 2 (tn [3, 6, 8, 9, 10, 28] 4) t1
        let t4 : St := stpS V x 0 [] 2 (tn [3, 6, 8, 9, 10, 26, 28] 5) t2
        let t5 : St := stpS V x 0 [(3, {lu := some 2})] 3 (tn [3, 6, 8, 9, 10, 29] 4) t4
        let t6 : St := stpS V x 0 [] 4 (tn [3, 6, 8, 9, 10, 25] 4) t5
        let t7 : St := stpS V x 0 [] 5 (tn [3, 6, 8, 9, 10, 25, 30] 4) t6
        let t8 : St := stpS V x 0 [] 6 (tn [3, 6, 8, 9, 10, 30, 31] 4) t7
        let t9 : St := stpS V x 0 [] 7 (tn [3, 6, 8, 9, 10, 11, 31] 4) t8
        let t10 : St := stpS V x 0 [] 8 (tn [3, 6, 8, 9, 10, 11, 12] 4) t9
        have w10 : WA P 0 (opsX x) 0 (bs 9 511) Φ t10 := by
          refine WA_nil (by kernel_rfl) (RAn (by kernel_rfl) ?_)
          rcases of_ite H with ⟨hb49, H⟩ | ⟨hb49, H⟩
          · refine Rg V_ok 0 [(1, {bv := some true})] (ac hb49 az) ?_
            exact Jm (tn [3, 6, 8, 9, 11, 37] 4) (j5_ok H)
          · refine Rg V_ok 0 [(1, {bv := some false})] (ac hb49 az) ?_
            exact Jm (tn [3, 6, 8, 9, 11, 37] 4) (j5_ok H)
        have w9 : WA P 0 (opsX x) 1 (bs 9 255) Φ t9 := WT V_ok [] 8 (tn [3, 6, 8, 9, 10, 11, 12] 4) az w10
        have w8 : WA P 0 (opsX x) 2 (bs 9 127) Φ t8 := WT V_ok [] 7 (tn [3, 6, 8, 9, 10, 11, 31] 4) az w9
        have w7 : WA P 0 (opsX x) 3 (bs 9 63) Φ t7 := WT V_ok [] 6 (tn [3, 6, 8, 9, 10, 30, 31] 4) az w8
        have w6 : WA P 0 (opsX x) 4 (bs 9 31) Φ t6 := WT V_ok [] 5 (tn [3, 6, 8, 9, 10, 25, 30] 4) az w7
        have w5 : WA P 0 (opsX x) 5 (bs 9 15) Φ t5 := WT V_ok [] 4 (tn [3, 6, 8, 9, 10, 25] 4) az w6
        have w4 : WA P 0 (opsX x) 6 (bs 9 7) Φ t4 := WAs (an (WE V_ok 0 [(3, {lu := some 2})] 3 (tn [3, 6, 8, 9, 10, 29] 4) (ac hk9 (ac hk7 (ac hk8 az))) w5) aN)
        have w3 : WA P 0 (opsX x) 7 (bs 9 6) Φ t3 := WAs (an (WC V_ok 0 (tn [3, 6, 8, 9, 10, 26, 28] 5) i_agent_work_fc0.at_ (i_agent_work_fc0.ok e48) w4) aN)
        have w2 : WA P 0 (opsX x) 7 (bs 9 3) Φ t2 := WAs (an (WE V_ok 0 [] 2 (tn [3, 6, 8, 9, 10, 26, 28] 5) az w4) aN)
        have w1 : WA P 0 (opsX x) 8 (bs 9 2) Φ t1 := WAs (an (WC V_ok 0 (tn [3, 6, 8, 9, 10, 26, 27] 5) i_agent_work_fc0.at_ (i_agent_work_fc0.ok e48) w2) (an (WE V_ok 0 [] 2 (tn [3, 6, 8, 9, 10, 28] 4) az w3) aN))
        have w0 : WA P 0 (opsX x) 9 (bs 9 0) Φ t0 := WT V_ok [] 1 (tn [3, 6, 8, 9, 10, 27] 4) az w1
        exact RA V_ok 9 (by kernel_rfl) (by kernel_rfl) (by kernel_rfl) w0
      · rcases of_ifx H with ⟨hk10, H⟩ | ⟨hk10, H⟩
        · obtain ⟨y65, e66, H⟩ := of_bind H
          let x : Nx := (Px c0 23 [])
          let t0 : St := ⟨110, [(3, .cv (.one (.ptr 0 0))), (6, .cv (.one (.ptr 1 0))), (8, .cv (.one (.ptr 2 0))), (9, .cv (.one (.ptr 3 0))), (10, .cv (.one (.i y3.2.1)))], [(.box 7, (encC .any Tf20b a1)), (.box 7, [.i 0, .i 0, .bool false, .i 0, .i 0, .nils, .i 0]), (.box 8, [.i y1.1.1, .i y1.1.2.1, .bool y1.1.2.2.1, .i y1.1.2.2.2.1, .i y1.1.2.2.2.2.1, .sl T814c y1.1.2.2.2.2.2.1 .any, .i y1.1.2.2.2.2.2.2, .i a3]), (.box 10, (encC .any T4414 y3.1))]⟩
          refine Jm (x' := x) (τ := t0) (tn [3, 6, 8, 9, 10] 4) ?_
          let Φ := phiX P 0 (Q r) x
          let t1 : St := stpS V x 0 [] 1 (tn [3, 6, 8, 9, 10, 27] 4) t0
          let t2 : St := clT V.tt x 0 Go.Proofs.Tryd.f29.results (tn [3, 6, 8, 9, 10, 26, 27] 5) t1 (i_agent_work_fc0.out a1 (0 : Int) (0 : Int) false (0 : Int) (0 : Int) (0 : Int) (y1.1, a3) y3.1 y65)
          let t3 : St := stpS V x 0 [] 2 (tn [3, 6, 8, 9, 10, 28] 4) t1
          let t4 : St := stpS V x 0 [] 2 (tn [3, 6, 8, 9, 10, 26, 28] 5) t2
          let t5 : St := stpS V x 0 [(3, {lu := some 3})] 3 (tn [3, 6, 8, 9, 10, 29] 4) t4
          let t6 : St := stpS V x 0 [] 4 (tn [3, 6, 8, 9, 10, 25] 4) t5
          let t7 : St := stpS V x 0 [] 5 (tn [3, 6, 8, 9, 10, 25, 30] 4) t6
          let t8 : St := stpS V x 0 [] 6 (tn [3, 6, 8, 9, 10, 30, 31] 4) t7
          let t9 : St := stpS V x 0 [] 7 (tn [3, 6, 8, 9, 10, 11, 31] 4) t8
          let t10 : St := stpS V x 0 [] 8 (tn [3, 6, 8, 9, 10, 11, 12] 4) t9
          have w10 : WA P 0 (opsX x) 0 (bs 9 511) Φ t10 := by
            refine WA_nil (by kernel_rfl) (RAn (by kernel_rfl) ?_)
            rcases of_ite H with ⟨hb67, H⟩ | ⟨hb67, H⟩
            · refine Rg V_ok 0 [(1, {bv := some true})] (ac hb67 az) ?_
              exact Jm (tn [3, 6, 8, 9, 11, 37] 4) (j7_ok H)
            · refine Rg V_ok 0 [(1, {bv := some false})] (ac hb67 az) ?_
              exact Jm (tn [3, 6, 8, 9, 11, 37] 4) (j7_ok H)
          have w9 : WA P 0 (opsX x) 1 (bs 9 255) Φ t9 := WT V_ok [] 8 (tn [3, 6, 8, 9, 10, 11, 12] 4) az w10
          have w8 : WA P 0 (opsX x) 2 (bs 9 127) Φ t8 := WT V_ok [] 7 (tn [3, 6, 8, 9, 10, 11, 31] 4) az w9
          have w7 : WA P 0 (opsX x) 3 (bs 9 63) Φ t7 := WT V_ok [] 6 (tn [3, 6, 8, 9, 10, 30, 31] 4) az w8
          have w6 : WA P 0 (opsX x) 4 (bs 9 31) Φ t6 := WT V_ok [] 5 (tn [3, 6, 8, 9, 10, 25, 30] 4) az w7
          have w5 : WA P 0 (opsX x) 5 (bs 9 15) Φ t5 := WT V_ok [] 4 (tn [3, 6, 8, 9, 10, 25] 4) az w6
          have w4 : WA P 0 (opsX x) 6 (bs 9 7) Φ t4 := WAs (an (WE V_ok 0 [(3, {lu := some 3})] 3 (tn [3, 6, 8, 9, 10, 29] 4) (ac hk10 (ac hk7 (ac hk8 (ac hk9 az)))) w5) aN)
          have w3 : WA P 0 (opsX x) 7 (bs 9 6) Φ t3 := WAs (an (WC V_ok 0 (tn [3, 6, 8, 9, 10, 26, 28] 5) i_agent_work_fc0.at_ (i_agent_work_fc0.ok e66) w4) aN)
          have w2 : WA P 0 (opsX x) 7 (bs 9 3) Φ t2 := WAs (an (WE V_ok 0 [] 2 (tn [3, 6, 8, 9, 10, 26, 28] 5) az w4) aN)
          have w1 : WA P 0 (opsX x) 8 (bs 9 2) Φ t1 := WAs (an (WC V_ok 0 (tn [3, 6, 8, 9, 10, 26, 27] 5) i_agent_work_fc0.at_ (i_agent_work_fc0.ok e66) w2) (an (WE V_ok 0 [] 2 (tn [3, 6, 8, 9, 10, 28] 4) az w3) aN))
          have w0 : WA P 0 (opsX x) 9 (bs 9 0) Φ t0 := WT V_ok [] 1 (tn [3, 6, 8, 9, 10, 27] 4) az w1
          exact RA V_ok 9 (by kernel_rfl) (by kernel_rfl) (by kernel_rfl) w0
        · obtain ⟨y83, e84, H⟩ := of_bind H
          let x : Nx := (Px c0 23 [])
          let t0 : St := ⟨110, [(3, .cv (.one (.ptr 0 0))), (6, .cv (.one (.ptr 1 0))), (8, .cv (.one (.ptr 2 0))), (9, .cv (.one (.ptr 3 0))), (10, .cv (.one (.i y3.2.1)))], [(.box 7, (encC .any Tf20b a1)), (.box 7, [.i 0, .i 0, .bool false, .i 0, .i 0, .nils, .i 0]), (.box 8, [.i y1.1.1, .i y1.1.2.1, .bool y1.1.2.2.1, .i y1.1.2.2.2.1, .i y1.1.2.2.2.2.1, .sl T814c y1.1.2.2.2.2.2.1 .any, .i y1.1.2.2.2.2.2.2, .i a3]), (.box 10, (encC .any T4414 y3.1))]⟩
          refine Jm (x' := x) (τ := t0) (tn [3, 6, 8, 9, 10] 4) ?_
          let Φ := phiX P 0 (Q r) x
          let t1 : St := stpS V x 0 [] 1 (tn [3, 6, 8, 9, 10, 27] 4) t0
          let t2 : St := clT V.tt x 0 Go.Proofs.Tryd.f29.results (tn [3, 6, 8, 9, 10, 26, 27] 5) t1 (i_agent_work_fc0.out a1 (0 : Int) (0 : Int) false (0 : Int) (0 : Int) (0 : Int) (y1.1, a3) y3.1 y83)
          let t3 : St := stpS V x 0 [] 2 (tn [3, 6, 8, 9, 10, 28] 4) t1
          let t4 : St := stpS V x 0 [] 2 (tn [3, 6, 8, 9, 10, 26, 28] 5) t2
          let t5 : St := stpS V x 0 [] 3 (tn [3, 6, 8, 9, 10, 29] 4) t4
          let t6 : St := stpS V x 0 [] 4 (tn [3, 6, 8, 9, 10, 25] 4) t5
          let t7 : St := stpS V x 0 [] 5 (tn [3, 6, 8, 9, 10, 25, 30] 4) t6
          let t8 : St := stpS V x 0 [] 6 (tn [3, 6, 8, 9, 10, 30, 31] 4) t7
          let t9 : St := stpS V x 0 [] 7 (tn [3, 6, 8, 9, 10, 11, 31] 4) t8
          let t10 : St := stpS V x 0 [] 8 (tn [3, 6, 8, 9, 10, 11, 12] 4) t9
          have w10 : WA P 0 (opsX x) 0 (bs 9 511) Φ t10 := by
            refine WA_nil (by kernel_rfl) (RAn (by kernel_rfl) ?_)
            rcases of_ite H with ⟨hb85, H⟩ | ⟨hb85, H⟩
            · refine Rg V_ok 0 [(1, {bv := some true})] (ac hb85 az) ?_
              exact Jm (tn [3, 6, 8, 9, 11, 37] 4) (j9_ok H)
            · refine Rg V_ok 0 [(1, {bv := some false})] (ac hb85 az) ?_
              exact Jm (tn [3, 6, 8, 9, 11, 37] 4) (j9_ok H)
          have w9 : WA P 0 (opsX x) 1 (bs 9 255) Φ t9 := WT V_ok [] 8 (tn [3, 6, 8, 9, 10, 11, 12] 4) az w10
          have w8 : WA P 0 (opsX x) 2 (bs 9 127) Φ t8 := WT V_ok [] 7 (tn [3, 6, 8, 9, 10, 11, 31] 4) az w9
          have w7 : WA P 0 (opsX x) 3 (bs 9 63) Φ t7 := WT V_ok [] 6 (tn [3, 6, 8, 9, 10, 30, 31] 4) az w8
          have w6 : WA P 0 (opsX x) 4 (bs 9 31) Φ t6 := WT V_ok [] 5 (tn [3, 6, 8, 9, 10, 25, 30] 4) az w7
          have w5 : WA P 0 (opsX x) 5 (bs 9 15) Φ t5 := WT V_ok [] 4 (tn [3, 6, 8, 9, 10, 25] 4) az w6
          have w4 : WA P 0 (opsX x) 6 (bs 9 7) Φ t4 := WAs (an (WE V_ok 0 [] 3 (tn [3, 6, 8, 9, 10, 29] 4) (ac hk7 (ac hk8 (ac hk9 (ac hk10 az)))) w5) aN)
          have w3 : WA P 0 (opsX x) 7 (bs 9 6) Φ t3 := WAs (an (WC V_ok 0 (tn [3, 6, 8, 9, 10, 26, 28] 5) i_agent_work_fc0.at_ (i_agent_work_fc0.ok e84) w4) aN)
          have w2 : WA P 0 (opsX x) 7 (bs 9 3) Φ t2 := WAs (an (WE V_ok 0 [] 2 (tn [3, 6, 8, 9, 10, 26, 28] 5) az w4) aN)
          have w1 : WA P 0 (opsX x) 8 (bs 9 2) Φ t1 := WAs (an (WC V_ok 0 (tn [3, 6, 8, 9, 10, 26, 27] 5) i_agent_work_fc0.at_ (i_agent_work_fc0.ok e84) w2) (an (WE V_ok 0 [] 2 (tn [3, 6, 8, 9, 10, 28] 4) az w3) aN))
          have w0 : WA P 0 (opsX x) 9 (bs 9 0) Φ t0 := WT V_ok [] 1 (tn [3, 6, 8, 9, 10, 27] 4) az w1
          exact RA V_ok 9 (by kernel_rfl) (by kernel_rfl) (by kernel_rfl) w0
theorem fits : Fits P 10 S := fits_of V_ok Go.Proofs.Tryd.func10 (by kernel_rfl) (by decide) (by decide) rfl (fun x r ⟨k, H⟩ => of_G (f_ok H))
end f_agent_Handle
/-! ### function 7, wayfinder/wayfinderlaw17.awake -/
namespace f_law17_awake
noncomputable def c0 : Code := (Go.Proofs.Tryd.f7.body).getD .skip
abbrev ps : Sg := []
abbrev rs : Sg := [(false, .bool)]
noncomputable def V : Env := { tt := tt, Γ := slk [(9, f_frame_Seal.S), (10, f_agent_Handle.S), (12, f_frame_Open.S), (15, f_agent_New.S)] }
theorem V_ok : EnvOk P V := { ck := tt_ck, fits := slk_cons f_frame_Seal.fits (slk_cons f_agent_Handle.fits (slk_cons f_frame_Open.fits (slk_cons f_agent_New.fits (slk_nil)))), mixed := mixed }
abbrev R := Tup rs
noncomputable abbrev Q (r : R) : Exit → St → Prop := Qr tt Go.Proofs.Tryd.f7.results ⟨ps, rs, .any, none, fun _ _ => True⟩ r
noncomputable def f (k : Nat) : Option R :=
  (f_frame_Seal.f k (5, (1, (1, (0, ((0, 0), (0, (0, (0, 0))))))))).bind fun y1 =>
    (f_agent_New.f k).bind fun y3 =>
      (f_agent_Handle.f k y3.1 y1.1 (9 : Int)).bind fun y4 =>
        if ((y4.2.1.length : Int) != (1 : Int)) = true then
          some (false, ())
        else
          if (0 : Int) < (y4.2.1.length : Int) then
            (f_frame_Open.f k (att (.slice (.int .u8)) y4.2.1 0)).bind fun y8 =>
              if y4.1.2.2.1 = true then
                if (y4.1.2.1 == (1 : Int)) = true then
                  if (y8.2.1 == (0 : Int)) = true then
                    some (((y8.1.1 == (1 : Int)) && ((y8.1.2.1 == (1 : Int)) && ((y8.1.2.2.1 == (1 : Int)) && ((y8.1.2.2.2.1 == (0 : Int)) && ((y8.1.2.2.2.2.1.1 == (0 : Int)) && ((y8.1.2.2.2.2.1.2 == (0 : Int)) && ((y8.1.2.2.2.2.2.1 == (0 : Int)) && ((y8.1.2.2.2.2.2.2.1 == (0 : Int)) && ((y8.1.2.2.2.2.2.2.2.1 == (0 : Int)) && ((y8.1.2.2.2.2.2.2.2.2 == (0 : Int)) && true)))))))))), ())
                  else
                    some (false, ())
                else
                  some (false, ())
              else
                some (false, ())
          else none
noncomputable def S : Spec := ⟨ps, rs, .any, none, fun x r => ∃ k, f k = some r⟩
theorem rl {k r} (e : f k = some r) : S.rel (()) r := ⟨k, e⟩
theorem f_ok {r k} (H : f k = some r) : Gw P 0 (Q r) (Px c0 1 []) (⟨44, [], []⟩) := by
  unfold f at H
  refine Rg V_ok 0 [] az ?_
  obtain ⟨y1, e2, H⟩ := of_bind H
  refine Rg V_ok 0 [(1, hr f_frame_Seal.S y1)] (ac (f_frame_Seal.rl e2) az) ?_
  obtain ⟨y3, e5, H⟩ := of_bind H
  obtain ⟨y4, e6, H⟩ := of_bind H
  refine Rg V_ok 1 [(0, hr f_agent_New.S y3), (2, hr f_agent_Handle.S y4), (6, hb 0)] (ac (f_agent_New.rl e5) (ac (f_agent_Handle.rl e6) az)) ?_
  refine Rg V_ok 0 [] az ?_
  rcases of_ite H with ⟨hb7, H⟩ | ⟨hb7, H⟩
  · refine C1 hb7 ?_
    refine Rg V_ok 0 [] az ?_
    exact Lf (Eq.trans (by kernel_rfl) H)
  · refine C0 hb7 ?_
    obtain ⟨n9, H⟩ := of_if H
    obtain ⟨y8, e10, H⟩ := of_bind H
    refine Rg V_ok 1 [(3, hr f_frame_Open.S y8), (7, hb 1)] (ac (show 0 ≤ (0 : Int) by decide) (ac n9 (ac (f_frame_Open.rl e10) az))) ?_
    rcases of_ite H with ⟨hb11, H⟩ | ⟨hb11, H⟩
    · rcases of_ite H with ⟨hb12, H⟩ | ⟨hb12, H⟩
      · rcases of_ite H with ⟨hb13, H⟩ | ⟨hb13, H⟩
        · refine Rg V_ok 0 [(1, {bv := some true}), (6, {bv := some true}), (10, {bv := some true})] (ac hb11 (ac hb12 (ac hb13 az))) ?_
          exact Lf (Eq.trans (by kernel_rfl) H)
        · refine Rg V_ok 0 [(1, {bv := some true}), (6, {bv := some true}), (10, {bv := some false})] (ac hb11 (ac hb12 (ac hb13 az))) ?_
          exact Lf (Eq.trans (by kernel_rfl) H)
      · refine Rg V_ok 0 [(1, {bv := some true}), (6, {bv := some false})] (ac hb11 (ac hb12 az)) ?_
        exact Lf (Eq.trans (by kernel_rfl) H)
    · refine Rg V_ok 0 [(1, {bv := some false})] (ac hb11 az) ?_
      exact Lf (Eq.trans (by kernel_rfl) H)
theorem fits : Fits P 7 S := fits_of V_ok Go.Proofs.Tryd.func7 (by kernel_rfl) (by decide) (by decide) rfl (fun x r ⟨k, H⟩ => of_G (f_ok H))
end f_law17_awake
/-! ### function 8, wayfinder/wayfinderlaw09.Few -/
namespace f_law09_Few
noncomputable def c0 : Code := (Go.Proofs.Tryd.f8.body).getD .skip
abbrev ps : Sg := [(false, (.slice T814c))]
abbrev rs : Sg := [(false, .bool)]
noncomputable def V : Env := { tt := tt, Γ := slk [] }
theorem V_ok : EnvOk P V := { ck := tt_ck, fits := slk_nil, mixed := mixed }
abbrev R := Tup rs
noncomputable abbrev Q (r : R) : Exit → St → Prop := Qr tt Go.Proofs.Tryd.f8.results ⟨ps, rs, .any, none, fun _ _ => True⟩ r
noncomputable def s1 (p1 : List T814c.T) (p2 : Int) : St := ⟨20, [(0, .cv (.one (.sl T814c p1 .any))), (3, .cv (.one (.i p2)))], []⟩
noncomputable def b1 (L1 : List T814c.T → Int → Option R) (k : Nat) (p1 : List T814c.T) (p2 : Int) : Option R :=
  if (decide (p2 < (p1.length : Int))) = true then
  if 0 ≤ p2 then
    if p2 < (p1.length : Int) then
      if (decide ((((att T814c p1 p2).2).length : Int) > (60 : Int))) = true then
        some (false, ())
      else
        L1 p1 (IntKind.i64.wrap (p2 + 1))
    else none
  else none
else
  some (true, ())
theorem b1_ok {r} {L1 : List T814c.T → Int → Option R} {m1 : Nat} (hL1 : ∀ p1 p2, L1 p1 p2 = some r → Gw P 0 (Q r) (Pb c0 43 [] m1) (s1 p1 p2)) {k p1 p2} (H : b1 L1 k p1 p2 = some r) : Gw P 0 (Q r) (Px c0 75 [m1]) (s1 p1 p2) := by
  unfold b1 at H
  refine Rg V_ok 0 [] az ?_
  rcases of_ite H with ⟨hb2, H⟩ | ⟨hb2, H⟩
  · refine C1 hb2 ?_
    obtain ⟨n3, H⟩ := of_if H
    obtain ⟨n4, H⟩ := of_if H
    refine Rg V_ok 0 [] (ac n3 (ac n4 az)) ?_
    rcases of_ite H with ⟨hb5, H⟩ | ⟨hb5, H⟩
    · refine C1 hb5 ?_
      refine Rg V_ok 0 [] az ?_
      exact Lf (Eq.trans (by kernel_rfl) H)
    · refine C0 hb5 ?_
      refine Rg V_ok 0 [] az ?_
      exact Jm (tn [0, 3] 0) (hL1 p1 (IntKind.i64.wrap (p2 + 1)) H)
  · refine C0 hb2 ?_
    refine Rg V_ok 0 [] az ?_
    exact Lf (Eq.trans (by kernel_rfl) H)
noncomputable def l1 (k : Nat) : Nat → List T814c.T → Int → Option R
  | 0, _, _ => none
  | m + 1, p1, p2 => b1 (l1 k m) k p1 p2
theorem l1_ok {r} (k : Nat) : ∀ (m1 : Nat) (p1 : List T814c.T) (p2 : Int), l1 k m1 p1 p2 = some r → Gw P 0 (Q r) (Pb c0 43 [] m1) (s1 p1 p2)
  | 0, _, _, H => by cases H
  | m1 + 1, p1, p2, H => SU (by kernel_rfl) (b1_ok (l1_ok k m1) H)
noncomputable def f (k : Nat) (a1 : List T814c.T) : Option R :=
  if (decide ((a1.length : Int) > (20 : Int))) = true then
    some (false, ())
  else
    l1 k k a1 0
noncomputable def S : Spec := ⟨ps, rs, .any, none, fun x r => ∃ k, f k x.1 = some r⟩
theorem rl {k a1 r} (e : f k a1 = some r) : S.rel (a1, ()) r := ⟨k, e⟩
theorem f_ok {r k a1} (H : f k a1 = some r) : Gw P 0 (Q r) (Px c0 1 []) (⟨20, [(0, .cv (.one (.sl T814c a1 .any)))], []⟩) := by
  unfold f at H
  refine Rg V_ok 0 [] az ?_
  refine Rg V_ok 0 [] az ?_
  rcases of_ite H with ⟨hb1, H⟩ | ⟨hb1, H⟩
  · refine C1 hb1 ?_
    refine Rg V_ok 0 [] az ?_
    exact Lf (Eq.trans (by kernel_rfl) H)
  · refine C0 hb1 ?_
    refine Rg V_ok 0 [] az ?_
    exact LP k (Jm (tn [0, 3] 0) (l1_ok k k a1 0 H))
theorem fits : Fits P 8 S := fits_of V_ok Go.Proofs.Tryd.func8 (by kernel_rfl) (by decide) (by decide) rfl (fun x r ⟨k, H⟩ => of_G (f_ok H))
end f_law09_Few
/-! ### function 3, wayfinder/wayfinderlaw17.AgentHails -/
namespace f_law17_AgentHails
noncomputable def c0 : Code := (Go.Proofs.Tryd.f3.body).getD .skip
abbrev ps : Sg := [(true, Tf20b), (true, T4414)]
abbrev rs : Sg := [(false, .bool)]
noncomputable def V : Env := { tt := tt, Γ := slk [(7, f_law17_awake.S), (8, f_law09_Few.S), (9, f_frame_Seal.S), (10, f_agent_Handle.S), (11, f_agent_Hail.S), (12, f_frame_Open.S)] }
theorem V_ok : EnvOk P V := { ck := tt_ck, fits := slk_cons f_law17_awake.fits (slk_cons f_law09_Few.fits (slk_cons f_frame_Seal.fits (slk_cons f_agent_Handle.fits (slk_cons f_agent_Hail.fits (slk_cons f_frame_Open.fits (slk_nil)))))), mixed := mixed }
abbrev R := Tup rs
noncomputable abbrev Q (r : R) : Exit → St → Prop := Qr tt Go.Proofs.Tryd.f3.results ⟨ps, rs, .any, none, fun _ _ => True⟩ r
noncomputable def s1 (p1 : Bool) (p2 : List Int) (p3 : Bool) (p4 : Tf20b.T) : St := ⟨100, [(2, .cv (.one (.ptr 0 0))), (5, .cv (.one (.bool p1))), (7, .cv (.one (.sl (.int .u8) p2 .any))), (63, .cv (.one (.bool p3)))], [(.box 7, (encC .any Tf20b p4))]⟩
noncomputable def s2 (p1 : List (List Int)) (p2 : Bool) (p3 : Tf20b.T) : St := ⟨100, [(2, .cv (.one (.ptr 0 0))), (10, .cv (.one (.sl (.slice (.int .u8)) p1 .any))), (83, .cv (.one (.bool p2)))], [(.box 7, (encC .any Tf20b p3))]⟩
noncomputable def j2 (k : Nat) (p1 : List (List Int)) (p2 : Bool) (p3 : Tf20b.T) : Option R :=
  if p2 = true then
  some (false, ())
else
  if (0 : Int) < (p1.length : Int) then
    (f_frame_Open.f k (att (.slice (.int .u8)) p1 0)).bind fun y14 =>
      if (y14.2.1 == (0 : Int)) = true then
        some (((y14.1.1 == (0 : Int)) && ((y14.1.2.1 == p3.1) && ((y14.1.2.2.1 == (0 : Int)) && ((y14.1.2.2.2.1 == (0 : Int)) && ((y14.1.2.2.2.2.1.1 == (0 : Int)) && ((y14.1.2.2.2.2.1.2 == (0 : Int)) && ((y14.1.2.2.2.2.2.1 == (0 : Int)) && ((y14.1.2.2.2.2.2.2.1 == (0 : Int)) && ((y14.1.2.2.2.2.2.2.2.1 == (0 : Int)) && ((y14.1.2.2.2.2.2.2.2.2 == (0 : Int)) && true)))))))))), ())
      else
        some (false, ())
  else none
theorem j2_ok {r} {k p1 p2 p3} (H : j2 k p1 p2 p3 = some r) : Gw P 0 (Q r) (Px c0 447 []) (s2 p1 p2 p3) := by
  unfold j2 at H
  rcases of_ite H with ⟨hb13, H⟩ | ⟨hb13, H⟩
  · refine C1 hb13 ?_
    refine Rg V_ok 0 [] az ?_
    exact Lf (Eq.trans (by kernel_rfl) H)
  · refine C0 hb13 ?_
    obtain ⟨n15, H⟩ := of_if H
    obtain ⟨y14, e16, H⟩ := of_bind H
    refine Rg V_ok 1 [(3, hr f_frame_Open.S y14), (7, hb 1)] (ac (show 0 ≤ (0 : Int) by decide) (ac n15 (ac (f_frame_Open.rl e16) az))) ?_
    rcases of_ite H with ⟨hb17, H⟩ | ⟨hb17, H⟩
    · refine Rg V_ok 0 [(1, {bv := some true})] (ac hb17 az) ?_
      exact Lf (Eq.trans (by kernel_rfl) H)
    · refine Rg V_ok 0 [(1, {bv := some false})] (ac hb17 az) ?_
      exact Lf (Eq.trans (by kernel_rfl) H)
noncomputable def j1 (k : Nat) (p1 : Bool) (p2 : List Int) (p3 : Bool) (p4 : Tf20b.T) : Option R :=
  if p3 = true then
  some (p1, ())
else
  (f_agent_Handle.f k p4 p2 (40 : Int)).bind fun y9 =>
    if ((y9.2.1.length : Int) != (1 : Int)) = true then
      j2 k y9.2.1 true p4
    else
      if (0 : Int) < (y9.2.1.length : Int) then
        (f_agent_Hail.f k p4).bind fun y11 =>
          j2 k y9.2.1 (!(strEq (att (.slice (.int .u8)) y9.2.1 0) y11.1)) p4
      else none
theorem j1_ok {r} {k p1 p2 p3 p4} (H : j1 k p1 p2 p3 p4 = some r) : Gw P 0 (Q r) (Px c0 111 []) (s1 p1 p2 p3 p4) := by
  unfold j1 at H
  rcases of_ite H with ⟨hb8, H⟩ | ⟨hb8, H⟩
  · refine C1 hb8 ?_
    refine Rg V_ok 0 [] az ?_
    exact Lf (Eq.trans (by kernel_rfl) H)
  · refine C0 hb8 ?_
    obtain ⟨y9, e10, H⟩ := of_bind H
    refine Rg V_ok 1 [(2, hr f_agent_Handle.S y9), (6, hb 1)] (ac (f_agent_Handle.rl e10) az) ?_
    rcases of_ite H with ⟨hb12, H⟩ | ⟨hb12, H⟩
    · refine Rg V_ok 0 [(2, {bv := some true})] (ac hb12 az) ?_
      exact Jm (tn [2, 10, 83] 1) (j2_ok H)
    · obtain ⟨n18, H⟩ := of_if H
      obtain ⟨y11, e19, H⟩ := of_bind H
      refine Rg V_ok 0 [(2, {bv := some false}), (9, hr f_agent_Hail.S y11)] (ac hb12 (ac (show 0 ≤ (0 : Int) by decide) (ac n18 (ac (f_agent_Hail.rl e19) az)))) ?_
      exact Jm (tn [2, 10, 83] 1) (j2_ok H)
noncomputable def f (k : Nat) (a1 : Tf20b.T) (a2 : T4414.T) : Option R :=
  (f_law17_awake.f k).bind fun y1 =>
    (f_law09_Few.f k a1.2.2.2.2.2.1).bind fun y3 =>
      (f_frame_Seal.f k a2).bind fun y5 =>
        if (!y1.1) = true then
          j1 k y1.1 y5.1 true a1
        else
          if (!y3.1) = true then
            j1 k y1.1 y5.1 true a1
          else
            if (y5.2.1 != (0 : Int)) = true then
              j1 k y1.1 y5.1 true a1
            else
              if (decide (a1.1 < (1 : Int))) = true then
                j1 k y1.1 y5.1 true a1
              else
                if (decide (a1.1 > (1000 : Int))) = true then
                  j1 k y1.1 y5.1 true a1
                else
                  if (decide (a1.2.1 > (1099511627776 : Int))) = true then
                    j1 k y1.1 y5.1 true a1
                  else
                    if (a2.1 == (0 : Int)) = true then
                      j1 k y1.1 y5.1 true a1
                    else
                      if (a2.1 == (1 : Int)) = true then
                        j1 k y1.1 y5.1 true a1
                      else
                        j1 k y1.1 y5.1 (a2.2.1 == a1.1) a1
noncomputable def S : Spec := ⟨ps, rs, .any, none, fun x r => ∃ k, f k x.1 x.2.1 = some r⟩
theorem rl {k a1 a2 r} (e : f k a1 a2 = some r) : S.rel (a1, a2, ()) r := ⟨k, e⟩
theorem f_ok {r k a1 a2} (H : f k a1 a2 = some r) : Gw P 0 (Q r) (Px c0 1 []) (⟨100, [(0, .cv (.agg (encC .any Tf20b a1))), (1, .cv (.agg (encC .any T4414 a2)))], []⟩) := by
  unfold f at H
  refine Rg V_ok 2 [(0, hb 0), (1, hb 1)] az ?_
  obtain ⟨y1, e2, H⟩ := of_bind H
  refine Rg V_ok 0 [(0, hr f_law17_awake.S y1)] (ac (f_law17_awake.rl e2) az) ?_
  obtain ⟨y3, e4, H⟩ := of_bind H
  refine Rg V_ok 0 [(2, hr f_law09_Few.S y3)] (ac (f_law09_Few.rl e4) az) ?_
  obtain ⟨y5, e6, H⟩ := of_bind H
  refine Rg V_ok 0 [(1, hr f_frame_Seal.S y5)] (ac (f_frame_Seal.rl e6) az) ?_
  rcases of_ite H with ⟨hb7, H⟩ | ⟨hb7, H⟩
  · refine Rg V_ok 0 [(1, {bv := some true})] (ac hb7 az) ?_
    exact Jm (tn [2, 5, 7, 63] 1) (j1_ok H)
  · rcases of_ite H with ⟨hb20, H⟩ | ⟨hb20, H⟩
    · refine Rg V_ok 0 [(1, {bv := some false}), (5, {bv := some true})] (ac hb7 (ac hb20 az)) ?_
      exact Jm (tn [2, 5, 7, 63] 1) (j1_ok H)
    · rcases of_ite H with ⟨hb21, H⟩ | ⟨hb21, H⟩
      · refine Rg V_ok 0 [(1, {bv := some false}), (5, {bv := some false}), (9, {bv := some true})] (ac hb7 (ac hb20 (ac hb21 az))) ?_
        exact Jm (tn [2, 5, 7, 63] 1) (j1_ok H)
      · rcases of_ite H with ⟨hb22, H⟩ | ⟨hb22, H⟩
        · refine Rg V_ok 0 [(1, {bv := some false}), (5, {bv := some false}), (9, {bv := some false}), (14, {bv := some true})] (ac hb7 (ac hb20 (ac hb21 (ac hb22 az)))) ?_
          exact Jm (tn [2, 5, 7, 63] 1) (j1_ok H)
        · rcases of_ite H with ⟨hb23, H⟩ | ⟨hb23, H⟩
          · refine Rg V_ok 0 [(1, {bv := some false}), (5, {bv := some false}), (9, {bv := some false}), (14, {bv := some false}), (19, {bv := some true})] (ac hb7 (ac hb20 (ac hb21 (ac hb22 (ac hb23 az))))) ?_
            exact Jm (tn [2, 5, 7, 63] 1) (j1_ok H)
          · rcases of_ite H with ⟨hb24, H⟩ | ⟨hb24, H⟩
            · refine Rg V_ok 0 [(1, {bv := some false}), (5, {bv := some false}), (9, {bv := some false}), (14, {bv := some false}), (19, {bv := some false}), (24, {bv := some true})] (ac hb7 (ac hb20 (ac hb21 (ac hb22 (ac hb23 (ac hb24 az)))))) ?_
              exact Jm (tn [2, 5, 7, 63] 1) (j1_ok H)
            · rcases of_ite H with ⟨hb25, H⟩ | ⟨hb25, H⟩
              · refine Rg V_ok 0 [(1, {bv := some false}), (5, {bv := some false}), (9, {bv := some false}), (14, {bv := some false}), (19, {bv := some false}), (24, {bv := some false}), (29, {bv := some true})] (ac hb7 (ac hb20 (ac hb21 (ac hb22 (ac hb23 (ac hb24 (ac hb25 az))))))) ?_
                exact Jm (tn [2, 5, 7, 63] 1) (j1_ok H)
              · rcases of_ite H with ⟨hb26, H⟩ | ⟨hb26, H⟩
                · refine Rg V_ok 0 [(1, {bv := some false}), (5, {bv := some false}), (9, {bv := some false}), (14, {bv := some false}), (19, {bv := some false}), (24, {bv := some false}), (29, {bv := some false}), (34, {bv := some true})] (ac hb7 (ac hb20 (ac hb21 (ac hb22 (ac hb23 (ac hb24 (ac hb25 (ac hb26 az)))))))) ?_
                  exact Jm (tn [2, 5, 7, 63] 1) (j1_ok H)
                · refine Rg V_ok 0 [(1, {bv := some false}), (5, {bv := some false}), (9, {bv := some false}), (14, {bv := some false}), (19, {bv := some false}), (24, {bv := some false}), (29, {bv := some false}), (34, {bv := some false})] (ac hb7 (ac hb20 (ac hb21 (ac hb22 (ac hb23 (ac hb24 (ac hb25 (ac hb26 az)))))))) ?_
                  exact Jm (tn [2, 5, 7, 63] 1) (j1_ok H)
theorem fits : Fits P 3 S := fits_of V_ok Go.Proofs.Tryd.func3 (by kernel_rfl) (by decide) (by decide) rfl (fun x r ⟨k, H⟩ => of_G (f_ok H))
end f_law17_AgentHails
end Go.Proofs.YthfdkmbijjkmaaaDoor.V
