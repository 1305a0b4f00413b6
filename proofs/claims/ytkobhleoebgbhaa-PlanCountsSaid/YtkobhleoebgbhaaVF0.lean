/- Functions of the program, as Lean functions, and that the code answers so. Printed by vgen.py. -/
import Derived.Test.YtkobhleoebgbhaaVBase
namespace Go.Proofs.Ytkobhleoebgbhaa.V
open Go Go.RowKit
set_option linter.unusedVariables false
set_option linter.unusedSimpArgs false
set_option maxRecDepth 100000
/-! ### f_sess_New: function 13, wayfinder/sess.New -/
abbrev f_sess_New.ps : Sg := [(false, (.int .i64))]
abbrev f_sess_New.rs : Sg := [(true, Tb104)]
noncomputable def f_sess_New.c0 : Code := (Go.Proofs.Try.f13.body).getD .skip
noncomputable def f_sess_New.G : List (Nat × Spec) := []
noncomputable def f_sess_New.V : Env := { tt := tt, Γ := slk f_sess_New.G }
noncomputable abbrev f_sess_New.Q (r : Tup f_sess_New.rs) : Exit → St → Prop := Qr tt Go.Proofs.Try.f13.results ⟨f_sess_New.ps, f_sess_New.rs, .any, none, fun _ _ => True⟩ r
abbrev f_sess_New.R := Tup f_sess_New.rs
noncomputable def f_sess_New.f (k : Nat) (a1 : Int) : Option f_sess_New.R :=
  some ((a1, (1, [])), ())
noncomputable def f_sess_New.S : Spec := ⟨f_sess_New.ps, f_sess_New.rs, .any, none, fun x r => ∃ k, f_sess_New.f k x.1 = some r⟩
theorem f_sess_New.f_ok (hV : EnvOk P f_sess_New.V) {r : f_sess_New.R} (k : Nat) (a1 : Int) (H : f_sess_New.f k a1 = some r) : W P 0 f_sess_New.c0 (⟨5, [(0, .cv (.one (.int .i64 a1)))], []⟩) (f_sess_New.Q r) := by
  unfold f_sess_New.f at H
  refine D_seq (by kernel_rfl) ?_
  refine D_reg (cs := []) (τ := ⟨5, [(0, .cv (.one (.int .i64 a1))), (2, .cv (.one (.ptr 0 0)))], [(.box 3, [.int .i64 0, .int .i64 0, .nils])]⟩) hV 1 [(0, {sb := 0})] {live := [0, 2], src := [some 0]} (by kernel_rfl) (by kernel_rfl) trivial ?_
  refine th_n ?_
  refine D_seq (by kernel_rfl) ?_
  refine D_reg (cs := []) (τ := ⟨5, [(2, .cv (.one (.ptr 0 0)))], [(.box 3, [.int .i64 a1, .int .i64 1, .nils])]⟩) hV 0 [] {live := [2], src := [some 0]} (by kernel_rfl) (by kernel_rfl) trivial ?_
  refine th_n ?_
  refine D_ret (by kernel_rfl) ?_
  exact lf_r (Eq.trans (by kernel_rfl) H)
theorem f_sess_New.V_ok : EnvOk P f_sess_New.V := { ck := tt_ck, fits := slk_nil, mixed := mixed }
theorem f_sess_New.fits : Fits P 13 f_sess_New.S := fits_of f_sess_New.V_ok Go.Proofs.Try.func13 (by kernel_rfl) (by decide) (by decide) rfl (fun x r ⟨k, H⟩ => f_sess_New.f_ok f_sess_New.V_ok k x.1 H)
/-! ### f_sess_own: function 35, wayfinder/sess.own -/
abbrev f_sess_own.ps : Sg := [(true, Tb104)]
abbrev f_sess_own.rs : Sg := [(true, Tb104)]
noncomputable def f_sess_own.c0 : Code := (Go.Proofs.Try.f35.body).getD .skip
noncomputable def f_sess_own.G : List (Nat × Spec) := []
noncomputable def f_sess_own.V : Env := { tt := tt, Γ := slk f_sess_own.G }
noncomputable abbrev f_sess_own.Q (r : Tup f_sess_own.rs) : Exit → St → Prop := Qr tt Go.Proofs.Try.f35.results ⟨f_sess_own.ps, f_sess_own.rs, .any, none, fun _ _ => True⟩ r
abbrev f_sess_own.R := Tup f_sess_own.rs
noncomputable def f_sess_own.f (k : Nat) (a1 : Tb104.T) : Option f_sess_own.R :=
  if 0 ≤ (a1.2.2.length : Int) ∧ (a1.2.2.length : Int) = (a1.2.2.length : Int) ∧ (80 : Int) * (a1.2.2.length : Int) ≤ 140737488355328 ∧ (a1.2.2.length : Int) ≤ 140737488355328 then
    if a1.2.2.length = (List.replicate (a1.2.2.length : Int).toNat ((0, (0, (0, (0, ((0, 0), (0, (0, (0, 0)))))))) : T4414.T)).length then
      some (a1, ())
    else none
  else none
noncomputable def f_sess_own.S : Spec := ⟨f_sess_own.ps, f_sess_own.rs, .any, none, fun x r => ∃ k, f_sess_own.f k x.1 = some r⟩
theorem f_sess_own.f_ok (hV : EnvOk P f_sess_own.V) {r : f_sess_own.R} (k : Nat) (a1 : Tb104.T) (H : f_sess_own.f k a1 = some r) : W P 0 f_sess_own.c0 (⟨15, [(0, .cv (.agg [.int .i64 a1.1, .int .i64 a1.2.1, .sl T4414 a1.2.2 .any]))], []⟩) (f_sess_own.Q r) := by
  unfold f_sess_own.f at H
  refine D_seq (by kernel_rfl) ?_
  refine D_reg (cs := []) (τ := ⟨15, [(1, .cv (.one (.ptr 0 0))), (2, .cv (.one (.ptr 1 0)))], [(.box 3, [.int .i64 a1.1, .int .i64 a1.2.1, .sl T4414 a1.2.2 .any]), (.box 3, [.int .i64 0, .int .i64 0, .nils])]⟩) hV 2 [(0, {sb := 0}), (1, {sb := 1})] {live := [1, 2], src := [some 0, some 1]} (by kernel_rfl) (by kernel_rfl) trivial ?_
  refine th_n ?_
  refine D_seq (by kernel_rfl) ?_
  obtain ⟨n1, H⟩ := of_if H
  refine D_reg (cs := [0 ≤ (a1.2.2.length : Int) ∧ (a1.2.2.length : Int) = (a1.2.2.length : Int) ∧ (80 : Int) * (a1.2.2.length : Int) ≤ 140737488355328 ∧ (a1.2.2.length : Int) ≤ 140737488355328]) (τ := ⟨15, [(1, .cv (.one (.ptr 0 0))), (2, .cv (.one (.ptr 1 0))), (3, .cv (.one (.own 2)))], [(.box 3, [.int .i64 a1.1, .int .i64 a1.2.1, .sl T4414 a1.2.2 .any]), (.box 3, [.int .i64 0, .int .i64 0, .nils]), (.buf 41 T4414 (List.replicate (a1.2.2.length : Int).toNat ((0, (0, (0, (0, ((0, 0), (0, (0, (0, 0)))))))) : T4414.T)), [])]⟩) hV 1 [(3, {sb := 2})] {live := [1, 2, 3], src := [some 0, some 1, some 2]} (by kernel_rfl) (by kernel_rfl) ⟨n1, trivial⟩ ?_
  refine th_n ?_
  refine D_seq (by kernel_rfl) ?_
  obtain ⟨n2, H⟩ := of_if H
  refine D_reg (cs := [a1.2.2.length = (List.replicate (a1.2.2.length : Int).toNat ((0, (0, (0, (0, ((0, 0), (0, (0, (0, 0)))))))) : T4414.T)).length]) (τ := ⟨15, [(1, .cv (.one (.ptr 0 0))), (2, .cv (.one (.ptr 1 0))), (3, .cv (.one (.own 2)))], [(.box 3, [.int .i64 a1.1, .int .i64 a1.2.1, .sl T4414 a1.2.2 .any]), (.box 3, [.int .i64 0, .int .i64 0, .nils]), (.buf 41 T4414 a1.2.2, [])]⟩) hV 0 [] {live := [1, 2, 3], src := [some 0, some 1, some 2]} (by kernel_rfl) (by kernel_rfl) ⟨n2, trivial⟩ ?_
  refine th_n ?_
  refine D_seq (by kernel_rfl) ?_
  refine D_reg (cs := []) (τ := ⟨15, [(1, .cv (.one (.ptr 0 0))), (2, .cv (.one (.ptr 1 0)))], [(.box 3, [.int .i64 a1.1, .int .i64 a1.2.1, .own 2]), (.box 3, [.int .i64 0, .int .i64 0, .nils]), (.buf 41 T4414 a1.2.2, [])]⟩) hV 0 [] {live := [1, 2], src := [some 0, some 1, some 2]} (by kernel_rfl) (by kernel_rfl) trivial ?_
  refine th_n ?_
  refine D_seq (by kernel_rfl) ?_
  refine D_reg (cs := []) (τ := ⟨15, [(2, .cv (.one (.ptr 0 0)))], [(.box 3, [.int .i64 a1.1, .int .i64 a1.2.1, .own 1]), (.buf 41 T4414 a1.2.2, [])]⟩) hV 0 [] {live := [2], src := [some 1, some 2]} (by kernel_rfl) (by kernel_rfl) trivial ?_
  refine th_n ?_
  refine D_ret (by kernel_rfl) ?_
  exact lf_r (Eq.trans (by kernel_rfl) H)
theorem f_sess_own.V_ok : EnvOk P f_sess_own.V := { ck := tt_ck, fits := slk_nil, mixed := mixed }
theorem f_sess_own.fits : Fits P 35 f_sess_own.S := fits_of f_sess_own.V_ok Go.Proofs.Try.func35 (by kernel_rfl) (by decide) (by decide) rfl (fun x r ⟨k, H⟩ => f_sess_own.f_ok f_sess_own.V_ok k x.1 H)
/-! ### i_sess_own_b60: function 35, wayfinder/sess.own, where it is called -/
noncomputable def i_sess_own_b60.c0 : Code := (Go.Proofs.Try.f35.body).getD .skip
noncomputable def i_sess_own_b60.G : List (Nat × Spec) := []
noncomputable def i_sess_own_b60.V : Env := { tt := tt, Γ := slk i_sess_own_b60.G }
theorem i_sess_own_b60.V_ok : EnvOk P i_sess_own_b60.V := { ck := tt_ck, fits := slk_nil, mixed := mixed }
abbrev i_sess_own_b60.R := (Tb104.T) × (T4414.T) × (Int) × (Int) × (Int) × (Int) × (List T4414.T) × Unit
noncomputable def i_sess_own_b60.s0 (p1 : Tb104.T) (p2 : Tb104.T) (p3 : T4414.T) (p4 : Int) (p5 : Int) : St := ⟨15, [(0, .cv (.agg [.int .i64 p1.1, .int .i64 p1.2.1, .sl T4414 p1.2.2 .any]))], [(.box 3, [.int .i64 p2.1, .int .i64 p2.2.1, .sl T4414 p2.2.2 .any]), (.box 10, [.int .i64 p3.1, .int .i64 p3.2.1, .int .i64 p3.2.2.1, .int .i64 p3.2.2.2.1, .int .i64 p3.2.2.2.2.1.1, .int .i64 p3.2.2.2.2.1.2, .int .i64 p3.2.2.2.2.2.1, .int .i64 p3.2.2.2.2.2.2.1, .int .i64 p3.2.2.2.2.2.2.2.1, .int .i64 p3.2.2.2.2.2.2.2.2]), (.box 3, [.int .i64 p4, .int .i64 p5, .nils])]⟩
noncomputable def i_sess_own_b60.out (r : i_sess_own_b60.R) : St := ⟨15, [(2, .cv (.one (.ptr 3 0)))], [(.box 3, [.int .i64 r.1.1, .int .i64 r.1.2.1, .sl T4414 r.1.2.2 .any]), (.box 10, [.int .i64 r.2.1.1, .int .i64 r.2.1.2.1, .int .i64 r.2.1.2.2.1, .int .i64 r.2.1.2.2.2.1, .int .i64 r.2.1.2.2.2.2.1.1, .int .i64 r.2.1.2.2.2.2.1.2, .int .i64 r.2.1.2.2.2.2.2.1, .int .i64 r.2.1.2.2.2.2.2.2.1, .int .i64 r.2.1.2.2.2.2.2.2.2.1, .int .i64 r.2.1.2.2.2.2.2.2.2.2]), (.box 3, [.int .i64 r.2.2.1, .int .i64 r.2.2.2.1, .nils]), (.box 3, [.int .i64 r.2.2.2.2.1, .int .i64 r.2.2.2.2.2.1, .own 4]), (.buf 41 T4414 r.2.2.2.2.2.2.1, [])]⟩
abbrev i_sess_own_b60.Q (r : i_sess_own_b60.R) := CallQ 3 (i_sess_own_b60.out r)
noncomputable def i_sess_own_b60.f (k : Nat) (p1 : Tb104.T) (p2 : Tb104.T) (p3 : T4414.T) (p4 : Int) (p5 : Int) : Option i_sess_own_b60.R :=
  if 0 ≤ (p1.2.2.length : Int) ∧ (p1.2.2.length : Int) = (p1.2.2.length : Int) ∧ (80 : Int) * (p1.2.2.length : Int) ≤ 140737488355328 ∧ (p1.2.2.length : Int) ≤ 140737488355328 then
    if p1.2.2.length = (List.replicate (p1.2.2.length : Int).toNat ((0, (0, (0, (0, ((0, 0), (0, (0, (0, 0)))))))) : T4414.T)).length then
      some (p2, (p3, (p4, (p5, (p1.1, (p1.2.1, (p1.2.2, ())))))))
    else none
  else none
theorem i_sess_own_b60.f_ok (hV : EnvOk P i_sess_own_b60.V) {r : i_sess_own_b60.R} (k : Nat) (p1 : Tb104.T) (p2 : Tb104.T) (p3 : T4414.T) (p4 : Int) (p5 : Int) (H : i_sess_own_b60.f k p1 p2 p3 p4 p5 = some r) : W P 3 i_sess_own_b60.c0 (⟨15, [(0, .cv (.agg [.int .i64 p1.1, .int .i64 p1.2.1, .sl T4414 p1.2.2 .any]))], [(.box 3, [.int .i64 p2.1, .int .i64 p2.2.1, .sl T4414 p2.2.2 .any]), (.box 10, [.int .i64 p3.1, .int .i64 p3.2.1, .int .i64 p3.2.2.1, .int .i64 p3.2.2.2.1, .int .i64 p3.2.2.2.2.1.1, .int .i64 p3.2.2.2.2.1.2, .int .i64 p3.2.2.2.2.2.1, .int .i64 p3.2.2.2.2.2.2.1, .int .i64 p3.2.2.2.2.2.2.2.1, .int .i64 p3.2.2.2.2.2.2.2.2]), (.box 3, [.int .i64 p4, .int .i64 p5, .nils])]⟩) (i_sess_own_b60.Q r) := by
  unfold i_sess_own_b60.f at H
  refine D_seq (by kernel_rfl) ?_
  refine D_reg (cs := []) (τ := ⟨15, [(1, .cv (.one (.ptr 3 0))), (2, .cv (.one (.ptr 4 0)))], [(.box 3, [.int .i64 p2.1, .int .i64 p2.2.1, .sl T4414 p2.2.2 .any]), (.box 10, [.int .i64 p3.1, .int .i64 p3.2.1, .int .i64 p3.2.2.1, .int .i64 p3.2.2.2.1, .int .i64 p3.2.2.2.2.1.1, .int .i64 p3.2.2.2.2.1.2, .int .i64 p3.2.2.2.2.2.1, .int .i64 p3.2.2.2.2.2.2.1, .int .i64 p3.2.2.2.2.2.2.2.1, .int .i64 p3.2.2.2.2.2.2.2.2]), (.box 3, [.int .i64 p4, .int .i64 p5, .nils]), (.box 3, [.int .i64 p1.1, .int .i64 p1.2.1, .sl T4414 p1.2.2 .any]), (.box 3, [.int .i64 0, .int .i64 0, .nils])]⟩) hV 2 [(0, {sb := 3}), (1, {sb := 4})] {live := [1, 2], src := [some 0, some 1, some 2, some 3, some 4]} (by kernel_rfl) (by kernel_rfl) trivial ?_
  refine th_n ?_
  refine D_seq (by kernel_rfl) ?_
  obtain ⟨n1, H⟩ := of_if H
  refine D_reg (cs := [0 ≤ (p1.2.2.length : Int) ∧ (p1.2.2.length : Int) = (p1.2.2.length : Int) ∧ (80 : Int) * (p1.2.2.length : Int) ≤ 140737488355328 ∧ (p1.2.2.length : Int) ≤ 140737488355328]) (τ := ⟨15, [(1, .cv (.one (.ptr 3 0))), (2, .cv (.one (.ptr 4 0))), (3, .cv (.one (.own 5)))], [(.box 3, [.int .i64 p2.1, .int .i64 p2.2.1, .sl T4414 p2.2.2 .any]), (.box 10, [.int .i64 p3.1, .int .i64 p3.2.1, .int .i64 p3.2.2.1, .int .i64 p3.2.2.2.1, .int .i64 p3.2.2.2.2.1.1, .int .i64 p3.2.2.2.2.1.2, .int .i64 p3.2.2.2.2.2.1, .int .i64 p3.2.2.2.2.2.2.1, .int .i64 p3.2.2.2.2.2.2.2.1, .int .i64 p3.2.2.2.2.2.2.2.2]), (.box 3, [.int .i64 p4, .int .i64 p5, .nils]), (.box 3, [.int .i64 p1.1, .int .i64 p1.2.1, .sl T4414 p1.2.2 .any]), (.box 3, [.int .i64 0, .int .i64 0, .nils]), (.buf 41 T4414 (List.replicate (p1.2.2.length : Int).toNat ((0, (0, (0, (0, ((0, 0), (0, (0, (0, 0)))))))) : T4414.T)), [])]⟩) hV 1 [(3, {sb := 5})] {live := [1, 2, 3], src := [some 0, some 1, some 2, some 3, some 4, some 5]} (by kernel_rfl) (by kernel_rfl) ⟨n1, trivial⟩ ?_
  refine th_n ?_
  refine D_seq (by kernel_rfl) ?_
  obtain ⟨n2, H⟩ := of_if H
  refine D_reg (cs := [p1.2.2.length = (List.replicate (p1.2.2.length : Int).toNat ((0, (0, (0, (0, ((0, 0), (0, (0, (0, 0)))))))) : T4414.T)).length]) (τ := ⟨15, [(1, .cv (.one (.ptr 3 0))), (2, .cv (.one (.ptr 4 0))), (3, .cv (.one (.own 5)))], [(.box 3, [.int .i64 p2.1, .int .i64 p2.2.1, .sl T4414 p2.2.2 .any]), (.box 10, [.int .i64 p3.1, .int .i64 p3.2.1, .int .i64 p3.2.2.1, .int .i64 p3.2.2.2.1, .int .i64 p3.2.2.2.2.1.1, .int .i64 p3.2.2.2.2.1.2, .int .i64 p3.2.2.2.2.2.1, .int .i64 p3.2.2.2.2.2.2.1, .int .i64 p3.2.2.2.2.2.2.2.1, .int .i64 p3.2.2.2.2.2.2.2.2]), (.box 3, [.int .i64 p4, .int .i64 p5, .nils]), (.box 3, [.int .i64 p1.1, .int .i64 p1.2.1, .sl T4414 p1.2.2 .any]), (.box 3, [.int .i64 0, .int .i64 0, .nils]), (.buf 41 T4414 p1.2.2, [])]⟩) hV 0 [] {live := [1, 2, 3], src := [some 0, some 1, some 2, some 3, some 4, some 5]} (by kernel_rfl) (by kernel_rfl) ⟨n2, trivial⟩ ?_
  refine th_n ?_
  refine D_seq (by kernel_rfl) ?_
  refine D_reg (cs := []) (τ := ⟨15, [(1, .cv (.one (.ptr 3 0))), (2, .cv (.one (.ptr 4 0)))], [(.box 3, [.int .i64 p2.1, .int .i64 p2.2.1, .sl T4414 p2.2.2 .any]), (.box 10, [.int .i64 p3.1, .int .i64 p3.2.1, .int .i64 p3.2.2.1, .int .i64 p3.2.2.2.1, .int .i64 p3.2.2.2.2.1.1, .int .i64 p3.2.2.2.2.1.2, .int .i64 p3.2.2.2.2.2.1, .int .i64 p3.2.2.2.2.2.2.1, .int .i64 p3.2.2.2.2.2.2.2.1, .int .i64 p3.2.2.2.2.2.2.2.2]), (.box 3, [.int .i64 p4, .int .i64 p5, .nils]), (.box 3, [.int .i64 p1.1, .int .i64 p1.2.1, .own 5]), (.box 3, [.int .i64 0, .int .i64 0, .nils]), (.buf 41 T4414 p1.2.2, [])]⟩) hV 0 [] {live := [1, 2], src := [some 0, some 1, some 2, some 3, some 4, some 5]} (by kernel_rfl) (by kernel_rfl) trivial ?_
  refine th_n ?_
  refine D_seq (by kernel_rfl) ?_
  refine D_reg (cs := []) (τ := ⟨15, [(2, .cv (.one (.ptr 3 0)))], [(.box 3, [.int .i64 p2.1, .int .i64 p2.2.1, .sl T4414 p2.2.2 .any]), (.box 10, [.int .i64 p3.1, .int .i64 p3.2.1, .int .i64 p3.2.2.1, .int .i64 p3.2.2.2.1, .int .i64 p3.2.2.2.2.1.1, .int .i64 p3.2.2.2.2.1.2, .int .i64 p3.2.2.2.2.2.1, .int .i64 p3.2.2.2.2.2.2.1, .int .i64 p3.2.2.2.2.2.2.2.1, .int .i64 p3.2.2.2.2.2.2.2.2]), (.box 3, [.int .i64 p4, .int .i64 p5, .nils]), (.box 3, [.int .i64 p1.1, .int .i64 p1.2.1, .own 4]), (.buf 41 T4414 p1.2.2, [])]⟩) hV 0 [] {live := [2], src := [some 0, some 1, some 2, some 4, some 5]} (by kernel_rfl) (by kernel_rfl) trivial ?_
  refine th_n ?_
  refine D_ret (by kernel_rfl) ?_
  obtain rfl := Option.some.inj H
  exact cq_r {fz := [], gr := 0, ad := [], live := [2], src := [some 0, some 1, some 2, some 3, some 4]} (by kernel_rfl) (by kernel_rfl)
theorem i_sess_own_b60.ok {r : i_sess_own_b60.R} (k : Nat) (p1 : Tb104.T) (p2 : Tb104.T) (p3 : T4414.T) (p4 : Int) (p5 : Int) (H : i_sess_own_b60.f k p1 p2 p3 p4 p5 = some r) : W P 3 i_sess_own_b60.c0 (i_sess_own_b60.s0 p1 p2 p3 p4 p5) (CallQ 3 (i_sess_own_b60.out r)) := i_sess_own_b60.f_ok i_sess_own_b60.V_ok k p1 p2 p3 p4 p5 H
/-! ### f_sess_Push: function 14, wayfinder/sess.Push -/
abbrev f_sess_Push.ps : Sg := [(true, Tb104), (true, T4414)]
abbrev f_sess_Push.rs : Sg := [(true, Tb104), (false, (.int .i64))]
noncomputable def f_sess_Push.c0 : Code := (Go.Proofs.Try.f14.body).getD .skip
noncomputable def f_sess_Push.G : List (Nat × Spec) := []
noncomputable def f_sess_Push.V : Env := { tt := tt, Γ := slk f_sess_Push.G }
noncomputable abbrev f_sess_Push.Q (r : Tup f_sess_Push.rs) : Exit → St → Prop := Qr tt Go.Proofs.Try.f14.results ⟨f_sess_Push.ps, f_sess_Push.rs, .any, none, fun _ _ => True⟩ r
abbrev f_sess_Push.R := Tup f_sess_Push.rs
noncomputable def f_sess_Push.f (k : Nat) (a1 : Tb104.T) (a2 : T4414.T) : Option f_sess_Push.R :=
  (i_sess_own_b60.f k a1 a1 a2 (0 : Int) (0 : Int)).bind fun y1 =>
    if (decide (y1.2.2.2.2.2.1 > (1048576 : Int))) = true then
      some ((y1.2.2.2.2.1, (y1.2.2.2.2.2.1, y1.2.2.2.2.2.2.1)), ((7 : Int), ()))
    else
      if (y1.2.2.2.2.2.2.1.length + 1) * 80 ≤ 140737488355328 then
        some ((y1.2.2.2.2.1, ((IntKind.i64.wrap (y1.2.2.2.2.2.1 + 1)), (y1.2.2.2.2.2.2.1 ++ [(y1.2.1.1, (y1.2.2.2.2.1, (y1.2.2.2.2.2.1, y1.2.1.2.2.2)))]))), ((0 : Int), ()))
      else none
noncomputable def f_sess_Push.S : Spec := ⟨f_sess_Push.ps, f_sess_Push.rs, .any, none, fun x r => ∃ k, f_sess_Push.f k x.1 x.2.1 = some r⟩
theorem f_sess_Push.f_ok (hV : EnvOk P f_sess_Push.V) {r : f_sess_Push.R} (k : Nat) (a1 : Tb104.T) (a2 : T4414.T) (H : f_sess_Push.f k a1 a2 = some r) : W P 0 f_sess_Push.c0 (⟨29, [(0, .cv (.agg [.int .i64 a1.1, .int .i64 a1.2.1, .sl T4414 a1.2.2 .any])), (1, .cv (.agg [.int .i64 a2.1, .int .i64 a2.2.1, .int .i64 a2.2.2.1, .int .i64 a2.2.2.2.1, .int .i64 a2.2.2.2.2.1.1, .int .i64 a2.2.2.2.2.1.2, .int .i64 a2.2.2.2.2.2.1, .int .i64 a2.2.2.2.2.2.2.1, .int .i64 a2.2.2.2.2.2.2.2.1, .int .i64 a2.2.2.2.2.2.2.2.2]))], []⟩) (f_sess_Push.Q r) := by
  unfold f_sess_Push.f at H
  refine D_seq (by kernel_rfl) ?_
  refine D_reg (cs := []) (τ := ⟨29, [(2, .cv (.one (.ptr 0 0))), (3, .cv (.one (.ptr 1 0))), (4, .cv (.one (.ptr 2 0)))], [(.box 3, [.int .i64 a1.1, .int .i64 a1.2.1, .sl T4414 a1.2.2 .any]), (.box 10, [.int .i64 a2.1, .int .i64 a2.2.1, .int .i64 a2.2.2.1, .int .i64 a2.2.2.2.1, .int .i64 a2.2.2.2.2.1.1, .int .i64 a2.2.2.2.2.1.2, .int .i64 a2.2.2.2.2.2.1, .int .i64 a2.2.2.2.2.2.2.1, .int .i64 a2.2.2.2.2.2.2.2.1, .int .i64 a2.2.2.2.2.2.2.2.2]), (.box 3, [.int .i64 0, .int .i64 0, .nils])]⟩) hV 3 [(0, {sb := 0}), (1, {sb := 1}), (2, {sb := 2})] {live := [2, 3, 4], src := [some 0, some 1, some 2]} (by kernel_rfl) (by kernel_rfl) trivial ?_
  refine th_n ?_
  refine D_seq (by kernel_rfl) ?_
  refine D_regI [0, 1, 2] (by kernel_rfl) (by kernel_rfl) ?_
  refine D_ev (cs := []) (τ := ⟨29, [(2, .cv (.one (.ptr 0 0))), (3, .cv (.one (.ptr 1 0))), (4, .cv (.one (.ptr 2 0))), (6, .cv (.agg [.int .i64 a1.1, .int .i64 a1.2.1, .sl T4414 a1.2.2 .any]))], [(.box 3, [.int .i64 a1.1, .int .i64 a1.2.1, .sl T4414 a1.2.2 .any]), (.box 10, [.int .i64 a2.1, .int .i64 a2.2.1, .int .i64 a2.2.2.1, .int .i64 a2.2.2.2.1, .int .i64 a2.2.2.2.2.1.1, .int .i64 a2.2.2.2.2.1.2, .int .i64 a2.2.2.2.2.2.1, .int .i64 a2.2.2.2.2.2.2.1, .int .i64 a2.2.2.2.2.2.2.2.1, .int .i64 a2.2.2.2.2.2.2.2.2]), (.box 3, [.int .i64 0, .int .i64 0, .nils])]⟩) hV 0 [] [0] [1, 2] rfl (by kernel_rfl) trivial ?_
  obtain ⟨y1, e2, H⟩ := of_bind H
  refine D_call (f := 35) (N := 3) (cvs := [.agg [.int .i64 a1.1, .int .i64 a1.2.1, .sl T4414 a1.2.2 .any]]) (σ0 := i_sess_own_b60.s0 a1 a1 a2 (0 : Int) (0 : Int)) (τ := i_sess_own_b60.out y1) (σ2 := ⟨29, [(2, .cv (.one (.ptr 0 0))), (3, .cv (.one (.ptr 1 0))), (4, .cv (.one (.ptr 2 0))), (6, .cv (.agg [.int .i64 a1.1, .int .i64 a1.2.1, .sl T4414 a1.2.2 .any])), (7, .cv (.agg [.int .i64 y1.2.2.2.2.1, .int .i64 y1.2.2.2.2.2.1, .own 4]))], [(.box 3, [.int .i64 y1.1.1, .int .i64 y1.1.2.1, .sl T4414 y1.1.2.2 .any]), (.box 10, [.int .i64 y1.2.1.1, .int .i64 y1.2.1.2.1, .int .i64 y1.2.1.2.2.1, .int .i64 y1.2.1.2.2.2.1, .int .i64 y1.2.1.2.2.2.2.1.1, .int .i64 y1.2.1.2.2.2.2.1.2, .int .i64 y1.2.1.2.2.2.2.2.1, .int .i64 y1.2.1.2.2.2.2.2.2.1, .int .i64 y1.2.1.2.2.2.2.2.2.2.1, .int .i64 y1.2.1.2.2.2.2.2.2.2.2]), (.box 3, [.int .i64 y1.2.2.1, .int .i64 y1.2.2.2.1, .nils]), (.box 3, [.int .i64 y1.2.2.2.2.1, .int .i64 y1.2.2.2.2.2.1, .own 4]), (.buf 41 T4414 y1.2.2.2.2.2.2.1, [])]⟩) hV 1 (by kernel_rfl) Go.Proofs.Try.func35 (by kernel_rfl) (by decide) (by kernel_rfl) (by kernel_rfl) (by kernel_rfl) (i_sess_own_b60.ok k a1 a1 a2 (0 : Int) (0 : Int) e2) (by kernel_rfl) ?_
  refine D_ev (cs := []) (τ := ⟨29, [(2, .cv (.one (.ptr 0 0))), (3, .cv (.one (.ptr 1 0))), (4, .cv (.one (.ptr 2 0))), (6, .cv (.agg [.int .i64 a1.1, .int .i64 a1.2.1, .sl T4414 a1.2.2 .any])), (7, .cv (.agg [.int .i64 y1.2.2.2.2.1, .int .i64 y1.2.2.2.2.2.1, .own 4]))], [(.box 3, [.int .i64 y1.2.2.2.2.1, .int .i64 y1.2.2.2.2.2.1, .own 4]), (.box 10, [.int .i64 y1.2.1.1, .int .i64 y1.2.1.2.1, .int .i64 y1.2.1.2.2.1, .int .i64 y1.2.1.2.2.2.1, .int .i64 y1.2.1.2.2.2.2.1.1, .int .i64 y1.2.1.2.2.2.2.1.2, .int .i64 y1.2.1.2.2.2.2.2.1, .int .i64 y1.2.1.2.2.2.2.2.2.1, .int .i64 y1.2.1.2.2.2.2.2.2.2.1, .int .i64 y1.2.1.2.2.2.2.2.2.2.2]), (.box 3, [.int .i64 y1.2.2.1, .int .i64 y1.2.2.2.1, .nils]), (.box 3, [.int .i64 y1.2.2.2.2.1, .int .i64 y1.2.2.2.2.2.1, .own 4]), (.buf 41 T4414 y1.2.2.2.2.2.2.1, [])]⟩) hV 0 [] [2] [] rfl (by kernel_rfl) trivial ?_
  refine WO_tell (τ := ⟨29, [(2, .cv (.one (.ptr 0 0))), (3, .cv (.one (.ptr 1 0))), (4, .cv (.one (.ptr 2 0)))], [(.box 3, [.int .i64 y1.2.2.2.2.1, .int .i64 y1.2.2.2.2.2.1, .own 3]), (.box 10, [.int .i64 y1.2.1.1, .int .i64 y1.2.1.2.1, .int .i64 y1.2.1.2.2.1, .int .i64 y1.2.1.2.2.2.1, .int .i64 y1.2.1.2.2.2.2.1.1, .int .i64 y1.2.1.2.2.2.2.1.2, .int .i64 y1.2.1.2.2.2.2.2.1, .int .i64 y1.2.1.2.2.2.2.2.2.1, .int .i64 y1.2.1.2.2.2.2.2.2.2.1, .int .i64 y1.2.1.2.2.2.2.2.2.2.2]), (.box 3, [.int .i64 y1.2.2.1, .int .i64 y1.2.2.2.1, .nils]), (.buf 41 T4414 y1.2.2.2.2.2.2.1, [])]⟩) {live := [2, 3, 4], src := [some 0, some 1, some 2, some 4]} (by kernel_rfl) (by kernel_rfl) ?_
  refine WO_nil ?_
  refine th_n ?_
  refine D_seq (by kernel_rfl) ?_
  refine D_seq (by kernel_rfl) ?_
  refine D_reg (cs := []) (τ := ⟨29, [(2, .cv (.one (.ptr 0 0))), (3, .cv (.one (.ptr 1 0))), (4, .cv (.one (.ptr 2 0))), (10, .cv (.one (.bool (decide (y1.2.2.2.2.2.1 > (1048576 : Int))))))], [(.box 3, [.int .i64 y1.2.2.2.2.1, .int .i64 y1.2.2.2.2.2.1, .own 3]), (.box 10, [.int .i64 y1.2.1.1, .int .i64 y1.2.1.2.1, .int .i64 y1.2.1.2.2.1, .int .i64 y1.2.1.2.2.2.1, .int .i64 y1.2.1.2.2.2.2.1.1, .int .i64 y1.2.1.2.2.2.2.1.2, .int .i64 y1.2.1.2.2.2.2.2.1, .int .i64 y1.2.1.2.2.2.2.2.2.1, .int .i64 y1.2.1.2.2.2.2.2.2.2.1, .int .i64 y1.2.1.2.2.2.2.2.2.2.2]), (.box 3, [.int .i64 y1.2.2.1, .int .i64 y1.2.2.2.1, .nils]), (.buf 41 T4414 y1.2.2.2.2.2.2.1, [])]⟩) hV 0 [] {live := [2, 3, 4, 10], src := [some 0, some 1, some 2, some 3]} (by kernel_rfl) (by kernel_rfl) trivial ?_
  refine th_n ?_
  refine D_condB (t := 10) (b := (decide (y1.2.2.2.2.2.1 > (1048576 : Int)))) (by kernel_rfl) (by kernel_rfl) (fun hb3 => ?_) (fun hb3 => ?_)
  · rw [if_pos hb3] at H
    refine D_seq (by kernel_rfl) ?_
    refine D_reg (cs := []) (τ := ⟨29, [(4, .cv (.one (.ptr 0 0))), (5, .cv (.one (.int .i64 7)))], [(.box 3, [.int .i64 y1.2.2.2.2.1, .int .i64 y1.2.2.2.2.2.1, .own 1]), (.buf 41 T4414 y1.2.2.2.2.2.2.1, [])]⟩) hV 0 [] {live := [4, 5], src := [some 2, some 3]} (by kernel_rfl) (by kernel_rfl) trivial ?_
    refine th_n ?_
    refine D_ret (by kernel_rfl) ?_
    refine th_r ?_
    exact lf_r (Eq.trans (by kernel_rfl) H)
  · rw [if_neg (by rw [hb3]; decide)] at H
    refine D_skip (by kernel_rfl) ?_
    refine th_n ?_
    refine D_seq (by kernel_rfl) ?_
    refine D_reg (cs := []) (τ := ⟨29, [(2, .cv (.one (.ptr 0 0))), (3, .cv (.one (.ptr 1 0))), (4, .cv (.one (.ptr 2 0)))], [(.box 3, [.int .i64 y1.2.2.2.2.1, .int .i64 y1.2.2.2.2.2.1, .own 3]), (.box 10, [.int .i64 y1.2.1.1, .int .i64 y1.2.2.2.2.1, .int .i64 y1.2.2.2.2.2.1, .int .i64 y1.2.1.2.2.2.1, .int .i64 y1.2.1.2.2.2.2.1.1, .int .i64 y1.2.1.2.2.2.2.1.2, .int .i64 y1.2.1.2.2.2.2.2.1, .int .i64 y1.2.1.2.2.2.2.2.2.1, .int .i64 y1.2.1.2.2.2.2.2.2.2.1, .int .i64 y1.2.1.2.2.2.2.2.2.2.2]), (.box 3, [.int .i64 y1.2.2.1, .int .i64 y1.2.2.2.1, .nils]), (.buf 41 T4414 y1.2.2.2.2.2.2.1, [])]⟩) hV 0 [] {live := [2, 3, 4], src := [some 0, some 1, some 2, some 3]} (by kernel_rfl) (by kernel_rfl) trivial ?_
    refine th_n ?_
    refine D_seq (by kernel_rfl) ?_
    obtain ⟨n4, H⟩ := of_if H
    refine D_reg (cs := [(y1.2.2.2.2.2.2.1.length + 1) * 80 ≤ 140737488355328]) (τ := ⟨29, [(2, .cv (.one (.ptr 0 0))), (4, .cv (.one (.ptr 1 0)))], [(.box 3, [.int .i64 y1.2.2.2.2.1, .int .i64 (IntKind.i64.wrap (y1.2.2.2.2.2.1 + 1)), .own 2]), (.box 3, [.int .i64 y1.2.2.1, .int .i64 y1.2.2.2.1, .nils]), (.buf 41 T4414 (y1.2.2.2.2.2.2.1 ++ [(y1.2.1.1, (y1.2.2.2.2.1, (y1.2.2.2.2.2.1, y1.2.1.2.2.2)))]), [])]⟩) hV 1 [(4, {sb := 4})] {live := [2, 4], src := [some 0, some 2, some 4]} (by kernel_rfl) (by kernel_rfl) ⟨n4, trivial⟩ ?_
    refine th_n ?_
    refine D_seq (by kernel_rfl) ?_
    refine D_reg (cs := []) (τ := ⟨29, [(4, .cv (.one (.ptr 0 0))), (5, .cv (.one (.int .i64 0)))], [(.box 3, [.int .i64 y1.2.2.2.2.1, .int .i64 (IntKind.i64.wrap (y1.2.2.2.2.2.1 + 1)), .own 1]), (.buf 41 T4414 (y1.2.2.2.2.2.2.1 ++ [(y1.2.1.1, (y1.2.2.2.2.1, (y1.2.2.2.2.2.1, y1.2.1.2.2.2)))]), [])]⟩) hV 0 [] {live := [4, 5], src := [some 1, some 2]} (by kernel_rfl) (by kernel_rfl) trivial ?_
    refine th_n ?_
    refine D_ret (by kernel_rfl) ?_
    exact lf_r (Eq.trans (by kernel_rfl) H)
theorem f_sess_Push.V_ok : EnvOk P f_sess_Push.V := { ck := tt_ck, fits := slk_nil, mixed := mixed }
theorem f_sess_Push.fits : Fits P 14 f_sess_Push.S := fits_of f_sess_Push.V_ok Go.Proofs.Try.func14 (by kernel_rfl) (by decide) (by decide) rfl (fun x r ⟨k, H⟩ => f_sess_Push.f_ok f_sess_Push.V_ok k x.1 x.2.1 H)
/-! ### i_sess_own_9f5: function 35, wayfinder/sess.own, where it is called -/
noncomputable def i_sess_own_9f5.c0 : Code := (Go.Proofs.Try.f35.body).getD .skip
noncomputable def i_sess_own_9f5.G : List (Nat × Spec) := []
noncomputable def i_sess_own_9f5.V : Env := { tt := tt, Γ := slk i_sess_own_9f5.G }
theorem i_sess_own_9f5.V_ok : EnvOk P i_sess_own_9f5.V := { ck := tt_ck, fits := slk_nil, mixed := mixed }
abbrev i_sess_own_9f5.R := (Tb104.T) × (Int) × (Int) × (Int) × (Int) × (Int) × (List T4414.T) × Unit
noncomputable def i_sess_own_9f5.s0 (p1 : Tb104.T) (p2 : Tb104.T) (p3 : Int) (p4 : Int) (p5 : Int) : St := ⟨15, [(0, .cv (.agg [.int .i64 p1.1, .int .i64 p1.2.1, .sl T4414 p1.2.2 .any]))], [(.box 3, [.int .i64 p2.1, .int .i64 p2.2.1, .sl T4414 p2.2.2 .any]), (.box 1, [.int .i64 p3]), (.box 3, [.int .i64 p4, .int .i64 p5, .nils])]⟩
noncomputable def i_sess_own_9f5.out (r : i_sess_own_9f5.R) : St := ⟨15, [(2, .cv (.one (.ptr 3 0)))], [(.box 3, [.int .i64 r.1.1, .int .i64 r.1.2.1, .sl T4414 r.1.2.2 .any]), (.box 1, [.int .i64 r.2.1]), (.box 3, [.int .i64 r.2.2.1, .int .i64 r.2.2.2.1, .nils]), (.box 3, [.int .i64 r.2.2.2.2.1, .int .i64 r.2.2.2.2.2.1, .own 4]), (.buf 41 T4414 r.2.2.2.2.2.2.1, [])]⟩
abbrev i_sess_own_9f5.Q (r : i_sess_own_9f5.R) := CallQ 3 (i_sess_own_9f5.out r)
noncomputable def i_sess_own_9f5.f (k : Nat) (p1 : Tb104.T) (p2 : Tb104.T) (p3 : Int) (p4 : Int) (p5 : Int) : Option i_sess_own_9f5.R :=
  if 0 ≤ (p1.2.2.length : Int) ∧ (p1.2.2.length : Int) = (p1.2.2.length : Int) ∧ (80 : Int) * (p1.2.2.length : Int) ≤ 140737488355328 ∧ (p1.2.2.length : Int) ≤ 140737488355328 then
    if p1.2.2.length = (List.replicate (p1.2.2.length : Int).toNat ((0, (0, (0, (0, ((0, 0), (0, (0, (0, 0)))))))) : T4414.T)).length then
      some (p2, (p3, (p4, (p5, (p1.1, (p1.2.1, (p1.2.2, ())))))))
    else none
  else none
theorem i_sess_own_9f5.f_ok (hV : EnvOk P i_sess_own_9f5.V) {r : i_sess_own_9f5.R} (k : Nat) (p1 : Tb104.T) (p2 : Tb104.T) (p3 : Int) (p4 : Int) (p5 : Int) (H : i_sess_own_9f5.f k p1 p2 p3 p4 p5 = some r) : W P 3 i_sess_own_9f5.c0 (⟨15, [(0, .cv (.agg [.int .i64 p1.1, .int .i64 p1.2.1, .sl T4414 p1.2.2 .any]))], [(.box 3, [.int .i64 p2.1, .int .i64 p2.2.1, .sl T4414 p2.2.2 .any]), (.box 1, [.int .i64 p3]), (.box 3, [.int .i64 p4, .int .i64 p5, .nils])]⟩) (i_sess_own_9f5.Q r) := by
  unfold i_sess_own_9f5.f at H
  refine D_seq (by kernel_rfl) ?_
  refine D_reg (cs := []) (τ := ⟨15, [(1, .cv (.one (.ptr 3 0))), (2, .cv (.one (.ptr 4 0)))], [(.box 3, [.int .i64 p2.1, .int .i64 p2.2.1, .sl T4414 p2.2.2 .any]), (.box 1, [.int .i64 p3]), (.box 3, [.int .i64 p4, .int .i64 p5, .nils]), (.box 3, [.int .i64 p1.1, .int .i64 p1.2.1, .sl T4414 p1.2.2 .any]), (.box 3, [.int .i64 0, .int .i64 0, .nils])]⟩) hV 2 [(0, {sb := 3}), (1, {sb := 4})] {live := [1, 2], src := [some 0, some 1, some 2, some 3, some 4]} (by kernel_rfl) (by kernel_rfl) trivial ?_
  refine th_n ?_
  refine D_seq (by kernel_rfl) ?_
  obtain ⟨n1, H⟩ := of_if H
  refine D_reg (cs := [0 ≤ (p1.2.2.length : Int) ∧ (p1.2.2.length : Int) = (p1.2.2.length : Int) ∧ (80 : Int) * (p1.2.2.length : Int) ≤ 140737488355328 ∧ (p1.2.2.length : Int) ≤ 140737488355328]) (τ := ⟨15, [(1, .cv (.one (.ptr 3 0))), (2, .cv (.one (.ptr 4 0))), (3, .cv (.one (.own 5)))], [(.box 3, [.int .i64 p2.1, .int .i64 p2.2.1, .sl T4414 p2.2.2 .any]), (.box 1, [.int .i64 p3]), (.box 3, [.int .i64 p4, .int .i64 p5, .nils]), (.box 3, [.int .i64 p1.1, .int .i64 p1.2.1, .sl T4414 p1.2.2 .any]), (.box 3, [.int .i64 0, .int .i64 0, .nils]), (.buf 41 T4414 (List.replicate (p1.2.2.length : Int).toNat ((0, (0, (0, (0, ((0, 0), (0, (0, (0, 0)))))))) : T4414.T)), [])]⟩) hV 1 [(3, {sb := 5})] {live := [1, 2, 3], src := [some 0, some 1, some 2, some 3, some 4, some 5]} (by kernel_rfl) (by kernel_rfl) ⟨n1, trivial⟩ ?_
  refine th_n ?_
  refine D_seq (by kernel_rfl) ?_
  obtain ⟨n2, H⟩ := of_if H
  refine D_reg (cs := [p1.2.2.length = (List.replicate (p1.2.2.length : Int).toNat ((0, (0, (0, (0, ((0, 0), (0, (0, (0, 0)))))))) : T4414.T)).length]) (τ := ⟨15, [(1, .cv (.one (.ptr 3 0))), (2, .cv (.one (.ptr 4 0))), (3, .cv (.one (.own 5)))], [(.box 3, [.int .i64 p2.1, .int .i64 p2.2.1, .sl T4414 p2.2.2 .any]), (.box 1, [.int .i64 p3]), (.box 3, [.int .i64 p4, .int .i64 p5, .nils]), (.box 3, [.int .i64 p1.1, .int .i64 p1.2.1, .sl T4414 p1.2.2 .any]), (.box 3, [.int .i64 0, .int .i64 0, .nils]), (.buf 41 T4414 p1.2.2, [])]⟩) hV 0 [] {live := [1, 2, 3], src := [some 0, some 1, some 2, some 3, some 4, some 5]} (by kernel_rfl) (by kernel_rfl) ⟨n2, trivial⟩ ?_
  refine th_n ?_
  refine D_seq (by kernel_rfl) ?_
  refine D_reg (cs := []) (τ := ⟨15, [(1, .cv (.one (.ptr 3 0))), (2, .cv (.one (.ptr 4 0)))], [(.box 3, [.int .i64 p2.1, .int .i64 p2.2.1, .sl T4414 p2.2.2 .any]), (.box 1, [.int .i64 p3]), (.box 3, [.int .i64 p4, .int .i64 p5, .nils]), (.box 3, [.int .i64 p1.1, .int .i64 p1.2.1, .own 5]), (.box 3, [.int .i64 0, .int .i64 0, .nils]), (.buf 41 T4414 p1.2.2, [])]⟩) hV 0 [] {live := [1, 2], src := [some 0, some 1, some 2, some 3, some 4, some 5]} (by kernel_rfl) (by kernel_rfl) trivial ?_
  refine th_n ?_
  refine D_seq (by kernel_rfl) ?_
  refine D_reg (cs := []) (τ := ⟨15, [(2, .cv (.one (.ptr 3 0)))], [(.box 3, [.int .i64 p2.1, .int .i64 p2.2.1, .sl T4414 p2.2.2 .any]), (.box 1, [.int .i64 p3]), (.box 3, [.int .i64 p4, .int .i64 p5, .nils]), (.box 3, [.int .i64 p1.1, .int .i64 p1.2.1, .own 4]), (.buf 41 T4414 p1.2.2, [])]⟩) hV 0 [] {live := [2], src := [some 0, some 1, some 2, some 4, some 5]} (by kernel_rfl) (by kernel_rfl) trivial ?_
  refine th_n ?_
  refine D_ret (by kernel_rfl) ?_
  obtain rfl := Option.some.inj H
  exact cq_r {fz := [], gr := 0, ad := [], live := [2], src := [some 0, some 1, some 2, some 3, some 4]} (by kernel_rfl) (by kernel_rfl)
theorem i_sess_own_9f5.ok {r : i_sess_own_9f5.R} (k : Nat) (p1 : Tb104.T) (p2 : Tb104.T) (p3 : Int) (p4 : Int) (p5 : Int) (H : i_sess_own_9f5.f k p1 p2 p3 p4 p5 = some r) : W P 3 i_sess_own_9f5.c0 (i_sess_own_9f5.s0 p1 p2 p3 p4 p5) (CallQ 3 (i_sess_own_9f5.out r)) := i_sess_own_9f5.f_ok i_sess_own_9f5.V_ok k p1 p2 p3 p4 p5 H
/-! ### i_sess_Done_1_7b4: function 37, wayfinder/sess.Done$1, where it is called -/
noncomputable def i_sess_Done_1_7b4.c0 : Code := (Go.Proofs.Try.f37.body).getD .skip
noncomputable def i_sess_Done_1_7b4.G : List (Nat × Spec) := []
noncomputable def i_sess_Done_1_7b4.V : Env := { tt := tt, Γ := slk i_sess_Done_1_7b4.G }
theorem i_sess_Done_1_7b4.V_ok : EnvOk P i_sess_Done_1_7b4.V := { ck := tt_ck, fits := slk_nil, mixed := mixed }
abbrev i_sess_Done_1_7b4.R := (Bool) × (Int) × (Int) × (Int) × (Int) × (Int) × (List T4414.T) × Unit
noncomputable def i_sess_Done_1_7b4.s0 (p1 : T4414.T) (p2 : Int) (p3 : Int) (p4 : Int) (p5 : Int) (p6 : Int) (p7 : List T4414.T) : St := ⟨8, [(0, .cv (.agg [.int .i64 p1.1, .int .i64 p1.2.1, .int .i64 p1.2.2.1, .int .i64 p1.2.2.2.1, .int .i64 p1.2.2.2.2.1.1, .int .i64 p1.2.2.2.2.1.2, .int .i64 p1.2.2.2.2.2.1, .int .i64 p1.2.2.2.2.2.2.1, .int .i64 p1.2.2.2.2.2.2.2.1, .int .i64 p1.2.2.2.2.2.2.2.2])), (1, .cv (.one (.ptr 1 0)))], [(.box 3, [.int .i64 p2, .int .i64 p3, .own 3]), (.box 1, [.int .i64 p4]), (.box 3, [.int .i64 p5, .int .i64 p6, .nils]), (.buf 41 T4414 p7, [])]⟩
noncomputable def i_sess_Done_1_7b4.out (r : i_sess_Done_1_7b4.R) : St := ⟨8, [(3, .cv (.one (.bool r.1)))], [(.box 3, [.int .i64 r.2.1, .int .i64 r.2.2.1, .own 3]), (.box 1, [.int .i64 r.2.2.2.1]), (.box 3, [.int .i64 r.2.2.2.2.1, .int .i64 r.2.2.2.2.2.1, .nils]), (.buf 41 T4414 r.2.2.2.2.2.2.1, [])]⟩
abbrev i_sess_Done_1_7b4.Q (r : i_sess_Done_1_7b4.R) := CallQ 4 (i_sess_Done_1_7b4.out r)
noncomputable def i_sess_Done_1_7b4.f (k : Nat) (p1 : T4414.T) (p2 : Int) (p3 : Int) (p4 : Int) (p5 : Int) (p6 : Int) (p7 : List T4414.T) : Option i_sess_Done_1_7b4.R :=
  some ((decide (p1.2.2.1 ≤ p4)), (p2, (p3, (p4, (p5, (p6, (p7, ())))))))
theorem i_sess_Done_1_7b4.f_ok (hV : EnvOk P i_sess_Done_1_7b4.V) {r : i_sess_Done_1_7b4.R} (k : Nat) (p1 : T4414.T) (p2 : Int) (p3 : Int) (p4 : Int) (p5 : Int) (p6 : Int) (p7 : List T4414.T) (H : i_sess_Done_1_7b4.f k p1 p2 p3 p4 p5 p6 p7 = some r) : W P 4 i_sess_Done_1_7b4.c0 (⟨8, [(0, .cv (.agg [.int .i64 p1.1, .int .i64 p1.2.1, .int .i64 p1.2.2.1, .int .i64 p1.2.2.2.1, .int .i64 p1.2.2.2.2.1.1, .int .i64 p1.2.2.2.2.1.2, .int .i64 p1.2.2.2.2.2.1, .int .i64 p1.2.2.2.2.2.2.1, .int .i64 p1.2.2.2.2.2.2.2.1, .int .i64 p1.2.2.2.2.2.2.2.2])), (1, .cv (.one (.ptr 1 0)))], [(.box 3, [.int .i64 p2, .int .i64 p3, .own 3]), (.box 1, [.int .i64 p4]), (.box 3, [.int .i64 p5, .int .i64 p6, .nils]), (.buf 41 T4414 p7, [])]⟩) (i_sess_Done_1_7b4.Q r) := by
  unfold i_sess_Done_1_7b4.f at H
  refine D_seq (by kernel_rfl) ?_
  refine D_reg (cs := []) (τ := ⟨8, [(1, .cv (.one (.ptr 1 0))), (2, .cv (.one (.ptr 4 0)))], [(.box 3, [.int .i64 p2, .int .i64 p3, .own 3]), (.box 1, [.int .i64 p4]), (.box 3, [.int .i64 p5, .int .i64 p6, .nils]), (.buf 41 T4414 p7, []), (.box 10, [.int .i64 p1.1, .int .i64 p1.2.1, .int .i64 p1.2.2.1, .int .i64 p1.2.2.2.1, .int .i64 p1.2.2.2.2.1.1, .int .i64 p1.2.2.2.2.1.2, .int .i64 p1.2.2.2.2.2.1, .int .i64 p1.2.2.2.2.2.2.1, .int .i64 p1.2.2.2.2.2.2.2.1, .int .i64 p1.2.2.2.2.2.2.2.2])]⟩) hV 1 [(0, {sb := 4})] {live := [1, 2], src := [some 0, some 1, some 2, some 3, some 4]} (by kernel_rfl) (by kernel_rfl) trivial ?_
  refine th_n ?_
  refine D_seq (by kernel_rfl) ?_
  refine D_reg (cs := []) (τ := ⟨8, [(3, .cv (.one (.bool (decide (p1.2.2.1 ≤ p4)))))], [(.box 3, [.int .i64 p2, .int .i64 p3, .own 3]), (.box 1, [.int .i64 p4]), (.box 3, [.int .i64 p5, .int .i64 p6, .nils]), (.buf 41 T4414 p7, [])]⟩) hV 0 [] {live := [3], src := [some 0, some 1, some 2, some 3]} (by kernel_rfl) (by kernel_rfl) trivial ?_
  refine th_n ?_
  refine D_ret (by kernel_rfl) ?_
  obtain rfl := Option.some.inj H
  exact cq_r {fz := [], gr := 0, ad := [], live := [3], src := [some 0, some 1, some 2, some 3]} (by kernel_rfl) (by kernel_rfl)
theorem i_sess_Done_1_7b4.ok {r : i_sess_Done_1_7b4.R} (k : Nat) (p1 : T4414.T) (p2 : Int) (p3 : Int) (p4 : Int) (p5 : Int) (p6 : Int) (p7 : List T4414.T) (H : i_sess_Done_1_7b4.f k p1 p2 p3 p4 p5 p6 p7 = some r) : W P 4 i_sess_Done_1_7b4.c0 (i_sess_Done_1_7b4.s0 p1 p2 p3 p4 p5 p6 p7) (CallQ 4 (i_sess_Done_1_7b4.out r)) := i_sess_Done_1_7b4.f_ok i_sess_Done_1_7b4.V_ok k p1 p2 p3 p4 p5 p6 p7 H
/-! ### i_slices_IndexFunc_Msg_8b9: function 58, slices.IndexFunc[[]wayfinder/api.Msg,wayfinder/api.Msg], where it is called -/
noncomputable def i_slices_IndexFunc_Msg_8b9.c0 : Code := (Go.Proofs.Try.f58.body).getD .skip
noncomputable def i_slices_IndexFunc_Msg_8b9.G : List (Nat × Spec) := []
noncomputable def i_slices_IndexFunc_Msg_8b9.V : Env := { tt := tt, Γ := slk i_slices_IndexFunc_Msg_8b9.G }
theorem i_slices_IndexFunc_Msg_8b9.V_ok : EnvOk P i_slices_IndexFunc_Msg_8b9.V := { ck := tt_ck, fits := slk_nil, mixed := mixed }
abbrev i_slices_IndexFunc_Msg_8b9.R := (Int) × (Int) × (Int) × (Int) × (Int) × (Int) × (List T4414.T) × Unit
noncomputable def i_slices_IndexFunc_Msg_8b9.s0 (p1 : Int) (p2 : Int) (p3 : Int) (p4 : Int) (p5 : Int) (p6 : List T4414.T) : St := ⟨19, [(0, .cv (.one (.own 3))), (1, .cv (.one (.fn 37 [] [(1, 0)])))], [(.box 3, [.int .i64 p1, .int .i64 p2, .own 3]), (.box 1, [.int .i64 p3]), (.box 3, [.int .i64 p4, .int .i64 p5, .nils]), (.buf 41 T4414 p6, [])]⟩
noncomputable def i_slices_IndexFunc_Msg_8b9.out (r : i_slices_IndexFunc_Msg_8b9.R) : St := ⟨19, [(4, .cv (.one (.int .i64 r.1)))], [(.box 3, [.int .i64 r.2.1, .int .i64 r.2.2.1, .own 3]), (.box 1, [.int .i64 r.2.2.2.1]), (.box 3, [.int .i64 r.2.2.2.2.1, .int .i64 r.2.2.2.2.2.1, .nils]), (.buf 41 T4414 r.2.2.2.2.2.2.1, [])]⟩
abbrev i_slices_IndexFunc_Msg_8b9.Q (r : i_slices_IndexFunc_Msg_8b9.R) := CallQ 4 (i_slices_IndexFunc_Msg_8b9.out r)
noncomputable def i_slices_IndexFunc_Msg_8b9.s1 (p1 : Int) (p2 : Int) (p3 : Int) (p4 : Int) (p5 : Int) (p6 : Int) (p7 : Int) (p8 : List T4414.T) : St := ⟨19, [(0, .cv (.one (.own 3))), (1, .cv (.one (.fn 37 [] [(1, 0)]))), (7, .cv (.one (.int .i64 p1))), (8, .cv (.one (.int .i64 p2)))], [(.box 3, [.int .i64 p3, .int .i64 p4, .own 3]), (.box 1, [.int .i64 p5]), (.box 3, [.int .i64 p6, .int .i64 p7, .nils]), (.buf 41 T4414 p8, [])]⟩
noncomputable def i_slices_IndexFunc_Msg_8b9.b1 (L1 : Int → Int → Int → Int → Int → Int → Int → List T4414.T → Option i_slices_IndexFunc_Msg_8b9.R) (k : Nat) (p1 : Int) (p2 : Int) (p3 : Int) (p4 : Int) (p5 : Int) (p6 : Int) (p7 : Int) (p8 : List T4414.T) : Option i_slices_IndexFunc_Msg_8b9.R :=
  if (decide (p2 < p1)) = true then
  if 0 ≤ p2 then
    if p2 < (p8.length : Int) then
      (i_sess_Done_1_7b4.f k (att T4414 p8 p2) p3 p4 p5 p6 p7 p8).bind fun y4 =>
        if y4.1 = true then
          some (p2, (y4.2.1, (y4.2.2.1, (y4.2.2.2.1, (y4.2.2.2.2.1, (y4.2.2.2.2.2.1, (y4.2.2.2.2.2.2.1, ())))))))
        else
          L1 p1 (IntKind.i64.wrap (p2 + 1)) y4.2.1 y4.2.2.1 y4.2.2.2.1 y4.2.2.2.2.1 y4.2.2.2.2.2.1 y4.2.2.2.2.2.2.1
    else none
  else none
else
  some ((-1), (p3, (p4, (p5, (p6, (p7, (p8, ())))))))
theorem i_slices_IndexFunc_Msg_8b9.b1_ok (hV : EnvOk P i_slices_IndexFunc_Msg_8b9.V) {r : i_slices_IndexFunc_Msg_8b9.R} (L1 : Int → Int → Int → Int → Int → Int → Int → List T4414.T → Option i_slices_IndexFunc_Msg_8b9.R) (m1 : Nat) (hL1 : ∀ (p1 : Int) (p2 : Int) (p3 : Int) (p4 : Int) (p5 : Int) (p6 : Int) (p7 : Int) (p8 : List T4414.T), L1 p1 p2 p3 p4 p5 p6 p7 p8 = some r → WL P 4 (Code.l (Code.l (Code.r (Code.l (Code.r i_slices_IndexFunc_Msg_8b9.c0))))) (blockW 0 (thenW P 4 (Code.r (Code.r i_slices_IndexFunc_Msg_8b9.c0)) (i_slices_IndexFunc_Msg_8b9.Q r))) m1 (i_slices_IndexFunc_Msg_8b9.s1 p1 p2 p3 p4 p5 p6 p7 p8)) (k : Nat) (p1 : Int) (p2 : Int) (p3 : Int) (p4 : Int) (p5 : Int) (p6 : Int) (p7 : Int) (p8 : List T4414.T) (H : i_slices_IndexFunc_Msg_8b9.b1 L1 k p1 p2 p3 p4 p5 p6 p7 p8 = some r) : W P 4 (Code.l (Code.l (Code.r (Code.l (Code.r i_slices_IndexFunc_Msg_8b9.c0))))) (i_slices_IndexFunc_Msg_8b9.s1 p1 p2 p3 p4 p5 p6 p7 p8) (roundW P 4 (Code.l (Code.l (Code.r (Code.l (Code.r i_slices_IndexFunc_Msg_8b9.c0))))) (blockW 0 (thenW P 4 (Code.r (Code.r i_slices_IndexFunc_Msg_8b9.c0)) (i_slices_IndexFunc_Msg_8b9.Q r))) m1) := by
  unfold i_slices_IndexFunc_Msg_8b9.b1 at H
  refine D_seq (by kernel_rfl) ?_
  refine D_reg (cs := []) (τ := ⟨19, [(0, .cv (.one (.own 3))), (1, .cv (.one (.fn 37 [] [(1, 0)]))), (7, .cv (.one (.int .i64 p1))), (8, .cv (.one (.int .i64 p2))), (9, .cv (.one (.bool (decide (p2 < p1)))))], [(.box 3, [.int .i64 p3, .int .i64 p4, .own 3]), (.box 1, [.int .i64 p5]), (.box 3, [.int .i64 p6, .int .i64 p7, .nils]), (.buf 41 T4414 p8, [])]⟩) hV 0 [] {live := [0, 1, 7, 8, 9], src := [some 0, some 1, some 2, some 3]} (by kernel_rfl) (by kernel_rfl) trivial ?_
  refine th_n ?_
  refine D_seq (by kernel_rfl) ?_
  refine D_condB (t := 9) (b := (decide (p2 < p1))) (by kernel_rfl) (by kernel_rfl) (fun hb1 => ?_) (fun hb1 => ?_)
  · rw [if_pos hb1] at H
    refine D_skip (by kernel_rfl) ?_
    refine th_n ?_
    refine D_seq (by kernel_rfl) ?_
    refine D_block (id := 1) (by kernel_rfl) ?_
    refine D_seq (by kernel_rfl) ?_
    refine D_reg (cs := []) (τ := ⟨19, [(0, .cv (.one (.own 3))), (1, .cv (.one (.fn 37 [] [(1, 0)]))), (5, .cv (.one (.int .i64 p2))), (7, .cv (.one (.int .i64 p1))), (8, .cv (.one (.int .i64 p2)))], [(.box 3, [.int .i64 p3, .int .i64 p4, .own 3]), (.box 1, [.int .i64 p5]), (.box 3, [.int .i64 p6, .int .i64 p7, .nils]), (.buf 41 T4414 p8, [])]⟩) hV 0 [] {live := [0, 1, 5, 7, 8], src := [some 0, some 1, some 2, some 3]} (by kernel_rfl) (by kernel_rfl) trivial ?_
    refine th_n ?_
    refine D_seq (by kernel_rfl) ?_
    refine D_regI [0, 1, 2, 3, 4, 5] (by kernel_rfl) (by kernel_rfl) ?_
    obtain ⟨n2, H⟩ := of_if H
    obtain ⟨n3, H⟩ := of_if H
    refine D_ev (cs := [0 ≤ p2, p2 < (p8.length : Int)]) (τ := ⟨19, [(0, .cv (.one (.own 3))), (1, .cv (.one (.fn 37 [] [(1, 0)]))), (5, .cv (.one (.int .i64 p2))), (7, .cv (.one (.int .i64 p1))), (8, .cv (.one (.int .i64 p2))), (11, .cv (.one (.fn 37 [] [(1, 0)]))), (12, .cv (.one (.own 3))), (13, .cv (.one (.int .i64 p2))), (14, .cv (.one (.eptr 3 T4414 p2 0))), (15, .cv (.agg [.int .i64 ((att T4414 p8 p2).1), .int .i64 (((att T4414 p8 p2).2).1), .int .i64 ((((att T4414 p8 p2).2).2).1), .int .i64 (((((att T4414 p8 p2).2).2).2).1), .int .i64 (((((((att T4414 p8 p2).2).2).2).2).1).1), .int .i64 (((((((att T4414 p8 p2).2).2).2).2).1).2), .int .i64 (((((((att T4414 p8 p2).2).2).2).2).2).1), .int .i64 ((((((((att T4414 p8 p2).2).2).2).2).2).2).1), .int .i64 (((((((((att T4414 p8 p2).2).2).2).2).2).2).2).1), .int .i64 (((((((((att T4414 p8 p2).2).2).2).2).2).2).2).2)]))], [(.box 3, [.int .i64 p3, .int .i64 p4, .own 3]), (.box 1, [.int .i64 p5]), (.box 3, [.int .i64 p6, .int .i64 p7, .nils]), (.buf 41 T4414 p8, [])]⟩) hV 0 [] [0, 1, 2, 3, 4] [5] rfl (by kernel_rfl) ⟨n2, n3, trivial⟩ ?_
    obtain ⟨y4, e5, H⟩ := of_bind H
    refine D_call (f := 37) (N := 4) (cvs := [.agg [.int .i64 ((att T4414 p8 p2).1), .int .i64 (((att T4414 p8 p2).2).1), .int .i64 ((((att T4414 p8 p2).2).2).1), .int .i64 (((((att T4414 p8 p2).2).2).2).1), .int .i64 (((((((att T4414 p8 p2).2).2).2).2).1).1), .int .i64 (((((((att T4414 p8 p2).2).2).2).2).1).2), .int .i64 (((((((att T4414 p8 p2).2).2).2).2).2).1), .int .i64 ((((((((att T4414 p8 p2).2).2).2).2).2).2).1), .int .i64 (((((((((att T4414 p8 p2).2).2).2).2).2).2).2).1), .int .i64 (((((((((att T4414 p8 p2).2).2).2).2).2).2).2).2)], .one (.ptr 1 0)]) (σ0 := i_sess_Done_1_7b4.s0 (att T4414 p8 p2) p3 p4 p5 p6 p7 p8) (τ := i_sess_Done_1_7b4.out y4) (σ2 := ⟨19, [(0, .cv (.one (.own 3))), (1, .cv (.one (.fn 37 [] [(1, 0)]))), (5, .cv (.one (.int .i64 p2))), (7, .cv (.one (.int .i64 p1))), (8, .cv (.one (.int .i64 p2))), (11, .cv (.one (.fn 37 [] [(1, 0)]))), (12, .cv (.one (.own 3))), (13, .cv (.one (.int .i64 p2))), (14, .cv (.one (.eptr 3 T4414 p2 0))), (15, .cv (.agg [.int .i64 ((att T4414 p8 p2).1), .int .i64 (((att T4414 p8 p2).2).1), .int .i64 ((((att T4414 p8 p2).2).2).1), .int .i64 (((((att T4414 p8 p2).2).2).2).1), .int .i64 (((((((att T4414 p8 p2).2).2).2).2).1).1), .int .i64 (((((((att T4414 p8 p2).2).2).2).2).1).2), .int .i64 (((((((att T4414 p8 p2).2).2).2).2).2).1), .int .i64 ((((((((att T4414 p8 p2).2).2).2).2).2).2).1), .int .i64 (((((((((att T4414 p8 p2).2).2).2).2).2).2).2).1), .int .i64 (((((((((att T4414 p8 p2).2).2).2).2).2).2).2).2)])), (16, .cv (.one (.bool y4.1)))], [(.box 3, [.int .i64 y4.2.1, .int .i64 y4.2.2.1, .own 3]), (.box 1, [.int .i64 y4.2.2.2.1]), (.box 3, [.int .i64 y4.2.2.2.2.1, .int .i64 y4.2.2.2.2.2.1, .nils]), (.buf 41 T4414 y4.2.2.2.2.2.2.1, [])]⟩) hV 5 (by kernel_rfl) Go.Proofs.Try.func37 (by kernel_rfl) (by decide) (by kernel_rfl) (by kernel_rfl) (by kernel_rfl) (i_sess_Done_1_7b4.ok k (att T4414 p8 p2) p3 p4 p5 p6 p7 p8 e5) (by kernel_rfl) ?_
    refine WO_tell (τ := ⟨19, [(0, .cv (.one (.own 3))), (1, .cv (.one (.fn 37 [] [(1, 0)]))), (5, .cv (.one (.int .i64 p2))), (7, .cv (.one (.int .i64 p1))), (8, .cv (.one (.int .i64 p2))), (16, .cv (.one (.bool y4.1)))], [(.box 3, [.int .i64 y4.2.1, .int .i64 y4.2.2.1, .own 3]), (.box 1, [.int .i64 y4.2.2.2.1]), (.box 3, [.int .i64 y4.2.2.2.2.1, .int .i64 y4.2.2.2.2.2.1, .nils]), (.buf 41 T4414 y4.2.2.2.2.2.2.1, [])]⟩) {live := [0, 1, 5, 7, 8, 16], src := [some 0, some 1, some 2, some 3]} (by kernel_rfl) (by kernel_rfl) ?_
    refine WO_nil ?_
    refine th_n ?_
    refine D_condB (t := 16) (b := y4.1) (by kernel_rfl) (by kernel_rfl) (fun hb6 => ?_) (fun hb6 => ?_)
    · rw [if_pos hb6] at H
      refine D_seq (by kernel_rfl) ?_
      refine D_reg (cs := []) (τ := ⟨19, [(4, .cv (.one (.int .i64 p2)))], [(.box 3, [.int .i64 y4.2.1, .int .i64 y4.2.2.1, .own 3]), (.box 1, [.int .i64 y4.2.2.2.1]), (.box 3, [.int .i64 y4.2.2.2.2.1, .int .i64 y4.2.2.2.2.2.1, .nils]), (.buf 41 T4414 y4.2.2.2.2.2.2.1, [])]⟩) hV 0 [] {live := [4], src := [some 0, some 1, some 2, some 3]} (by kernel_rfl) (by kernel_rfl) trivial ?_
      refine th_n ?_
      refine D_ret (by kernel_rfl) ?_
      refine bl_r ?_
      refine th_r ?_
      refine ro_r ?_
      refine bl_r ?_
      refine th_r ?_
      obtain rfl := Option.some.inj H
      exact cq_r {fz := [], gr := 0, ad := [], live := [4], src := [some 0, some 1, some 2, some 3]} (by kernel_rfl) (by kernel_rfl)
    · rw [if_neg (by rw [hb6]; decide)] at H
      refine D_skip (by kernel_rfl) ?_
      refine bl_n ?_
      refine th_n ?_
      refine D_reg (cs := []) (τ := ⟨19, [(0, .cv (.one (.own 3))), (1, .cv (.one (.fn 37 [] [(1, 0)]))), (7, .cv (.one (.int .i64 p1))), (8, .cv (.one (.int .i64 (IntKind.i64.wrap (p2 + 1)))))], [(.box 3, [.int .i64 y4.2.1, .int .i64 y4.2.2.1, .own 3]), (.box 1, [.int .i64 y4.2.2.2.1]), (.box 3, [.int .i64 y4.2.2.2.2.1, .int .i64 y4.2.2.2.2.2.1, .nils]), (.buf 41 T4414 y4.2.2.2.2.2.2.1, [])]⟩) hV 0 [] {live := [0, 1, 7, 8], src := [some 0, some 1, some 2, some 3]} (by kernel_rfl) (by kernel_rfl) trivial ?_
      refine ro_n (WL_tell (τ := i_slices_IndexFunc_Msg_8b9.s1 p1 (IntKind.i64.wrap (p2 + 1)) y4.2.1 y4.2.2.1 y4.2.2.2.1 y4.2.2.2.2.1 y4.2.2.2.2.2.1 y4.2.2.2.2.2.2.1) {fz := [], gr := 0, ad := [], live := [0, 1, 7, 8], src := [some 0, some 1, some 2, some 3]} (by kernel_rfl) (by kernel_rfl) ?_)
      exact hL1 p1 (IntKind.i64.wrap (p2 + 1)) y4.2.1 y4.2.2.1 y4.2.2.2.1 y4.2.2.2.2.1 y4.2.2.2.2.2.1 y4.2.2.2.2.2.2.1 H
  · rw [if_neg (by rw [hb1]; decide)] at H
    refine D_exit (id := 0) (by kernel_rfl) ?_
    refine th_x ?_
    refine ro_x ?_
    refine bl_h ?_
    refine th_n ?_
    refine D_seq (by kernel_rfl) ?_
    refine D_reg (cs := []) (τ := ⟨19, [(4, .cv (.one (.int .i64 (-1))))], [(.box 3, [.int .i64 p3, .int .i64 p4, .own 3]), (.box 1, [.int .i64 p5]), (.box 3, [.int .i64 p6, .int .i64 p7, .nils]), (.buf 41 T4414 p8, [])]⟩) hV 0 [] {live := [4], src := [some 0, some 1, some 2, some 3]} (by kernel_rfl) (by kernel_rfl) trivial ?_
    refine th_n ?_
    refine D_ret (by kernel_rfl) ?_
    obtain rfl := Option.some.inj H
    exact cq_r {fz := [], gr := 0, ad := [], live := [4], src := [some 0, some 1, some 2, some 3]} (by kernel_rfl) (by kernel_rfl)
noncomputable def i_slices_IndexFunc_Msg_8b9.l1 (k : Nat) : Nat → Int → Int → Int → Int → Int → Int → Int → List T4414.T → Option i_slices_IndexFunc_Msg_8b9.R
  | 0, _, _, _, _, _, _, _, _ => none
  | m + 1, p1, p2, p3, p4, p5, p6, p7, p8 => i_slices_IndexFunc_Msg_8b9.b1 (i_slices_IndexFunc_Msg_8b9.l1 k m) k p1 p2 p3 p4 p5 p6 p7 p8
theorem i_slices_IndexFunc_Msg_8b9.l1_ok (hV : EnvOk P i_slices_IndexFunc_Msg_8b9.V) {r : i_slices_IndexFunc_Msg_8b9.R} (k : Nat) : ∀ (m1 : Nat) (p1 : Int) (p2 : Int) (p3 : Int) (p4 : Int) (p5 : Int) (p6 : Int) (p7 : Int) (p8 : List T4414.T), i_slices_IndexFunc_Msg_8b9.l1 k m1 p1 p2 p3 p4 p5 p6 p7 p8 = some r → WL P 4 (Code.l (Code.l (Code.r (Code.l (Code.r i_slices_IndexFunc_Msg_8b9.c0))))) (blockW 0 (thenW P 4 (Code.r (Code.r i_slices_IndexFunc_Msg_8b9.c0)) (i_slices_IndexFunc_Msg_8b9.Q r))) m1 (i_slices_IndexFunc_Msg_8b9.s1 p1 p2 p3 p4 p5 p6 p7 p8)
  | 0, _, _, _, _, _, _, _, _, H => by cases H
  | m1 + 1, p1, p2, p3, p4, p5, p6, p7, p8, H => WL_succ (i_slices_IndexFunc_Msg_8b9.b1_ok hV (i_slices_IndexFunc_Msg_8b9.l1 k m1) m1 (fun p1 p2 p3 p4 p5 p6 p7 p8 H => i_slices_IndexFunc_Msg_8b9.l1_ok hV k m1 p1 p2 p3 p4 p5 p6 p7 p8 H) k p1 p2 p3 p4 p5 p6 p7 p8 H)
noncomputable def i_slices_IndexFunc_Msg_8b9.f (k : Nat) (p1 : Int) (p2 : Int) (p3 : Int) (p4 : Int) (p5 : Int) (p6 : List T4414.T) : Option i_slices_IndexFunc_Msg_8b9.R :=
  i_slices_IndexFunc_Msg_8b9.l1 k k (p6.length : Int) 0 p1 p2 p3 p4 p5 p6
theorem i_slices_IndexFunc_Msg_8b9.f_ok (hV : EnvOk P i_slices_IndexFunc_Msg_8b9.V) {r : i_slices_IndexFunc_Msg_8b9.R} (k : Nat) (p1 : Int) (p2 : Int) (p3 : Int) (p4 : Int) (p5 : Int) (p6 : List T4414.T) (H : i_slices_IndexFunc_Msg_8b9.f k p1 p2 p3 p4 p5 p6 = some r) : W P 4 i_slices_IndexFunc_Msg_8b9.c0 (⟨19, [(0, .cv (.one (.own 3))), (1, .cv (.one (.fn 37 [] [(1, 0)])))], [(.box 3, [.int .i64 p1, .int .i64 p2, .own 3]), (.box 1, [.int .i64 p3]), (.box 3, [.int .i64 p4, .int .i64 p5, .nils]), (.buf 41 T4414 p6, [])]⟩) (i_slices_IndexFunc_Msg_8b9.Q r) := by
  unfold i_slices_IndexFunc_Msg_8b9.f at H
  refine D_seq (by kernel_rfl) ?_
  refine D_reg (cs := []) (τ := ⟨19, [(0, .cv (.one (.own 3))), (1, .cv (.one (.fn 37 [] [(1, 0)])))], [(.box 3, [.int .i64 p1, .int .i64 p2, .own 3]), (.box 1, [.int .i64 p3]), (.box 3, [.int .i64 p4, .int .i64 p5, .nils]), (.buf 41 T4414 p6, [])]⟩) hV 0 [] {live := [0, 1], src := [some 0, some 1, some 2, some 3]} (by kernel_rfl) (by kernel_rfl) trivial ?_
  refine th_n ?_
  refine D_seq (by kernel_rfl) ?_
  refine D_seq (by kernel_rfl) ?_
  refine D_reg (cs := []) (τ := ⟨19, [(0, .cv (.one (.own 3))), (1, .cv (.one (.fn 37 [] [(1, 0)]))), (7, .cv (.one (.int .i64 (p6.length : Int)))), (8, .cv (.one (.int .i64 0)))], [(.box 3, [.int .i64 p1, .int .i64 p2, .own 3]), (.box 1, [.int .i64 p3]), (.box 3, [.int .i64 p4, .int .i64 p5, .nils]), (.buf 41 T4414 p6, [])]⟩) hV 0 [] {live := [0, 1, 7, 8], src := [some 0, some 1, some 2, some 3]} (by kernel_rfl) (by kernel_rfl) trivial ?_
  refine th_n ?_
  refine D_block (id := 0) (by kernel_rfl) ?_
  refine W_tell (τ := i_slices_IndexFunc_Msg_8b9.s1 (p6.length : Int) 0 p1 p2 p3 p4 p5 p6) {fz := [], gr := 0, ad := [], live := [0, 1, 7, 8], src := [some 0, some 1, some 2, some 3]} (by kernel_rfl) (by kernel_rfl) ?_
  exact D_loop (by kernel_rfl) k (i_slices_IndexFunc_Msg_8b9.l1_ok hV k k (p6.length : Int) 0 p1 p2 p3 p4 p5 p6 H)
theorem i_slices_IndexFunc_Msg_8b9.ok {r : i_slices_IndexFunc_Msg_8b9.R} (k : Nat) (p1 : Int) (p2 : Int) (p3 : Int) (p4 : Int) (p5 : Int) (p6 : List T4414.T) (H : i_slices_IndexFunc_Msg_8b9.f k p1 p2 p3 p4 p5 p6 = some r) : W P 4 i_slices_IndexFunc_Msg_8b9.c0 (i_slices_IndexFunc_Msg_8b9.s0 p1 p2 p3 p4 p5 p6) (CallQ 4 (i_slices_IndexFunc_Msg_8b9.out r)) := i_slices_IndexFunc_Msg_8b9.f_ok i_slices_IndexFunc_Msg_8b9.V_ok k p1 p2 p3 p4 p5 p6 H
/-! ### i_sess_Done_1_dca: function 37, wayfinder/sess.Done$1, where it is called -/
noncomputable def i_sess_Done_1_dca.c0 : Code := (Go.Proofs.Try.f37.body).getD .skip
noncomputable def i_sess_Done_1_dca.G : List (Nat × Spec) := []
noncomputable def i_sess_Done_1_dca.V : Env := { tt := tt, Γ := slk i_sess_Done_1_dca.G }
theorem i_sess_Done_1_dca.V_ok : EnvOk P i_sess_Done_1_dca.V := { ck := tt_ck, fits := slk_nil, mixed := mixed }
abbrev i_sess_Done_1_dca.R := (Bool) × (Int) × (Int) × (Int) × (Int) × (Int) × (List T4414.T) × (T4414.T) × Unit
noncomputable def i_sess_Done_1_dca.s0 (p1 : T4414.T) (p2 : Int) (p3 : Int) (p4 : Int) (p5 : Int) (p6 : Int) (p7 : List T4414.T) (p8 : T4414.T) : St := ⟨8, [(0, .cv (.agg [.int .i64 p1.1, .int .i64 p1.2.1, .int .i64 p1.2.2.1, .int .i64 p1.2.2.2.1, .int .i64 p1.2.2.2.2.1.1, .int .i64 p1.2.2.2.2.1.2, .int .i64 p1.2.2.2.2.2.1, .int .i64 p1.2.2.2.2.2.2.1, .int .i64 p1.2.2.2.2.2.2.2.1, .int .i64 p1.2.2.2.2.2.2.2.2])), (1, .cv (.one (.ptr 1 0)))], [(.box 3, [.int .i64 p2, .int .i64 p3, .own 3]), (.box 1, [.int .i64 p4]), (.box 3, [.int .i64 p5, .int .i64 p6, .nils]), (.buf 41 T4414 p7, []), (.box 10, [.int .i64 p8.1, .int .i64 p8.2.1, .int .i64 p8.2.2.1, .int .i64 p8.2.2.2.1, .int .i64 p8.2.2.2.2.1.1, .int .i64 p8.2.2.2.2.1.2, .int .i64 p8.2.2.2.2.2.1, .int .i64 p8.2.2.2.2.2.2.1, .int .i64 p8.2.2.2.2.2.2.2.1, .int .i64 p8.2.2.2.2.2.2.2.2])]⟩
noncomputable def i_sess_Done_1_dca.out (r : i_sess_Done_1_dca.R) : St := ⟨8, [(3, .cv (.one (.bool r.1)))], [(.box 3, [.int .i64 r.2.1, .int .i64 r.2.2.1, .own 3]), (.box 1, [.int .i64 r.2.2.2.1]), (.box 3, [.int .i64 r.2.2.2.2.1, .int .i64 r.2.2.2.2.2.1, .nils]), (.buf 41 T4414 r.2.2.2.2.2.2.1, []), (.box 10, [.int .i64 r.2.2.2.2.2.2.2.1.1, .int .i64 r.2.2.2.2.2.2.2.1.2.1, .int .i64 r.2.2.2.2.2.2.2.1.2.2.1, .int .i64 r.2.2.2.2.2.2.2.1.2.2.2.1, .int .i64 r.2.2.2.2.2.2.2.1.2.2.2.2.1.1, .int .i64 r.2.2.2.2.2.2.2.1.2.2.2.2.1.2, .int .i64 r.2.2.2.2.2.2.2.1.2.2.2.2.2.1, .int .i64 r.2.2.2.2.2.2.2.1.2.2.2.2.2.2.1, .int .i64 r.2.2.2.2.2.2.2.1.2.2.2.2.2.2.2.1, .int .i64 r.2.2.2.2.2.2.2.1.2.2.2.2.2.2.2.2])]⟩
abbrev i_sess_Done_1_dca.Q (r : i_sess_Done_1_dca.R) := CallQ 5 (i_sess_Done_1_dca.out r)
noncomputable def i_sess_Done_1_dca.f (k : Nat) (p1 : T4414.T) (p2 : Int) (p3 : Int) (p4 : Int) (p5 : Int) (p6 : Int) (p7 : List T4414.T) (p8 : T4414.T) : Option i_sess_Done_1_dca.R :=
  some ((decide (p1.2.2.1 ≤ p4)), (p2, (p3, (p4, (p5, (p6, (p7, (p8, ()))))))))
theorem i_sess_Done_1_dca.f_ok (hV : EnvOk P i_sess_Done_1_dca.V) {r : i_sess_Done_1_dca.R} (k : Nat) (p1 : T4414.T) (p2 : Int) (p3 : Int) (p4 : Int) (p5 : Int) (p6 : Int) (p7 : List T4414.T) (p8 : T4414.T) (H : i_sess_Done_1_dca.f k p1 p2 p3 p4 p5 p6 p7 p8 = some r) : W P 5 i_sess_Done_1_dca.c0 (⟨8, [(0, .cv (.agg [.int .i64 p1.1, .int .i64 p1.2.1, .int .i64 p1.2.2.1, .int .i64 p1.2.2.2.1, .int .i64 p1.2.2.2.2.1.1, .int .i64 p1.2.2.2.2.1.2, .int .i64 p1.2.2.2.2.2.1, .int .i64 p1.2.2.2.2.2.2.1, .int .i64 p1.2.2.2.2.2.2.2.1, .int .i64 p1.2.2.2.2.2.2.2.2])), (1, .cv (.one (.ptr 1 0)))], [(.box 3, [.int .i64 p2, .int .i64 p3, .own 3]), (.box 1, [.int .i64 p4]), (.box 3, [.int .i64 p5, .int .i64 p6, .nils]), (.buf 41 T4414 p7, []), (.box 10, [.int .i64 p8.1, .int .i64 p8.2.1, .int .i64 p8.2.2.1, .int .i64 p8.2.2.2.1, .int .i64 p8.2.2.2.2.1.1, .int .i64 p8.2.2.2.2.1.2, .int .i64 p8.2.2.2.2.2.1, .int .i64 p8.2.2.2.2.2.2.1, .int .i64 p8.2.2.2.2.2.2.2.1, .int .i64 p8.2.2.2.2.2.2.2.2])]⟩) (i_sess_Done_1_dca.Q r) := by
  unfold i_sess_Done_1_dca.f at H
  refine D_seq (by kernel_rfl) ?_
  refine D_reg (cs := []) (τ := ⟨8, [(1, .cv (.one (.ptr 1 0))), (2, .cv (.one (.ptr 5 0)))], [(.box 3, [.int .i64 p2, .int .i64 p3, .own 3]), (.box 1, [.int .i64 p4]), (.box 3, [.int .i64 p5, .int .i64 p6, .nils]), (.buf 41 T4414 p7, []), (.box 10, [.int .i64 p8.1, .int .i64 p8.2.1, .int .i64 p8.2.2.1, .int .i64 p8.2.2.2.1, .int .i64 p8.2.2.2.2.1.1, .int .i64 p8.2.2.2.2.1.2, .int .i64 p8.2.2.2.2.2.1, .int .i64 p8.2.2.2.2.2.2.1, .int .i64 p8.2.2.2.2.2.2.2.1, .int .i64 p8.2.2.2.2.2.2.2.2]), (.box 10, [.int .i64 p1.1, .int .i64 p1.2.1, .int .i64 p1.2.2.1, .int .i64 p1.2.2.2.1, .int .i64 p1.2.2.2.2.1.1, .int .i64 p1.2.2.2.2.1.2, .int .i64 p1.2.2.2.2.2.1, .int .i64 p1.2.2.2.2.2.2.1, .int .i64 p1.2.2.2.2.2.2.2.1, .int .i64 p1.2.2.2.2.2.2.2.2])]⟩) hV 1 [(0, {sb := 5})] {live := [1, 2], src := [some 0, some 1, some 2, some 3, some 4, some 5]} (by kernel_rfl) (by kernel_rfl) trivial ?_
  refine th_n ?_
  refine D_seq (by kernel_rfl) ?_
  refine D_reg (cs := []) (τ := ⟨8, [(3, .cv (.one (.bool (decide (p1.2.2.1 ≤ p4)))))], [(.box 3, [.int .i64 p2, .int .i64 p3, .own 3]), (.box 1, [.int .i64 p4]), (.box 3, [.int .i64 p5, .int .i64 p6, .nils]), (.buf 41 T4414 p7, []), (.box 10, [.int .i64 p8.1, .int .i64 p8.2.1, .int .i64 p8.2.2.1, .int .i64 p8.2.2.2.1, .int .i64 p8.2.2.2.2.1.1, .int .i64 p8.2.2.2.2.1.2, .int .i64 p8.2.2.2.2.2.1, .int .i64 p8.2.2.2.2.2.2.1, .int .i64 p8.2.2.2.2.2.2.2.1, .int .i64 p8.2.2.2.2.2.2.2.2])]⟩) hV 0 [] {live := [3], src := [some 0, some 1, some 2, some 3, some 4]} (by kernel_rfl) (by kernel_rfl) trivial ?_
  refine th_n ?_
  refine D_ret (by kernel_rfl) ?_
  obtain rfl := Option.some.inj H
  exact cq_r {fz := [], gr := 0, ad := [], live := [3], src := [some 0, some 1, some 2, some 3, some 4]} (by kernel_rfl) (by kernel_rfl)
theorem i_sess_Done_1_dca.ok {r : i_sess_Done_1_dca.R} (k : Nat) (p1 : T4414.T) (p2 : Int) (p3 : Int) (p4 : Int) (p5 : Int) (p6 : Int) (p7 : List T4414.T) (p8 : T4414.T) (H : i_sess_Done_1_dca.f k p1 p2 p3 p4 p5 p6 p7 p8 = some r) : W P 5 i_sess_Done_1_dca.c0 (i_sess_Done_1_dca.s0 p1 p2 p3 p4 p5 p6 p7 p8) (CallQ 5 (i_sess_Done_1_dca.out r)) := i_sess_Done_1_dca.f_ok i_sess_Done_1_dca.V_ok k p1 p2 p3 p4 p5 p6 p7 p8 H
/-! ### i_slices_DeleteFunc_Msg_8b9: function 36, slices.DeleteFunc[[]wayfinder/api.Msg,wayfinder/api.Msg], where it is called -/
noncomputable def i_slices_DeleteFunc_Msg_8b9.c0 : Code := (Go.Proofs.Try.f36.body).getD .skip
noncomputable def i_slices_DeleteFunc_Msg_8b9.G : List (Nat × Spec) := []
noncomputable def i_slices_DeleteFunc_Msg_8b9.V : Env := { tt := tt, Γ := slk i_slices_DeleteFunc_Msg_8b9.G }
theorem i_slices_DeleteFunc_Msg_8b9.V_ok : EnvOk P i_slices_DeleteFunc_Msg_8b9.V := { ck := tt_ck, fits := slk_nil, mixed := mixed }
abbrev i_slices_DeleteFunc_Msg_8b9.R := (List T4414.T) × (Int) × (Int) × (Int) × (Int) × (Int) × Unit
noncomputable def i_slices_DeleteFunc_Msg_8b9.s0 (p1 : Int) (p2 : Int) (p3 : Int) (p4 : Int) (p5 : Int) (p6 : List T4414.T) : St := ⟨42, [(0, .cv (.one (.own 3))), (1, .cv (.one (.fn 37 [] [(1, 0)])))], [(.box 3, [.int .i64 p1, .int .i64 p2, .own 3]), (.box 1, [.int .i64 p3]), (.box 3, [.int .i64 p4, .int .i64 p5, .nils]), (.buf 41 T4414 p6, [])]⟩
noncomputable def i_slices_DeleteFunc_Msg_8b9.out (r : i_slices_DeleteFunc_Msg_8b9.R) : St := ⟨42, [(4, .cv (.one (.sl T4414 r.1 .any)))], [(.box 3, [.int .i64 r.2.1, .int .i64 r.2.2.1, .bad]), (.box 1, [.int .i64 r.2.2.2.1]), (.box 3, [.int .i64 r.2.2.2.2.1, .int .i64 r.2.2.2.2.2.1, .nils]), (.dead, [])]⟩
abbrev i_slices_DeleteFunc_Msg_8b9.Q (r : i_slices_DeleteFunc_Msg_8b9.R) := CallQ 4 (i_slices_DeleteFunc_Msg_8b9.out r)
noncomputable def i_slices_DeleteFunc_Msg_8b9.s1 (p1 : Int) (p2 : Int) (p3 : Int) (p4 : Int) (p5 : Int) (p6 : Int) (p7 : Int) (p8 : List T4414.T) : St := ⟨42, [(0, .cv (.one (.own 3))), (1, .cv (.one (.fn 37 [] [(1, 0)]))), (5, .cv (.one (.int .i64 p1))), (6, .cv (.one (.int .i64 p2)))], [(.box 3, [.int .i64 p3, .int .i64 p4, .own 3]), (.box 1, [.int .i64 p5]), (.box 3, [.int .i64 p6, .int .i64 p7, .nils]), (.buf 41 T4414 p8, [])]⟩
noncomputable def i_slices_DeleteFunc_Msg_8b9.s2 (p1 : Int) (p2 : Int) (p3 : Int) (p4 : Int) (p5 : Int) (p6 : Int) (p7 : Int) (p8 : List T4414.T) : St := ⟨42, [(0, .cv (.one (.own 3))), (1, .cv (.one (.fn 37 [] [(1, 0)]))), (5, .cv (.one (.int .i64 p1))), (6, .cv (.one (.int .i64 p2)))], [(.box 3, [.int .i64 p3, .int .i64 p4, .own 3]), (.box 1, [.int .i64 p5]), (.box 3, [.int .i64 p6, .int .i64 p7, .nils]), (.buf 41 T4414 p8, [])]⟩
noncomputable def i_slices_DeleteFunc_Msg_8b9.j2 (L1 : Int → Int → Int → Int → Int → Int → Int → List T4414.T → Option i_slices_DeleteFunc_Msg_8b9.R) (k : Nat) (p1 : Int) (p2 : Int) (p3 : Int) (p4 : Int) (p5 : Int) (p6 : Int) (p7 : Int) (p8 : List T4414.T) : Option i_slices_DeleteFunc_Msg_8b9.R :=
  L1 p1 (IntKind.i64.wrap (p2 + 1)) p3 p4 p5 p6 p7 p8
theorem i_slices_DeleteFunc_Msg_8b9.j2_ok (hV : EnvOk P i_slices_DeleteFunc_Msg_8b9.V) {r : i_slices_DeleteFunc_Msg_8b9.R} (L1 : Int → Int → Int → Int → Int → Int → Int → List T4414.T → Option i_slices_DeleteFunc_Msg_8b9.R) (m1 : Nat) (hL1 : ∀ (p1 : Int) (p2 : Int) (p3 : Int) (p4 : Int) (p5 : Int) (p6 : Int) (p7 : Int) (p8 : List T4414.T), L1 p1 p2 p3 p4 p5 p6 p7 p8 = some r → WL P 4 (Code.l (Code.l (Code.r (Code.l (Code.r (Code.r (Code.r i_slices_DeleteFunc_Msg_8b9.c0))))))) (blockW 0 (thenW P 4 (Code.r (Code.r (Code.r (Code.r i_slices_DeleteFunc_Msg_8b9.c0)))) (i_slices_DeleteFunc_Msg_8b9.Q r))) m1 (i_slices_DeleteFunc_Msg_8b9.s1 p1 p2 p3 p4 p5 p6 p7 p8)) (k : Nat) (p1 : Int) (p2 : Int) (p3 : Int) (p4 : Int) (p5 : Int) (p6 : Int) (p7 : Int) (p8 : List T4414.T) (H : i_slices_DeleteFunc_Msg_8b9.j2 L1 k p1 p2 p3 p4 p5 p6 p7 p8 = some r) : W P 4 (Code.r (Code.r (Code.l (Code.l (Code.r (Code.l (Code.r (Code.r (Code.r i_slices_DeleteFunc_Msg_8b9.c0))))))))) (i_slices_DeleteFunc_Msg_8b9.s2 p1 p2 p3 p4 p5 p6 p7 p8) (roundW P 4 (Code.l (Code.l (Code.r (Code.l (Code.r (Code.r (Code.r i_slices_DeleteFunc_Msg_8b9.c0))))))) (blockW 0 (thenW P 4 (Code.r (Code.r (Code.r (Code.r i_slices_DeleteFunc_Msg_8b9.c0)))) (i_slices_DeleteFunc_Msg_8b9.Q r))) m1) := by
  unfold i_slices_DeleteFunc_Msg_8b9.j2 at H
  refine D_reg (cs := []) (τ := ⟨42, [(0, .cv (.one (.own 3))), (1, .cv (.one (.fn 37 [] [(1, 0)]))), (5, .cv (.one (.int .i64 p1))), (6, .cv (.one (.int .i64 (IntKind.i64.wrap (p2 + 1)))))], [(.box 3, [.int .i64 p3, .int .i64 p4, .own 3]), (.box 1, [.int .i64 p5]), (.box 3, [.int .i64 p6, .int .i64 p7, .nils]), (.buf 41 T4414 p8, [])]⟩) hV 0 [] {live := [0, 1, 5, 6], src := [some 0, some 1, some 2, some 3]} (by kernel_rfl) (by kernel_rfl) trivial ?_
  refine ro_n (WL_tell (τ := i_slices_DeleteFunc_Msg_8b9.s1 p1 (IntKind.i64.wrap (p2 + 1)) p3 p4 p5 p6 p7 p8) {fz := [], gr := 0, ad := [], live := [0, 1, 5, 6], src := [some 0, some 1, some 2, some 3]} (by kernel_rfl) (by kernel_rfl) ?_)
  exact hL1 p1 (IntKind.i64.wrap (p2 + 1)) p3 p4 p5 p6 p7 p8 H
noncomputable def i_slices_DeleteFunc_Msg_8b9.b1 (L1 : Int → Int → Int → Int → Int → Int → Int → List T4414.T → Option i_slices_DeleteFunc_Msg_8b9.R) (k : Nat) (p1 : Int) (p2 : Int) (p3 : Int) (p4 : Int) (p5 : Int) (p6 : Int) (p7 : Int) (p8 : List T4414.T) : Option i_slices_DeleteFunc_Msg_8b9.R :=
  if (decide (p2 < (p8.length : Int))) = true then
  if 0 ≤ p2 then
    if p2 < (p8.length : Int) then
      (i_sess_Done_1_dca.f k (att T4414 p8 p2) p3 p4 p5 p6 p7 p8 (att T4414 p8 p2)).bind fun y7 =>
        if (!y7.1) = true then
          if 0 ≤ p1 then
            if p1 < (y7.2.2.2.2.2.2.1.length : Int) then
              i_slices_DeleteFunc_Msg_8b9.j2 L1 k (IntKind.i64.wrap (p1 + 1)) p2 y7.2.1 y7.2.2.1 y7.2.2.2.1 y7.2.2.2.2.1 y7.2.2.2.2.2.1 (y7.2.2.2.2.2.2.1.set p1.toNat y7.2.2.2.2.2.2.2.1)
            else none
          else none
        else
          i_slices_DeleteFunc_Msg_8b9.j2 L1 k p1 p2 y7.2.1 y7.2.2.1 y7.2.2.2.1 y7.2.2.2.2.1 y7.2.2.2.2.2.1 y7.2.2.2.2.2.2.1
    else none
  else none
else
  if 0 ≤ p1 ∧ p1 ≤ (p8.length : Int) then
    if 0 ≤ p1 ∧ p1 ≤ ((p8.take p1.toNat ++ List.replicate (p8.length - p1.toNat) ((0, (0, (0, (0, ((0, 0), (0, (0, (0, 0)))))))) : T4414.T)).length : Int) then
      some (((p8.take p1.toNat ++ List.replicate (p8.length - p1.toNat) ((0, (0, (0, (0, ((0, 0), (0, (0, (0, 0)))))))) : T4414.T)).take p1.toNat), (p3, (p4, (p5, (p6, (p7, ()))))))
    else none
  else none
theorem i_slices_DeleteFunc_Msg_8b9.b1_ok (hV : EnvOk P i_slices_DeleteFunc_Msg_8b9.V) {r : i_slices_DeleteFunc_Msg_8b9.R} (L1 : Int → Int → Int → Int → Int → Int → Int → List T4414.T → Option i_slices_DeleteFunc_Msg_8b9.R) (m1 : Nat) (hL1 : ∀ (p1 : Int) (p2 : Int) (p3 : Int) (p4 : Int) (p5 : Int) (p6 : Int) (p7 : Int) (p8 : List T4414.T), L1 p1 p2 p3 p4 p5 p6 p7 p8 = some r → WL P 4 (Code.l (Code.l (Code.r (Code.l (Code.r (Code.r (Code.r i_slices_DeleteFunc_Msg_8b9.c0))))))) (blockW 0 (thenW P 4 (Code.r (Code.r (Code.r (Code.r i_slices_DeleteFunc_Msg_8b9.c0)))) (i_slices_DeleteFunc_Msg_8b9.Q r))) m1 (i_slices_DeleteFunc_Msg_8b9.s1 p1 p2 p3 p4 p5 p6 p7 p8)) (k : Nat) (p1 : Int) (p2 : Int) (p3 : Int) (p4 : Int) (p5 : Int) (p6 : Int) (p7 : Int) (p8 : List T4414.T) (H : i_slices_DeleteFunc_Msg_8b9.b1 L1 k p1 p2 p3 p4 p5 p6 p7 p8 = some r) : W P 4 (Code.l (Code.l (Code.r (Code.l (Code.r (Code.r (Code.r i_slices_DeleteFunc_Msg_8b9.c0))))))) (i_slices_DeleteFunc_Msg_8b9.s1 p1 p2 p3 p4 p5 p6 p7 p8) (roundW P 4 (Code.l (Code.l (Code.r (Code.l (Code.r (Code.r (Code.r i_slices_DeleteFunc_Msg_8b9.c0))))))) (blockW 0 (thenW P 4 (Code.r (Code.r (Code.r (Code.r i_slices_DeleteFunc_Msg_8b9.c0)))) (i_slices_DeleteFunc_Msg_8b9.Q r))) m1) := by
  unfold i_slices_DeleteFunc_Msg_8b9.b1 at H
  refine D_seq (by kernel_rfl) ?_
  refine D_seq (by kernel_rfl) ?_
  refine D_reg (cs := []) (τ := ⟨42, [(0, .cv (.one (.own 3))), (1, .cv (.one (.fn 37 [] [(1, 0)]))), (5, .cv (.one (.int .i64 p1))), (6, .cv (.one (.int .i64 p2))), (19, .cv (.one (.bool (decide (p2 < (p8.length : Int))))))], [(.box 3, [.int .i64 p3, .int .i64 p4, .own 3]), (.box 1, [.int .i64 p5]), (.box 3, [.int .i64 p6, .int .i64 p7, .nils]), (.buf 41 T4414 p8, [])]⟩) hV 0 [] {live := [0, 1, 5, 6, 19], src := [some 0, some 1, some 2, some 3]} (by kernel_rfl) (by kernel_rfl) trivial ?_
  refine th_n ?_
  refine D_condB (t := 19) (b := (decide (p2 < (p8.length : Int)))) (by kernel_rfl) (by kernel_rfl) (fun hb4 => ?_) (fun hb4 => ?_)
  · rw [if_pos hb4] at H
    refine D_skip (by kernel_rfl) ?_
    refine th_n ?_
    refine D_seq (by kernel_rfl) ?_
    refine D_block (id := 1) (by kernel_rfl) ?_
    refine D_seq (by kernel_rfl) ?_
    obtain ⟨n5, H⟩ := of_if H
    obtain ⟨n6, H⟩ := of_if H
    refine D_reg (cs := [0 ≤ p2, p2 < (p8.length : Int)]) (τ := ⟨42, [(0, .cv (.one (.own 3))), (1, .cv (.one (.fn 37 [] [(1, 0)]))), (5, .cv (.one (.int .i64 p1))), (6, .cv (.one (.int .i64 p2))), (7, .cv (.one (.ptr 4 0)))], [(.box 3, [.int .i64 p3, .int .i64 p4, .own 3]), (.box 1, [.int .i64 p5]), (.box 3, [.int .i64 p6, .int .i64 p7, .nils]), (.buf 41 T4414 p8, []), (.box 10, [.int .i64 ((att T4414 p8 p2).1), .int .i64 (((att T4414 p8 p2).2).1), .int .i64 ((((att T4414 p8 p2).2).2).1), .int .i64 (((((att T4414 p8 p2).2).2).2).1), .int .i64 (((((((att T4414 p8 p2).2).2).2).2).1).1), .int .i64 (((((((att T4414 p8 p2).2).2).2).2).1).2), .int .i64 (((((((att T4414 p8 p2).2).2).2).2).2).1), .int .i64 ((((((((att T4414 p8 p2).2).2).2).2).2).2).1), .int .i64 (((((((((att T4414 p8 p2).2).2).2).2).2).2).2).1), .int .i64 (((((((((att T4414 p8 p2).2).2).2).2).2).2).2).2)])]⟩) hV 1 [(4, {sb := 4})] {live := [0, 1, 5, 6, 7], src := [some 0, some 1, some 2, some 3, some 4]} (by kernel_rfl) (by kernel_rfl) ⟨n5, n6, trivial⟩ ?_
    refine th_n ?_
    refine D_seq (by kernel_rfl) ?_
    refine D_regI [0, 1, 2, 3] (by kernel_rfl) (by kernel_rfl) ?_
    refine D_ev (cs := []) (τ := ⟨42, [(0, .cv (.one (.own 3))), (1, .cv (.one (.fn 37 [] [(1, 0)]))), (5, .cv (.one (.int .i64 p1))), (6, .cv (.one (.int .i64 p2))), (7, .cv (.one (.ptr 4 0))), (26, .cv (.one (.fn 37 [] [(1, 0)]))), (27, .cv (.agg [.int .i64 ((att T4414 p8 p2).1), .int .i64 (((att T4414 p8 p2).2).1), .int .i64 ((((att T4414 p8 p2).2).2).1), .int .i64 (((((att T4414 p8 p2).2).2).2).1), .int .i64 (((((((att T4414 p8 p2).2).2).2).2).1).1), .int .i64 (((((((att T4414 p8 p2).2).2).2).2).1).2), .int .i64 (((((((att T4414 p8 p2).2).2).2).2).2).1), .int .i64 ((((((((att T4414 p8 p2).2).2).2).2).2).2).1), .int .i64 (((((((((att T4414 p8 p2).2).2).2).2).2).2).2).1), .int .i64 (((((((((att T4414 p8 p2).2).2).2).2).2).2).2).2)]))], [(.box 3, [.int .i64 p3, .int .i64 p4, .own 3]), (.box 1, [.int .i64 p5]), (.box 3, [.int .i64 p6, .int .i64 p7, .nils]), (.buf 41 T4414 p8, []), (.box 10, [.int .i64 ((att T4414 p8 p2).1), .int .i64 (((att T4414 p8 p2).2).1), .int .i64 ((((att T4414 p8 p2).2).2).1), .int .i64 (((((att T4414 p8 p2).2).2).2).1), .int .i64 (((((((att T4414 p8 p2).2).2).2).2).1).1), .int .i64 (((((((att T4414 p8 p2).2).2).2).2).1).2), .int .i64 (((((((att T4414 p8 p2).2).2).2).2).2).1), .int .i64 ((((((((att T4414 p8 p2).2).2).2).2).2).2).1), .int .i64 (((((((((att T4414 p8 p2).2).2).2).2).2).2).2).1), .int .i64 (((((((((att T4414 p8 p2).2).2).2).2).2).2).2).2)])]⟩) hV 0 [] [0, 1] [2, 3] rfl (by kernel_rfl) trivial ?_
    obtain ⟨y7, e8, H⟩ := of_bind H
    refine D_call (f := 37) (N := 5) (cvs := [.agg [.int .i64 ((att T4414 p8 p2).1), .int .i64 (((att T4414 p8 p2).2).1), .int .i64 ((((att T4414 p8 p2).2).2).1), .int .i64 (((((att T4414 p8 p2).2).2).2).1), .int .i64 (((((((att T4414 p8 p2).2).2).2).2).1).1), .int .i64 (((((((att T4414 p8 p2).2).2).2).2).1).2), .int .i64 (((((((att T4414 p8 p2).2).2).2).2).2).1), .int .i64 ((((((((att T4414 p8 p2).2).2).2).2).2).2).1), .int .i64 (((((((((att T4414 p8 p2).2).2).2).2).2).2).2).1), .int .i64 (((((((((att T4414 p8 p2).2).2).2).2).2).2).2).2)], .one (.ptr 1 0)]) (σ0 := i_sess_Done_1_dca.s0 (att T4414 p8 p2) p3 p4 p5 p6 p7 p8 (att T4414 p8 p2)) (τ := i_sess_Done_1_dca.out y7) (σ2 := ⟨42, [(0, .cv (.one (.own 3))), (1, .cv (.one (.fn 37 [] [(1, 0)]))), (5, .cv (.one (.int .i64 p1))), (6, .cv (.one (.int .i64 p2))), (7, .cv (.one (.ptr 4 0))), (26, .cv (.one (.fn 37 [] [(1, 0)]))), (27, .cv (.agg [.int .i64 ((att T4414 p8 p2).1), .int .i64 (((att T4414 p8 p2).2).1), .int .i64 ((((att T4414 p8 p2).2).2).1), .int .i64 (((((att T4414 p8 p2).2).2).2).1), .int .i64 (((((((att T4414 p8 p2).2).2).2).2).1).1), .int .i64 (((((((att T4414 p8 p2).2).2).2).2).1).2), .int .i64 (((((((att T4414 p8 p2).2).2).2).2).2).1), .int .i64 ((((((((att T4414 p8 p2).2).2).2).2).2).2).1), .int .i64 (((((((((att T4414 p8 p2).2).2).2).2).2).2).2).1), .int .i64 (((((((((att T4414 p8 p2).2).2).2).2).2).2).2).2)])), (28, .cv (.one (.bool y7.1)))], [(.box 3, [.int .i64 y7.2.1, .int .i64 y7.2.2.1, .own 3]), (.box 1, [.int .i64 y7.2.2.2.1]), (.box 3, [.int .i64 y7.2.2.2.2.1, .int .i64 y7.2.2.2.2.2.1, .nils]), (.buf 41 T4414 y7.2.2.2.2.2.2.1, []), (.box 10, [.int .i64 y7.2.2.2.2.2.2.2.1.1, .int .i64 y7.2.2.2.2.2.2.2.1.2.1, .int .i64 y7.2.2.2.2.2.2.2.1.2.2.1, .int .i64 y7.2.2.2.2.2.2.2.1.2.2.2.1, .int .i64 y7.2.2.2.2.2.2.2.1.2.2.2.2.1.1, .int .i64 y7.2.2.2.2.2.2.2.1.2.2.2.2.1.2, .int .i64 y7.2.2.2.2.2.2.2.1.2.2.2.2.2.1, .int .i64 y7.2.2.2.2.2.2.2.1.2.2.2.2.2.2.1, .int .i64 y7.2.2.2.2.2.2.2.1.2.2.2.2.2.2.2.1, .int .i64 y7.2.2.2.2.2.2.2.1.2.2.2.2.2.2.2.2])]⟩) hV 2 (by kernel_rfl) Go.Proofs.Try.func37 (by kernel_rfl) (by decide) (by kernel_rfl) (by kernel_rfl) (by kernel_rfl) (i_sess_Done_1_dca.ok k (att T4414 p8 p2) p3 p4 p5 p6 p7 p8 (att T4414 p8 p2) e8) (by kernel_rfl) ?_
    refine D_ev (cs := []) (τ := ⟨42, [(0, .cv (.one (.own 3))), (1, .cv (.one (.fn 37 [] [(1, 0)]))), (5, .cv (.one (.int .i64 p1))), (6, .cv (.one (.int .i64 p2))), (7, .cv (.one (.ptr 4 0))), (26, .cv (.one (.fn 37 [] [(1, 0)]))), (27, .cv (.agg [.int .i64 ((att T4414 p8 p2).1), .int .i64 (((att T4414 p8 p2).2).1), .int .i64 ((((att T4414 p8 p2).2).2).1), .int .i64 (((((att T4414 p8 p2).2).2).2).1), .int .i64 (((((((att T4414 p8 p2).2).2).2).2).1).1), .int .i64 (((((((att T4414 p8 p2).2).2).2).2).1).2), .int .i64 (((((((att T4414 p8 p2).2).2).2).2).2).1), .int .i64 ((((((((att T4414 p8 p2).2).2).2).2).2).2).1), .int .i64 (((((((((att T4414 p8 p2).2).2).2).2).2).2).2).1), .int .i64 (((((((((att T4414 p8 p2).2).2).2).2).2).2).2).2)])), (28, .cv (.one (.bool y7.1))), (29, .cv (.one (.bool (!y7.1))))], [(.box 3, [.int .i64 y7.2.1, .int .i64 y7.2.2.1, .own 3]), (.box 1, [.int .i64 y7.2.2.2.1]), (.box 3, [.int .i64 y7.2.2.2.2.1, .int .i64 y7.2.2.2.2.2.1, .nils]), (.buf 41 T4414 y7.2.2.2.2.2.2.1, []), (.box 10, [.int .i64 y7.2.2.2.2.2.2.2.1.1, .int .i64 y7.2.2.2.2.2.2.2.1.2.1, .int .i64 y7.2.2.2.2.2.2.2.1.2.2.1, .int .i64 y7.2.2.2.2.2.2.2.1.2.2.2.1, .int .i64 y7.2.2.2.2.2.2.2.1.2.2.2.2.1.1, .int .i64 y7.2.2.2.2.2.2.2.1.2.2.2.2.1.2, .int .i64 y7.2.2.2.2.2.2.2.1.2.2.2.2.2.1, .int .i64 y7.2.2.2.2.2.2.2.1.2.2.2.2.2.2.1, .int .i64 y7.2.2.2.2.2.2.2.1.2.2.2.2.2.2.2.1, .int .i64 y7.2.2.2.2.2.2.2.1.2.2.2.2.2.2.2.2])]⟩) hV 0 [] [3] [] rfl (by kernel_rfl) trivial ?_
    refine WO_tell (τ := ⟨42, [(0, .cv (.one (.own 3))), (1, .cv (.one (.fn 37 [] [(1, 0)]))), (5, .cv (.one (.int .i64 p1))), (6, .cv (.one (.int .i64 p2))), (7, .cv (.one (.ptr 4 0))), (29, .cv (.one (.bool (!y7.1))))], [(.box 3, [.int .i64 y7.2.1, .int .i64 y7.2.2.1, .own 3]), (.box 1, [.int .i64 y7.2.2.2.1]), (.box 3, [.int .i64 y7.2.2.2.2.1, .int .i64 y7.2.2.2.2.2.1, .nils]), (.buf 41 T4414 y7.2.2.2.2.2.2.1, []), (.box 10, [.int .i64 y7.2.2.2.2.2.2.2.1.1, .int .i64 y7.2.2.2.2.2.2.2.1.2.1, .int .i64 y7.2.2.2.2.2.2.2.1.2.2.1, .int .i64 y7.2.2.2.2.2.2.2.1.2.2.2.1, .int .i64 y7.2.2.2.2.2.2.2.1.2.2.2.2.1.1, .int .i64 y7.2.2.2.2.2.2.2.1.2.2.2.2.1.2, .int .i64 y7.2.2.2.2.2.2.2.1.2.2.2.2.2.1, .int .i64 y7.2.2.2.2.2.2.2.1.2.2.2.2.2.2.1, .int .i64 y7.2.2.2.2.2.2.2.1.2.2.2.2.2.2.2.1, .int .i64 y7.2.2.2.2.2.2.2.1.2.2.2.2.2.2.2.2])]⟩) {live := [0, 1, 5, 6, 7, 29], src := [some 0, some 1, some 2, some 3, some 4]} (by kernel_rfl) (by kernel_rfl) ?_
    refine WO_nil ?_
    refine th_n ?_
    refine D_condB (t := 29) (b := (!y7.1)) (by kernel_rfl) (by kernel_rfl) (fun hb9 => ?_) (fun hb9 => ?_)
    · rw [if_pos hb9] at H
      refine D_seq (by kernel_rfl) ?_
      obtain ⟨n10, H⟩ := of_if H
      obtain ⟨n11, H⟩ := of_if H
      refine D_reg (cs := [0 ≤ p1, p1 < (y7.2.2.2.2.2.2.1.length : Int)]) (τ := ⟨42, [(0, .cv (.one (.own 3))), (1, .cv (.one (.fn 37 [] [(1, 0)]))), (5, .cv (.one (.int .i64 p1))), (6, .cv (.one (.int .i64 p2)))], [(.box 3, [.int .i64 y7.2.1, .int .i64 y7.2.2.1, .own 3]), (.box 1, [.int .i64 y7.2.2.2.1]), (.box 3, [.int .i64 y7.2.2.2.2.1, .int .i64 y7.2.2.2.2.2.1, .nils]), (.buf 41 T4414 (y7.2.2.2.2.2.2.1.set p1.toNat y7.2.2.2.2.2.2.2.1), [])]⟩) hV 0 [] {live := [0, 1, 5, 6], src := [some 0, some 1, some 2, some 3]} (by kernel_rfl) (by kernel_rfl) ⟨n10, n11, trivial⟩ ?_
      refine th_n ?_
      refine D_reg (cs := []) (τ := ⟨42, [(0, .cv (.one (.own 3))), (1, .cv (.one (.fn 37 [] [(1, 0)]))), (5, .cv (.one (.int .i64 (IntKind.i64.wrap (p1 + 1))))), (6, .cv (.one (.int .i64 p2)))], [(.box 3, [.int .i64 y7.2.1, .int .i64 y7.2.2.1, .own 3]), (.box 1, [.int .i64 y7.2.2.2.1]), (.box 3, [.int .i64 y7.2.2.2.2.1, .int .i64 y7.2.2.2.2.2.1, .nils]), (.buf 41 T4414 (y7.2.2.2.2.2.2.1.set p1.toNat y7.2.2.2.2.2.2.2.1), [])]⟩) hV 0 [] {live := [0, 1, 5, 6], src := [some 0, some 1, some 2, some 3]} (by kernel_rfl) (by kernel_rfl) trivial ?_
      refine bl_n ?_
      refine th_n ?_
      refine W_tell (τ := i_slices_DeleteFunc_Msg_8b9.s2 (IntKind.i64.wrap (p1 + 1)) p2 y7.2.1 y7.2.2.1 y7.2.2.2.1 y7.2.2.2.2.1 y7.2.2.2.2.2.1 (y7.2.2.2.2.2.2.1.set p1.toNat y7.2.2.2.2.2.2.2.1)) {fz := [], gr := 0, ad := [], live := [0, 1, 5, 6], src := [some 0, some 1, some 2, some 3]} (by kernel_rfl) (by kernel_rfl) ?_
      exact i_slices_DeleteFunc_Msg_8b9.j2_ok hV L1 m1 hL1 k (IntKind.i64.wrap (p1 + 1)) p2 y7.2.1 y7.2.2.1 y7.2.2.2.1 y7.2.2.2.2.1 y7.2.2.2.2.2.1 (y7.2.2.2.2.2.2.1.set p1.toNat y7.2.2.2.2.2.2.2.1) H
    · rw [if_neg (by rw [hb9]; decide)] at H
      refine D_skip (by kernel_rfl) ?_
      refine bl_n ?_
      refine th_n ?_
      refine W_tell (τ := i_slices_DeleteFunc_Msg_8b9.s2 p1 p2 y7.2.1 y7.2.2.1 y7.2.2.2.1 y7.2.2.2.2.1 y7.2.2.2.2.2.1 y7.2.2.2.2.2.2.1) {fz := [], gr := 0, ad := [], live := [0, 1, 5, 6], src := [some 0, some 1, some 2, some 3]} (by kernel_rfl) (by kernel_rfl) ?_
      exact i_slices_DeleteFunc_Msg_8b9.j2_ok hV L1 m1 hL1 k p1 p2 y7.2.1 y7.2.2.1 y7.2.2.2.1 y7.2.2.2.2.1 y7.2.2.2.2.2.1 y7.2.2.2.2.2.2.1 H
  · rw [if_neg (by rw [hb4]; decide)] at H
    refine D_exit (id := 0) (by kernel_rfl) ?_
    refine th_x ?_
    refine ro_x ?_
    refine bl_h ?_
    refine th_n ?_
    refine D_seq (by kernel_rfl) ?_
    obtain ⟨n12, H⟩ := of_if H
    refine D_reg (cs := [0 ≤ p1 ∧ p1 ≤ (p8.length : Int)]) (τ := ⟨42, [(0, .cv (.one (.own 3))), (5, .cv (.one (.int .i64 p1)))], [(.box 3, [.int .i64 p3, .int .i64 p4, .own 3]), (.box 1, [.int .i64 p5]), (.box 3, [.int .i64 p6, .int .i64 p7, .nils]), (.buf 41 T4414 (p8.take p1.toNat ++ List.replicate (p8.length - p1.toNat) ((0, (0, (0, (0, ((0, 0), (0, (0, (0, 0)))))))) : T4414.T)), [])]⟩) hV 0 [] {live := [0, 5], src := [some 0, some 1, some 2, some 3]} (by kernel_rfl) (by kernel_rfl) ⟨n12, trivial⟩ ?_
    refine th_n ?_
    refine D_seq (by kernel_rfl) ?_
    obtain ⟨n13, H⟩ := of_if H
    refine D_reg (cs := [0 ≤ p1 ∧ p1 ≤ ((p8.take p1.toNat ++ List.replicate (p8.length - p1.toNat) ((0, (0, (0, (0, ((0, 0), (0, (0, (0, 0)))))))) : T4414.T)).length : Int)]) (τ := ⟨42, [(4, .cv (.one (.own 4)))], [(.box 3, [.int .i64 p3, .int .i64 p4, .own 3]), (.box 1, [.int .i64 p5]), (.box 3, [.int .i64 p6, .int .i64 p7, .nils]), (.dead, []), (.buf 41 T4414 ((p8.take p1.toNat ++ List.replicate (p8.length - p1.toNat) ((0, (0, (0, (0, ((0, 0), (0, (0, (0, 0)))))))) : T4414.T)).take p1.toNat), [])]⟩) hV 1 [(2, {sb := 4})] {live := [4], src := [some 0, some 1, some 2, some 3, some 4]} (by kernel_rfl) (by kernel_rfl) ⟨n13, trivial⟩ ?_
    refine th_n ?_
    refine D_ret (by kernel_rfl) ?_
    obtain rfl := Option.some.inj H
    exact cq_r {fz := [4], gr := 0, ad := [.cell 0 2 (.bad)], live := [4], src := [some 0, some 1, some 2, some 3]} (by kernel_rfl) (by kernel_rfl)
noncomputable def i_slices_DeleteFunc_Msg_8b9.l1 (k : Nat) : Nat → Int → Int → Int → Int → Int → Int → Int → List T4414.T → Option i_slices_DeleteFunc_Msg_8b9.R
  | 0, _, _, _, _, _, _, _, _ => none
  | m + 1, p1, p2, p3, p4, p5, p6, p7, p8 => i_slices_DeleteFunc_Msg_8b9.b1 (i_slices_DeleteFunc_Msg_8b9.l1 k m) k p1 p2 p3 p4 p5 p6 p7 p8
theorem i_slices_DeleteFunc_Msg_8b9.l1_ok (hV : EnvOk P i_slices_DeleteFunc_Msg_8b9.V) {r : i_slices_DeleteFunc_Msg_8b9.R} (k : Nat) : ∀ (m1 : Nat) (p1 : Int) (p2 : Int) (p3 : Int) (p4 : Int) (p5 : Int) (p6 : Int) (p7 : Int) (p8 : List T4414.T), i_slices_DeleteFunc_Msg_8b9.l1 k m1 p1 p2 p3 p4 p5 p6 p7 p8 = some r → WL P 4 (Code.l (Code.l (Code.r (Code.l (Code.r (Code.r (Code.r i_slices_DeleteFunc_Msg_8b9.c0))))))) (blockW 0 (thenW P 4 (Code.r (Code.r (Code.r (Code.r i_slices_DeleteFunc_Msg_8b9.c0)))) (i_slices_DeleteFunc_Msg_8b9.Q r))) m1 (i_slices_DeleteFunc_Msg_8b9.s1 p1 p2 p3 p4 p5 p6 p7 p8)
  | 0, _, _, _, _, _, _, _, _, H => by cases H
  | m1 + 1, p1, p2, p3, p4, p5, p6, p7, p8, H => WL_succ (i_slices_DeleteFunc_Msg_8b9.b1_ok hV (i_slices_DeleteFunc_Msg_8b9.l1 k m1) m1 (fun p1 p2 p3 p4 p5 p6 p7 p8 H => i_slices_DeleteFunc_Msg_8b9.l1_ok hV k m1 p1 p2 p3 p4 p5 p6 p7 p8 H) k p1 p2 p3 p4 p5 p6 p7 p8 H)
noncomputable def i_slices_DeleteFunc_Msg_8b9.f (k : Nat) (p1 : Int) (p2 : Int) (p3 : Int) (p4 : Int) (p5 : Int) (p6 : List T4414.T) : Option i_slices_DeleteFunc_Msg_8b9.R :=
  (i_slices_IndexFunc_Msg_8b9.f k p1 p2 p3 p4 p5 p6).bind fun y1 =>
    if (y1.1 == (-1 : Int)) = true then
      some (y1.2.2.2.2.2.2.1, (y1.2.1, (y1.2.2.1, (y1.2.2.2.1, (y1.2.2.2.2.1, (y1.2.2.2.2.2.1, ()))))))
    else
      i_slices_DeleteFunc_Msg_8b9.l1 k k y1.1 (IntKind.i64.wrap (y1.1 + 1)) y1.2.1 y1.2.2.1 y1.2.2.2.1 y1.2.2.2.2.1 y1.2.2.2.2.2.1 y1.2.2.2.2.2.2.1
theorem i_slices_DeleteFunc_Msg_8b9.f_ok (hV : EnvOk P i_slices_DeleteFunc_Msg_8b9.V) {r : i_slices_DeleteFunc_Msg_8b9.R} (k : Nat) (p1 : Int) (p2 : Int) (p3 : Int) (p4 : Int) (p5 : Int) (p6 : List T4414.T) (H : i_slices_DeleteFunc_Msg_8b9.f k p1 p2 p3 p4 p5 p6 = some r) : W P 4 i_slices_DeleteFunc_Msg_8b9.c0 (⟨42, [(0, .cv (.one (.own 3))), (1, .cv (.one (.fn 37 [] [(1, 0)])))], [(.box 3, [.int .i64 p1, .int .i64 p2, .own 3]), (.box 1, [.int .i64 p3]), (.box 3, [.int .i64 p4, .int .i64 p5, .nils]), (.buf 41 T4414 p6, [])]⟩) (i_slices_DeleteFunc_Msg_8b9.Q r) := by
  unfold i_slices_DeleteFunc_Msg_8b9.f at H
  refine D_seq (by kernel_rfl) ?_
  refine D_reg (cs := []) (τ := ⟨42, [(0, .cv (.one (.own 3))), (1, .cv (.one (.fn 37 [] [(1, 0)])))], [(.box 3, [.int .i64 p1, .int .i64 p2, .own 3]), (.box 1, [.int .i64 p3]), (.box 3, [.int .i64 p4, .int .i64 p5, .nils]), (.buf 41 T4414 p6, [])]⟩) hV 0 [] {live := [0, 1], src := [some 0, some 1, some 2, some 3]} (by kernel_rfl) (by kernel_rfl) trivial ?_
  refine th_n ?_
  refine D_seq (by kernel_rfl) ?_
  refine D_regI [0, 1, 2, 3] (by kernel_rfl) (by kernel_rfl) ?_
  refine D_ev (cs := []) (τ := ⟨42, [(0, .cv (.one (.own 3))), (1, .cv (.one (.fn 37 [] [(1, 0)]))), (8, .cv (.one (.own 3))), (9, .cv (.one (.fn 37 [] [(1, 0)])))], [(.box 3, [.int .i64 p1, .int .i64 p2, .own 3]), (.box 1, [.int .i64 p3]), (.box 3, [.int .i64 p4, .int .i64 p5, .nils]), (.buf 41 T4414 p6, [])]⟩) hV 0 [] [0, 1] [2, 3] rfl (by kernel_rfl) trivial ?_
  obtain ⟨y1, e2, H⟩ := of_bind H
  refine D_call (f := 58) (N := 4) (cvs := [.one (.own 3), .one (.fn 37 [] [(1, 0)])]) (σ0 := i_slices_IndexFunc_Msg_8b9.s0 p1 p2 p3 p4 p5 p6) (τ := i_slices_IndexFunc_Msg_8b9.out y1) (σ2 := ⟨42, [(0, .cv (.one (.own 3))), (1, .cv (.one (.fn 37 [] [(1, 0)]))), (8, .cv (.one (.own 3))), (9, .cv (.one (.fn 37 [] [(1, 0)]))), (10, .cv (.one (.int .i64 y1.1)))], [(.box 3, [.int .i64 y1.2.1, .int .i64 y1.2.2.1, .own 3]), (.box 1, [.int .i64 y1.2.2.2.1]), (.box 3, [.int .i64 y1.2.2.2.2.1, .int .i64 y1.2.2.2.2.2.1, .nils]), (.buf 41 T4414 y1.2.2.2.2.2.2.1, [])]⟩) hV 2 (by kernel_rfl) Go.Proofs.Try.func58 (by kernel_rfl) (by decide) (by kernel_rfl) (by kernel_rfl) (by kernel_rfl) (i_slices_IndexFunc_Msg_8b9.ok k p1 p2 p3 p4 p5 p6 e2) (by kernel_rfl) ?_
  refine D_ev (cs := []) (τ := ⟨42, [(0, .cv (.one (.own 3))), (1, .cv (.one (.fn 37 [] [(1, 0)]))), (5, .cv (.one (.int .i64 y1.1))), (8, .cv (.one (.own 3))), (9, .cv (.one (.fn 37 [] [(1, 0)]))), (10, .cv (.one (.int .i64 y1.1)))], [(.box 3, [.int .i64 y1.2.1, .int .i64 y1.2.2.1, .own 3]), (.box 1, [.int .i64 y1.2.2.2.1]), (.box 3, [.int .i64 y1.2.2.2.2.1, .int .i64 y1.2.2.2.2.2.1, .nils]), (.buf 41 T4414 y1.2.2.2.2.2.2.1, [])]⟩) hV 0 [] [3] [] rfl (by kernel_rfl) trivial ?_
  refine WO_tell (τ := ⟨42, [(0, .cv (.one (.own 3))), (1, .cv (.one (.fn 37 [] [(1, 0)]))), (5, .cv (.one (.int .i64 y1.1)))], [(.box 3, [.int .i64 y1.2.1, .int .i64 y1.2.2.1, .own 3]), (.box 1, [.int .i64 y1.2.2.2.1]), (.box 3, [.int .i64 y1.2.2.2.2.1, .int .i64 y1.2.2.2.2.2.1, .nils]), (.buf 41 T4414 y1.2.2.2.2.2.2.1, [])]⟩) {live := [0, 1, 5], src := [some 0, some 1, some 2, some 3]} (by kernel_rfl) (by kernel_rfl) ?_
  refine WO_nil ?_
  refine th_n ?_
  refine D_seq (by kernel_rfl) ?_
  refine D_seq (by kernel_rfl) ?_
  refine D_reg (cs := []) (τ := ⟨42, [(0, .cv (.one (.own 3))), (1, .cv (.one (.fn 37 [] [(1, 0)]))), (5, .cv (.one (.int .i64 y1.1))), (12, .cv (.one (.bool (y1.1 == (-1 : Int)))))], [(.box 3, [.int .i64 y1.2.1, .int .i64 y1.2.2.1, .own 3]), (.box 1, [.int .i64 y1.2.2.2.1]), (.box 3, [.int .i64 y1.2.2.2.2.1, .int .i64 y1.2.2.2.2.2.1, .nils]), (.buf 41 T4414 y1.2.2.2.2.2.2.1, [])]⟩) hV 0 [] {live := [0, 1, 5, 12], src := [some 0, some 1, some 2, some 3]} (by kernel_rfl) (by kernel_rfl) trivial ?_
  refine th_n ?_
  refine D_condB (t := 12) (b := (y1.1 == (-1 : Int))) (by kernel_rfl) (by kernel_rfl) (fun hb3 => ?_) (fun hb3 => ?_)
  · rw [if_pos hb3] at H
    refine D_seq (by kernel_rfl) ?_
    refine D_reg (cs := []) (τ := ⟨42, [(4, .cv (.one (.own 3)))], [(.box 3, [.int .i64 y1.2.1, .int .i64 y1.2.2.1, .own 3]), (.box 1, [.int .i64 y1.2.2.2.1]), (.box 3, [.int .i64 y1.2.2.2.2.1, .int .i64 y1.2.2.2.2.2.1, .nils]), (.buf 41 T4414 y1.2.2.2.2.2.2.1, [])]⟩) hV 0 [] {live := [4], src := [some 0, some 1, some 2, some 3]} (by kernel_rfl) (by kernel_rfl) trivial ?_
    refine th_n ?_
    refine D_ret (by kernel_rfl) ?_
    refine th_r ?_
    obtain rfl := Option.some.inj H
    exact cq_r {fz := [3], gr := 0, ad := [.cell 0 2 (.bad)], live := [4], src := [some 0, some 1, some 2, some 3]} (by kernel_rfl) (by kernel_rfl)
  · rw [if_neg (by rw [hb3]; decide)] at H
    refine D_skip (by kernel_rfl) ?_
    refine th_n ?_
    refine D_seq (by kernel_rfl) ?_
    refine D_seq (by kernel_rfl) ?_
    refine D_reg (cs := []) (τ := ⟨42, [(0, .cv (.one (.own 3))), (1, .cv (.one (.fn 37 [] [(1, 0)]))), (5, .cv (.one (.int .i64 y1.1))), (6, .cv (.one (.int .i64 (IntKind.i64.wrap (y1.1 + 1)))))], [(.box 3, [.int .i64 y1.2.1, .int .i64 y1.2.2.1, .own 3]), (.box 1, [.int .i64 y1.2.2.2.1]), (.box 3, [.int .i64 y1.2.2.2.2.1, .int .i64 y1.2.2.2.2.2.1, .nils]), (.buf 41 T4414 y1.2.2.2.2.2.2.1, [])]⟩) hV 0 [] {live := [0, 1, 5, 6], src := [some 0, some 1, some 2, some 3]} (by kernel_rfl) (by kernel_rfl) trivial ?_
    refine th_n ?_
    refine D_block (id := 0) (by kernel_rfl) ?_
    refine W_tell (τ := i_slices_DeleteFunc_Msg_8b9.s1 y1.1 (IntKind.i64.wrap (y1.1 + 1)) y1.2.1 y1.2.2.1 y1.2.2.2.1 y1.2.2.2.2.1 y1.2.2.2.2.2.1 y1.2.2.2.2.2.2.1) {fz := [], gr := 0, ad := [], live := [0, 1, 5, 6], src := [some 0, some 1, some 2, some 3]} (by kernel_rfl) (by kernel_rfl) ?_
    exact D_loop (by kernel_rfl) k (i_slices_DeleteFunc_Msg_8b9.l1_ok hV k k y1.1 (IntKind.i64.wrap (y1.1 + 1)) y1.2.1 y1.2.2.1 y1.2.2.2.1 y1.2.2.2.2.1 y1.2.2.2.2.2.1 y1.2.2.2.2.2.2.1 H)
theorem i_slices_DeleteFunc_Msg_8b9.ok {r : i_slices_DeleteFunc_Msg_8b9.R} (k : Nat) (p1 : Int) (p2 : Int) (p3 : Int) (p4 : Int) (p5 : Int) (p6 : List T4414.T) (H : i_slices_DeleteFunc_Msg_8b9.f k p1 p2 p3 p4 p5 p6 = some r) : W P 4 i_slices_DeleteFunc_Msg_8b9.c0 (i_slices_DeleteFunc_Msg_8b9.s0 p1 p2 p3 p4 p5 p6) (CallQ 4 (i_slices_DeleteFunc_Msg_8b9.out r)) := i_slices_DeleteFunc_Msg_8b9.f_ok i_slices_DeleteFunc_Msg_8b9.V_ok k p1 p2 p3 p4 p5 p6 H
/-! ### f_sess_Done: function 15, wayfinder/sess.Done -/
abbrev f_sess_Done.ps : Sg := [(true, Tb104), (false, (.int .i64)), (false, (.int .i64))]
abbrev f_sess_Done.rs : Sg := [(true, Tb104)]
noncomputable def f_sess_Done.c0 : Code := (Go.Proofs.Try.f15.body).getD .skip
noncomputable def f_sess_Done.G : List (Nat × Spec) := []
noncomputable def f_sess_Done.V : Env := { tt := tt, Γ := slk f_sess_Done.G }
noncomputable abbrev f_sess_Done.Q (r : Tup f_sess_Done.rs) : Exit → St → Prop := Qr tt Go.Proofs.Try.f15.results ⟨f_sess_Done.ps, f_sess_Done.rs, .any, none, fun _ _ => True⟩ r
abbrev f_sess_Done.R := Tup f_sess_Done.rs
noncomputable def f_sess_Done.s1 (p1 : Tb104.T) (p2 : Int) (p3 : Int) : St := ⟨19, [(3, .cv (.one (.ptr 0 0))), (6, .cv (.one (.ptr 1 0)))], [(.box 3, [.int .i64 p1.1, .int .i64 p1.2.1, .sl T4414 p1.2.2 .any]), (.box 3, [.int .i64 p2, .int .i64 p3, .nils])]⟩
noncomputable def f_sess_Done.j1 (k : Nat) (p1 : Tb104.T) (p2 : Int) (p3 : Int) : Option f_sess_Done.R :=
  some (p1, ())
theorem f_sess_Done.j1_ok (hV : EnvOk P f_sess_Done.V) {r : f_sess_Done.R} (k : Nat) (p1 : Tb104.T) (p2 : Int) (p3 : Int) (H : f_sess_Done.j1 k p1 p2 p3 = some r) : W P 0 (Code.r (Code.r (Code.r f_sess_Done.c0))) (f_sess_Done.s1 p1 p2 p3) (f_sess_Done.Q r) := by
  unfold f_sess_Done.j1 at H
  refine D_seq (by kernel_rfl) ?_
  refine D_reg (cs := []) (τ := ⟨19, [(6, .cv (.one (.ptr 0 0)))], [(.box 3, [.int .i64 p1.1, .int .i64 p1.2.1, .sl T4414 p1.2.2 .any])]⟩) hV 0 [] {live := [6], src := [some 1]} (by kernel_rfl) (by kernel_rfl) trivial ?_
  refine th_n ?_
  refine D_ret (by kernel_rfl) ?_
  exact lf_r (Eq.trans (by kernel_rfl) H)
noncomputable def f_sess_Done.s2 (p1 : Int) (p2 : Int) (p3 : Int) (p4 : Int) (p5 : List T4414.T) : St := ⟨19, [(3, .cv (.one (.ptr 0 0))), (6, .cv (.one (.ptr 1 0)))], [(.box 3, [.int .i64 p1, .int .i64 p2, .own 2]), (.box 3, [.int .i64 p3, .int .i64 p4, .nils]), (.buf 41 T4414 p5, [])]⟩
noncomputable def f_sess_Done.j2 (k : Nat) (p1 : Int) (p2 : Int) (p3 : Int) (p4 : Int) (p5 : List T4414.T) : Option f_sess_Done.R :=
  some ((p1, (p2, p5)), ())
theorem f_sess_Done.j2_ok (hV : EnvOk P f_sess_Done.V) {r : f_sess_Done.R} (k : Nat) (p1 : Int) (p2 : Int) (p3 : Int) (p4 : Int) (p5 : List T4414.T) (H : f_sess_Done.j2 k p1 p2 p3 p4 p5 = some r) : W P 0 (Code.r (Code.r (Code.r f_sess_Done.c0))) (f_sess_Done.s2 p1 p2 p3 p4 p5) (f_sess_Done.Q r) := by
  unfold f_sess_Done.j2 at H
  refine D_seq (by kernel_rfl) ?_
  refine D_reg (cs := []) (τ := ⟨19, [(6, .cv (.one (.ptr 0 0)))], [(.box 3, [.int .i64 p1, .int .i64 p2, .own 1]), (.buf 41 T4414 p5, [])]⟩) hV 0 [] {live := [6], src := [some 1, some 2]} (by kernel_rfl) (by kernel_rfl) trivial ?_
  refine th_n ?_
  refine D_ret (by kernel_rfl) ?_
  exact lf_r (Eq.trans (by kernel_rfl) H)
noncomputable def f_sess_Done.f (k : Nat) (a1 : Tb104.T) (a2 : Int) (a3 : Int) : Option f_sess_Done.R :=
  (i_sess_own_9f5.f k a1 a1 a3 (0 : Int) (0 : Int)).bind fun y1 =>
    if (a2 == y1.2.2.2.2.1) = true then
      (i_slices_DeleteFunc_Msg_8b9.f k y1.2.2.2.2.1 y1.2.2.2.2.2.1 y1.2.1 y1.2.2.1 y1.2.2.2.1 y1.2.2.2.2.2.2.1).bind fun y4 =>
        f_sess_Done.j1 k (y4.2.1, (y4.2.2.1, y4.1)) y4.2.2.2.2.1 y4.2.2.2.2.2.1
    else
      f_sess_Done.j2 k y1.2.2.2.2.1 y1.2.2.2.2.2.1 y1.2.2.1 y1.2.2.2.1 y1.2.2.2.2.2.2.1
noncomputable def f_sess_Done.S : Spec := ⟨f_sess_Done.ps, f_sess_Done.rs, .any, none, fun x r => ∃ k, f_sess_Done.f k x.1 x.2.1 x.2.2.1 = some r⟩
theorem f_sess_Done.f_ok (hV : EnvOk P f_sess_Done.V) {r : f_sess_Done.R} (k : Nat) (a1 : Tb104.T) (a2 : Int) (a3 : Int) (H : f_sess_Done.f k a1 a2 a3 = some r) : W P 0 f_sess_Done.c0 (⟨19, [(0, .cv (.agg [.int .i64 a1.1, .int .i64 a1.2.1, .sl T4414 a1.2.2 .any])), (1, .cv (.one (.int .i64 a2))), (2, .cv (.one (.int .i64 a3)))], []⟩) (f_sess_Done.Q r) := by
  unfold f_sess_Done.f at H
  refine D_seq (by kernel_rfl) ?_
  refine D_reg (cs := []) (τ := ⟨19, [(1, .cv (.one (.int .i64 a2))), (3, .cv (.one (.ptr 0 0))), (5, .cv (.one (.ptr 1 0))), (6, .cv (.one (.ptr 2 0)))], [(.box 3, [.int .i64 a1.1, .int .i64 a1.2.1, .sl T4414 a1.2.2 .any]), (.box 1, [.int .i64 a3]), (.box 3, [.int .i64 0, .int .i64 0, .nils])]⟩) hV 3 [(0, {sb := 0}), (1, {sb := 1}), (2, {sb := 2})] {live := [1, 3, 5, 6], src := [some 0, some 1, some 2]} (by kernel_rfl) (by kernel_rfl) trivial ?_
  refine th_n ?_
  refine D_seq (by kernel_rfl) ?_
  refine D_regI [0, 1, 2] (by kernel_rfl) (by kernel_rfl) ?_
  refine D_ev (cs := []) (τ := ⟨19, [(1, .cv (.one (.int .i64 a2))), (3, .cv (.one (.ptr 0 0))), (5, .cv (.one (.ptr 1 0))), (6, .cv (.one (.ptr 2 0))), (7, .cv (.agg [.int .i64 a1.1, .int .i64 a1.2.1, .sl T4414 a1.2.2 .any]))], [(.box 3, [.int .i64 a1.1, .int .i64 a1.2.1, .sl T4414 a1.2.2 .any]), (.box 1, [.int .i64 a3]), (.box 3, [.int .i64 0, .int .i64 0, .nils])]⟩) hV 0 [] [0] [1, 2] rfl (by kernel_rfl) trivial ?_
  obtain ⟨y1, e2, H⟩ := of_bind H
  refine D_call (f := 35) (N := 3) (cvs := [.agg [.int .i64 a1.1, .int .i64 a1.2.1, .sl T4414 a1.2.2 .any]]) (σ0 := i_sess_own_9f5.s0 a1 a1 a3 (0 : Int) (0 : Int)) (τ := i_sess_own_9f5.out y1) (σ2 := ⟨19, [(1, .cv (.one (.int .i64 a2))), (3, .cv (.one (.ptr 0 0))), (5, .cv (.one (.ptr 1 0))), (6, .cv (.one (.ptr 2 0))), (7, .cv (.agg [.int .i64 a1.1, .int .i64 a1.2.1, .sl T4414 a1.2.2 .any])), (8, .cv (.agg [.int .i64 y1.2.2.2.2.1, .int .i64 y1.2.2.2.2.2.1, .own 4]))], [(.box 3, [.int .i64 y1.1.1, .int .i64 y1.1.2.1, .sl T4414 y1.1.2.2 .any]), (.box 1, [.int .i64 y1.2.1]), (.box 3, [.int .i64 y1.2.2.1, .int .i64 y1.2.2.2.1, .nils]), (.box 3, [.int .i64 y1.2.2.2.2.1, .int .i64 y1.2.2.2.2.2.1, .own 4]), (.buf 41 T4414 y1.2.2.2.2.2.2.1, [])]⟩) hV 1 (by kernel_rfl) Go.Proofs.Try.func35 (by kernel_rfl) (by decide) (by kernel_rfl) (by kernel_rfl) (by kernel_rfl) (i_sess_own_9f5.ok k a1 a1 a3 (0 : Int) (0 : Int) e2) (by kernel_rfl) ?_
  refine D_ev (cs := []) (τ := ⟨19, [(1, .cv (.one (.int .i64 a2))), (3, .cv (.one (.ptr 0 0))), (5, .cv (.one (.ptr 1 0))), (6, .cv (.one (.ptr 2 0))), (7, .cv (.agg [.int .i64 a1.1, .int .i64 a1.2.1, .sl T4414 a1.2.2 .any])), (8, .cv (.agg [.int .i64 y1.2.2.2.2.1, .int .i64 y1.2.2.2.2.2.1, .own 4]))], [(.box 3, [.int .i64 y1.2.2.2.2.1, .int .i64 y1.2.2.2.2.2.1, .own 4]), (.box 1, [.int .i64 y1.2.1]), (.box 3, [.int .i64 y1.2.2.1, .int .i64 y1.2.2.2.1, .nils]), (.box 3, [.int .i64 y1.2.2.2.2.1, .int .i64 y1.2.2.2.2.2.1, .own 4]), (.buf 41 T4414 y1.2.2.2.2.2.2.1, [])]⟩) hV 0 [] [2] [] rfl (by kernel_rfl) trivial ?_
  refine WO_tell (τ := ⟨19, [(1, .cv (.one (.int .i64 a2))), (3, .cv (.one (.ptr 0 0))), (5, .cv (.one (.ptr 1 0))), (6, .cv (.one (.ptr 2 0)))], [(.box 3, [.int .i64 y1.2.2.2.2.1, .int .i64 y1.2.2.2.2.2.1, .own 3]), (.box 1, [.int .i64 y1.2.1]), (.box 3, [.int .i64 y1.2.2.1, .int .i64 y1.2.2.2.1, .nils]), (.buf 41 T4414 y1.2.2.2.2.2.2.1, [])]⟩) {live := [1, 3, 5, 6], src := [some 0, some 1, some 2, some 4]} (by kernel_rfl) (by kernel_rfl) ?_
  refine WO_nil ?_
  refine th_n ?_
  refine D_seq (by kernel_rfl) ?_
  refine D_seq (by kernel_rfl) ?_
  refine D_reg (cs := []) (τ := ⟨19, [(3, .cv (.one (.ptr 0 0))), (5, .cv (.one (.ptr 1 0))), (6, .cv (.one (.ptr 2 0))), (12, .cv (.one (.bool (a2 == y1.2.2.2.2.1))))], [(.box 3, [.int .i64 y1.2.2.2.2.1, .int .i64 y1.2.2.2.2.2.1, .own 3]), (.box 1, [.int .i64 y1.2.1]), (.box 3, [.int .i64 y1.2.2.1, .int .i64 y1.2.2.2.1, .nils]), (.buf 41 T4414 y1.2.2.2.2.2.2.1, [])]⟩) hV 0 [] {live := [3, 5, 6, 12], src := [some 0, some 1, some 2, some 3]} (by kernel_rfl) (by kernel_rfl) trivial ?_
  refine th_n ?_
  refine D_condB (t := 12) (b := (a2 == y1.2.2.2.2.1)) (by kernel_rfl) (by kernel_rfl) (fun hb3 => ?_) (fun hb3 => ?_)
  · rw [if_pos hb3] at H
    refine D_regI [0, 1, 2, 3, 4, 5] (by kernel_rfl) (by kernel_rfl) ?_
    refine D_ev (cs := []) (τ := ⟨19, [(3, .cv (.one (.ptr 0 0))), (5, .cv (.one (.ptr 1 0))), (6, .cv (.one (.ptr 2 0))), (12, .cv (.one (.bool (a2 == y1.2.2.2.2.1)))), (13, .cv (.one (.ptr 0 2))), (14, .cv (.one (.own 3))), (15, .cv (.one (.fn 37 [] [(1, 0)])))], [(.box 3, [.int .i64 y1.2.2.2.2.1, .int .i64 y1.2.2.2.2.2.1, .own 3]), (.box 1, [.int .i64 y1.2.1]), (.box 3, [.int .i64 y1.2.2.1, .int .i64 y1.2.2.2.1, .nils]), (.buf 41 T4414 y1.2.2.2.2.2.2.1, [])]⟩) hV 0 [] [0, 1, 2] [3, 4, 5] rfl (by kernel_rfl) trivial ?_
    obtain ⟨y4, e5, H⟩ := of_bind H
    refine D_call (f := 36) (N := 4) (cvs := [.one (.own 3), .one (.fn 37 [] [(1, 0)])]) (σ0 := i_slices_DeleteFunc_Msg_8b9.s0 y1.2.2.2.2.1 y1.2.2.2.2.2.1 y1.2.1 y1.2.2.1 y1.2.2.2.1 y1.2.2.2.2.2.2.1) (τ := i_slices_DeleteFunc_Msg_8b9.out y4) (σ2 := ⟨19, [(3, .cv (.one (.ptr 0 0))), (5, .cv (.one (.ptr 1 0))), (6, .cv (.one (.ptr 2 0))), (12, .cv (.one (.bool (a2 == y1.2.2.2.2.1)))), (13, .cv (.one (.ptr 0 2))), (14, .cv (.one (.own 3))), (15, .cv (.one (.fn 37 [] [(1, 0)]))), (16, .cv (.one (.sl T4414 y4.1 .any)))], [(.box 3, [.int .i64 y4.2.1, .int .i64 y4.2.2.1, .bad]), (.box 1, [.int .i64 y4.2.2.2.1]), (.box 3, [.int .i64 y4.2.2.2.2.1, .int .i64 y4.2.2.2.2.2.1, .nils]), (.dead, [])]⟩) hV 3 (by kernel_rfl) Go.Proofs.Try.func36 (by kernel_rfl) (by decide) (by kernel_rfl) (by kernel_rfl) (by kernel_rfl) (i_slices_DeleteFunc_Msg_8b9.ok k y1.2.2.2.2.1 y1.2.2.2.2.2.1 y1.2.1 y1.2.2.1 y1.2.2.2.1 y1.2.2.2.2.2.2.1 e5) (by kernel_rfl) ?_
    refine D_ev (cs := []) (τ := ⟨19, [(3, .cv (.one (.ptr 0 0))), (5, .cv (.one (.ptr 1 0))), (6, .cv (.one (.ptr 2 0))), (12, .cv (.one (.bool (a2 == y1.2.2.2.2.1)))), (13, .cv (.one (.ptr 0 2))), (14, .cv (.one (.own 3))), (15, .cv (.one (.fn 37 [] [(1, 0)]))), (16, .cv (.one (.sl T4414 y4.1 .any))), (17, .cv (.one (.ptr 0 2)))], [(.box 3, [.int .i64 y4.2.1, .int .i64 y4.2.2.1, .sl T4414 y4.1 .any]), (.box 1, [.int .i64 y4.2.2.2.1]), (.box 3, [.int .i64 y4.2.2.2.2.1, .int .i64 y4.2.2.2.2.2.1, .nils]), (.dead, [])]⟩) hV 0 [] [4, 5] [] rfl (by kernel_rfl) trivial ?_
    refine WO_tell (τ := ⟨19, [(3, .cv (.one (.ptr 0 0))), (6, .cv (.one (.ptr 1 0)))], [(.box 3, [.int .i64 y4.2.1, .int .i64 y4.2.2.1, .sl T4414 y4.1 .any]), (.box 3, [.int .i64 y4.2.2.2.2.1, .int .i64 y4.2.2.2.2.2.1, .nils])]⟩) {live := [3, 6], src := [some 0, some 2]} (by kernel_rfl) (by kernel_rfl) ?_
    refine WO_nil ?_
    refine th_n ?_
    refine W_tell (τ := f_sess_Done.s1 (y4.2.1, (y4.2.2.1, y4.1)) y4.2.2.2.2.1 y4.2.2.2.2.2.1) {fz := [], gr := 0, ad := [], live := [3, 6], src := [some 0, some 1]} (by kernel_rfl) (by kernel_rfl) ?_
    exact f_sess_Done.j1_ok hV k (y4.2.1, (y4.2.2.1, y4.1)) y4.2.2.2.2.1 y4.2.2.2.2.2.1 H
  · rw [if_neg (by rw [hb3]; decide)] at H
    refine D_skip (by kernel_rfl) ?_
    refine th_n ?_
    refine W_tell (τ := f_sess_Done.s2 y1.2.2.2.2.1 y1.2.2.2.2.2.1 y1.2.2.1 y1.2.2.2.1 y1.2.2.2.2.2.2.1) {fz := [], gr := 0, ad := [], live := [3, 6], src := [some 0, some 2, some 3]} (by kernel_rfl) (by kernel_rfl) ?_
    exact f_sess_Done.j2_ok hV k y1.2.2.2.2.1 y1.2.2.2.2.2.1 y1.2.2.1 y1.2.2.2.1 y1.2.2.2.2.2.2.1 H
theorem f_sess_Done.V_ok : EnvOk P f_sess_Done.V := { ck := tt_ck, fits := slk_nil, mixed := mixed }
theorem f_sess_Done.fits : Fits P 15 f_sess_Done.S := fits_of f_sess_Done.V_ok Go.Proofs.Try.func15 (by kernel_rfl) (by decide) (by decide) rfl (fun x r ⟨k, H⟩ => f_sess_Done.f_ok f_sess_Done.V_ok k x.1 x.2.1 x.2.2.1 H)
/-! ### f_sess_Take: function 16, wayfinder/sess.Take -/
abbrev f_sess_Take.ps : Sg := [(false, (.int .i64)), (false, (.int .i64)), (true, T4414)]
abbrev f_sess_Take.rs : Sg := [(false, (.int .i64))]
noncomputable def f_sess_Take.c0 : Code := (Go.Proofs.Try.f16.body).getD .skip
noncomputable def f_sess_Take.G : List (Nat × Spec) := []
noncomputable def f_sess_Take.V : Env := { tt := tt, Γ := slk f_sess_Take.G }
noncomputable abbrev f_sess_Take.Q (r : Tup f_sess_Take.rs) : Exit → St → Prop := Qr tt Go.Proofs.Try.f16.results ⟨f_sess_Take.ps, f_sess_Take.rs, .any, none, fun _ _ => True⟩ r
abbrev f_sess_Take.R := Tup f_sess_Take.rs
noncomputable def f_sess_Take.f (k : Nat) (a1 : Int) (a2 : Int) (a3 : T4414.T) : Option f_sess_Take.R :=
  if (a3.2.1 != a1) = true then
    some ((8 : Int), ())
  else
    if (decide (a3.2.2.1 ≤ a2)) = true then
      some ((6 : Int), ())
    else
      if (decide ((IntKind.i64.wrap (a3.2.2.1 - 1)) > a2)) = true then
        some ((3 : Int), ())
      else
        some ((0 : Int), ())
noncomputable def f_sess_Take.S : Spec := ⟨f_sess_Take.ps, f_sess_Take.rs, .any, none, fun x r => ∃ k, f_sess_Take.f k x.1 x.2.1 x.2.2.1 = some r⟩
theorem f_sess_Take.f_ok (hV : EnvOk P f_sess_Take.V) {r : f_sess_Take.R} (k : Nat) (a1 : Int) (a2 : Int) (a3 : T4414.T) (H : f_sess_Take.f k a1 a2 a3 = some r) : W P 0 f_sess_Take.c0 (⟨23, [(0, .cv (.one (.int .i64 a1))), (1, .cv (.one (.int .i64 a2))), (2, .cv (.agg [.int .i64 a3.1, .int .i64 a3.2.1, .int .i64 a3.2.2.1, .int .i64 a3.2.2.2.1, .int .i64 a3.2.2.2.2.1.1, .int .i64 a3.2.2.2.2.1.2, .int .i64 a3.2.2.2.2.2.1, .int .i64 a3.2.2.2.2.2.2.1, .int .i64 a3.2.2.2.2.2.2.2.1, .int .i64 a3.2.2.2.2.2.2.2.2]))], []⟩) (f_sess_Take.Q r) := by
  unfold f_sess_Take.f at H
  refine D_seq (by kernel_rfl) ?_
  refine D_reg (cs := []) (τ := ⟨23, [(0, .cv (.one (.int .i64 a1))), (1, .cv (.one (.int .i64 a2))), (5, .cv (.one (.ptr 0 0)))], [(.box 10, [.int .i64 a3.1, .int .i64 a3.2.1, .int .i64 a3.2.2.1, .int .i64 a3.2.2.2.1, .int .i64 a3.2.2.2.2.1.1, .int .i64 a3.2.2.2.2.1.2, .int .i64 a3.2.2.2.2.2.1, .int .i64 a3.2.2.2.2.2.2.1, .int .i64 a3.2.2.2.2.2.2.2.1, .int .i64 a3.2.2.2.2.2.2.2.2])]⟩) hV 1 [(0, {sb := 0})] {live := [0, 1, 5], src := [some 0]} (by kernel_rfl) (by kernel_rfl) trivial ?_
  refine th_n ?_
  refine D_seq (by kernel_rfl) ?_
  refine D_block (id := 0) (by kernel_rfl) ?_
  refine D_seq (by kernel_rfl) ?_
  refine D_reg (cs := []) (τ := ⟨23, [(1, .cv (.one (.int .i64 a2))), (5, .cv (.one (.ptr 0 0))), (7, .cv (.one (.bool (a3.2.1 != a1))))], [(.box 10, [.int .i64 a3.1, .int .i64 a3.2.1, .int .i64 a3.2.2.1, .int .i64 a3.2.2.2.1, .int .i64 a3.2.2.2.2.1.1, .int .i64 a3.2.2.2.2.1.2, .int .i64 a3.2.2.2.2.2.1, .int .i64 a3.2.2.2.2.2.2.1, .int .i64 a3.2.2.2.2.2.2.2.1, .int .i64 a3.2.2.2.2.2.2.2.2])]⟩) hV 0 [] {live := [1, 5, 7], src := [some 0]} (by kernel_rfl) (by kernel_rfl) trivial ?_
  refine th_n ?_
  refine D_condB (t := 7) (b := (a3.2.1 != a1)) (by kernel_rfl) (by kernel_rfl) (fun hb1 => ?_) (fun hb1 => ?_)
  · rw [if_pos hb1] at H
    refine D_seq (by kernel_rfl) ?_
    refine D_reg (cs := []) (τ := ⟨23, [(6, .cv (.one (.int .i64 8)))], []⟩) hV 0 [] {live := [6], src := []} (by kernel_rfl) (by kernel_rfl) trivial ?_
    refine th_n ?_
    refine D_ret (by kernel_rfl) ?_
    refine bl_r ?_
    refine th_r ?_
    exact lf_r (Eq.trans (by kernel_rfl) H)
  · rw [if_neg (by rw [hb1]; decide)] at H
    refine D_seq (by kernel_rfl) ?_
    refine D_reg (cs := []) (τ := ⟨23, [(1, .cv (.one (.int .i64 a2))), (5, .cv (.one (.ptr 0 0))), (12, .cv (.one (.bool (decide (a3.2.2.1 ≤ a2)))))], [(.box 10, [.int .i64 a3.1, .int .i64 a3.2.1, .int .i64 a3.2.2.1, .int .i64 a3.2.2.2.1, .int .i64 a3.2.2.2.2.1.1, .int .i64 a3.2.2.2.2.1.2, .int .i64 a3.2.2.2.2.2.1, .int .i64 a3.2.2.2.2.2.2.1, .int .i64 a3.2.2.2.2.2.2.2.1, .int .i64 a3.2.2.2.2.2.2.2.2])]⟩) hV 0 [] {live := [1, 5, 12], src := [some 0]} (by kernel_rfl) (by kernel_rfl) trivial ?_
    refine th_n ?_
    refine D_condB (t := 12) (b := (decide (a3.2.2.1 ≤ a2))) (by kernel_rfl) (by kernel_rfl) (fun hb2 => ?_) (fun hb2 => ?_)
    · rw [if_pos hb2] at H
      refine D_seq (by kernel_rfl) ?_
      refine D_reg (cs := []) (τ := ⟨23, [(6, .cv (.one (.int .i64 6)))], []⟩) hV 0 [] {live := [6], src := []} (by kernel_rfl) (by kernel_rfl) trivial ?_
      refine th_n ?_
      refine D_ret (by kernel_rfl) ?_
      refine bl_r ?_
      refine th_r ?_
      exact lf_r (Eq.trans (by kernel_rfl) H)
    · rw [if_neg (by rw [hb2]; decide)] at H
      refine D_seq (by kernel_rfl) ?_
      refine D_reg (cs := []) (τ := ⟨23, [(17, .cv (.one (.bool (decide ((IntKind.i64.wrap (a3.2.2.1 - 1)) > a2)))))], []⟩) hV 0 [] {live := [17], src := []} (by kernel_rfl) (by kernel_rfl) trivial ?_
      refine th_n ?_
      refine D_condB (t := 17) (b := (decide ((IntKind.i64.wrap (a3.2.2.1 - 1)) > a2))) (by kernel_rfl) (by kernel_rfl) (fun hb3 => ?_) (fun hb3 => ?_)
      · rw [if_pos hb3] at H
        refine D_seq (by kernel_rfl) ?_
        refine D_reg (cs := []) (τ := ⟨23, [(6, .cv (.one (.int .i64 3)))], []⟩) hV 0 [] {live := [6], src := []} (by kernel_rfl) (by kernel_rfl) trivial ?_
        refine th_n ?_
        refine D_ret (by kernel_rfl) ?_
        refine bl_r ?_
        refine th_r ?_
        exact lf_r (Eq.trans (by kernel_rfl) H)
      · rw [if_neg (by rw [hb3]; decide)] at H
        refine D_skip (by kernel_rfl) ?_
        refine bl_n ?_
        refine th_n ?_
        refine D_seq (by kernel_rfl) ?_
        refine D_reg (cs := []) (τ := ⟨23, [(6, .cv (.one (.int .i64 0)))], []⟩) hV 0 [] {live := [6], src := []} (by kernel_rfl) (by kernel_rfl) trivial ?_
        refine th_n ?_
        refine D_ret (by kernel_rfl) ?_
        exact lf_r (Eq.trans (by kernel_rfl) H)
theorem f_sess_Take.V_ok : EnvOk P f_sess_Take.V := { ck := tt_ck, fits := slk_nil, mixed := mixed }
theorem f_sess_Take.fits : Fits P 16 f_sess_Take.S := fits_of f_sess_Take.V_ok Go.Proofs.Try.func16 (by kernel_rfl) (by decide) (by decide) rfl (fun x r ⟨k, H⟩ => f_sess_Take.f_ok f_sess_Take.V_ok k x.1 x.2.1 x.2.2.1 H)
/-! ### f_law15_awake: function 12, wayfinder/wayfinderlaw15.awake -/
abbrev f_law15_awake.ps : Sg := []
abbrev f_law15_awake.rs : Sg := [(false, .bool)]
noncomputable def f_law15_awake.c0 : Code := (Go.Proofs.Try.f12.body).getD .skip
noncomputable def f_law15_awake.G : List (Nat × Spec) := [(13, f_sess_New.S), (14, f_sess_Push.S), (15, f_sess_Done.S), (16, f_sess_Take.S)]
noncomputable def f_law15_awake.V : Env := { tt := tt, Γ := slk f_law15_awake.G }
noncomputable abbrev f_law15_awake.Q (r : Tup f_law15_awake.rs) : Exit → St → Prop := Qr tt Go.Proofs.Try.f12.results ⟨f_law15_awake.ps, f_law15_awake.rs, .any, none, fun _ _ => True⟩ r
abbrev f_law15_awake.R := Tup f_law15_awake.rs
noncomputable def f_law15_awake.f (k : Nat) : Option f_law15_awake.R :=
  (f_sess_New.f k (3 : Int)).bind fun y1 =>
    (f_sess_Push.f k y1.1 (5, (0, (0, (0, ((0, 0), (0, (0, (0, 0))))))))).bind fun y2 =>
      (f_sess_Push.f k y2.1 (5, (0, (0, (0, ((0, 0), (0, (0, (0, 0))))))))).bind fun y5 =>
        (f_sess_Done.f k y5.1 (3 : Int) (1 : Int)).bind fun y7 =>
          if (y2.2.1 == (0 : Int)) = true then
            if (y5.2.1 == (0 : Int)) = true then
              if ((y5.1.2.2.length : Int) == (2 : Int)) = true then
                if ((y7.1.2.2.length : Int) == (1 : Int)) = true then
                  if (0 : Int) < (y7.1.2.2.length : Int) then
                    if (((((att T4414 y7.1.2.2 0).2).2).1) == (2 : Int)) = true then
                      if ((((att T4414 y7.1.2.2 0).2).1) == (3 : Int)) = true then
                        (f_sess_Take.f k (3 : Int) (1 : Int) (att T4414 y7.1.2.2 0)).bind fun y9 =>
                          if (y9.1 == (0 : Int)) = true then
                            (f_sess_Take.f k (3 : Int) (2 : Int) (att T4414 y7.1.2.2 0)).bind fun y10 =>
                              some ((y10.1 == (6 : Int)), ())
                          else
                            some (false, ())
                      else
                        some (false, ())
                    else
                      some (false, ())
                  else none
                else
                  some (false, ())
              else
                some (false, ())
            else
              some (false, ())
          else
            some (false, ())
noncomputable def f_law15_awake.S : Spec := ⟨f_law15_awake.ps, f_law15_awake.rs, .any, none, fun x r => ∃ k, f_law15_awake.f k = some r⟩
theorem f_law15_awake.f_ok (hV : EnvOk P f_law15_awake.V) {r : f_law15_awake.R} (k : Nat) (H : f_law15_awake.f k = some r) : W P 0 f_law15_awake.c0 (⟨70, [], []⟩) (f_law15_awake.Q r) := by
  unfold f_law15_awake.f at H
  refine D_seq (by kernel_rfl) ?_
  refine D_reg (cs := []) (τ := ⟨70, [], []⟩) hV 0 [] {live := [], src := []} (by kernel_rfl) (by kernel_rfl) trivial ?_
  refine th_n ?_
  refine D_seq (by kernel_rfl) ?_
  obtain ⟨y1, e3, H⟩ := of_bind H
  obtain ⟨y2, e4, H⟩ := of_bind H
  refine D_reg (cs := [f_sess_New.S.rel (3, ()) y1, f_sess_Push.S.rel (y1.1, (5, (0, (0, (0, ((0, 0), (0, (0, (0, 0)))))))), ()) y2]) (τ := ⟨70, [(1, .cv (.one (.ptr 0 0))), (2, .cv (.one (.int .i64 y2.2.1)))], [(.box 3, [.int .i64 y2.1.1, .int .i64 y2.1.2.1, .sl T4414 y2.1.2.2 .any])]⟩) hV 1 [(0, {res := some ⟨f_sess_New.S.rs, y1⟩}), (2, {res := some ⟨f_sess_Push.S.rs, y2⟩}), (6, {sb := 0})] {live := [1, 2], src := [some 0]} (by kernel_rfl) (by kernel_rfl) ⟨⟨k, e3⟩, ⟨k, e4⟩, trivial⟩ ?_
  refine th_n ?_
  refine D_seq (by kernel_rfl) ?_
  obtain ⟨y5, e6, H⟩ := of_bind H
  refine D_reg (cs := [f_sess_Push.S.rel (y2.1, (5, (0, (0, (0, ((0, 0), (0, (0, (0, 0)))))))), ()) y5]) (τ := ⟨70, [(2, .cv (.one (.int .i64 y2.2.1))), (3, .cv (.one (.ptr 0 0))), (4, .cv (.one (.int .i64 y5.2.1)))], [(.box 3, [.int .i64 y5.1.1, .int .i64 y5.1.2.1, .sl T4414 y5.1.2.2 .any])]⟩) hV 1 [(2, {res := some ⟨f_sess_Push.S.rs, y5⟩}), (6, {sb := 1})] {live := [2, 3, 4], src := [some 1]} (by kernel_rfl) (by kernel_rfl) ⟨⟨k, e6⟩, trivial⟩ ?_
  refine th_n ?_
  refine D_seq (by kernel_rfl) ?_
  obtain ⟨y7, e8, H⟩ := of_bind H
  refine D_reg (cs := [f_sess_Done.S.rel (y5.1, 3, 1, ()) y7]) (τ := ⟨70, [(2, .cv (.one (.int .i64 y2.2.1))), (3, .cv (.one (.ptr 0 0))), (4, .cv (.one (.int .i64 y5.2.1))), (5, .cv (.one (.ptr 1 0)))], [(.box 3, [.int .i64 y5.1.1, .int .i64 y5.1.2.1, .sl T4414 y5.1.2.2 .any]), (.box 3, [.int .i64 y7.1.1, .int .i64 y7.1.2.1, .sl T4414 y7.1.2.2 .any])]⟩) hV 1 [(1, {res := some ⟨f_sess_Done.S.rs, y7⟩}), (2, {sb := 1})] {live := [2, 3, 4, 5], src := [some 0, some 1]} (by kernel_rfl) (by kernel_rfl) ⟨⟨k, e8⟩, trivial⟩ ?_
  refine th_n ?_
  refine D_seq (by kernel_rfl) ?_
  rcases of_ite H with ⟨hb11, H⟩ | ⟨hb11, H⟩
  · rcases of_ite H with ⟨hb12, H⟩ | ⟨hb12, H⟩
    · rcases of_ite H with ⟨hb13, H⟩ | ⟨hb13, H⟩
      · rcases of_ite H with ⟨hb14, H⟩ | ⟨hb14, H⟩
        · obtain ⟨n15, H⟩ := of_if H
          rcases of_ite H with ⟨hb16, H⟩ | ⟨hb16, H⟩
          · rcases of_ite H with ⟨hb17, H⟩ | ⟨hb17, H⟩
            · obtain ⟨y9, e18, H⟩ := of_bind H
              rcases of_ite H with ⟨hb19, H⟩ | ⟨hb19, H⟩
              · obtain ⟨y10, e20, H⟩ := of_bind H
                refine D_reg (cs := [((y2.2.1 == (0 : Int))) = true, ((y5.2.1 == (0 : Int))) = true, (((y5.1.2.2.length : Int) == (2 : Int))) = true, (((y7.1.2.2.length : Int) == (1 : Int))) = true, 0 ≤ (0 : Int), (0 : Int) < (y7.1.2.2.length : Int), ((((((att T4414 y7.1.2.2 0).2).2).1) == (2 : Int))) = true, 0 ≤ (0 : Int), (0 : Int) < (y7.1.2.2.length : Int), (((((att T4414 y7.1.2.2 0).2).1) == (3 : Int))) = true, 0 ≤ (0 : Int), (0 : Int) < (y7.1.2.2.length : Int), f_sess_Take.S.rel (3, 1, (att T4414 y7.1.2.2 0), ()) y9, ((y9.1 == (0 : Int))) = true, 0 ≤ (0 : Int), (0 : Int) < (y7.1.2.2.length : Int), f_sess_Take.S.rel (3, 2, (att T4414 y7.1.2.2 0), ()) y10]) (τ := ⟨70, [(0, .cv (.one (.bool (y10.1 == (6 : Int)))))], []⟩) hV 0 [(1, {bv := some true}), (5, {bv := some true}), (11, {bv := some true}), (17, {bv := some true}), (25, {bv := some true}), (33, {bv := some true}), (39, {res := some ⟨f_sess_Take.S.rs, y9⟩}), (41, {bv := some true}), (47, {res := some ⟨f_sess_Take.S.rs, y10⟩})] {live := [0], src := []} (by kernel_rfl) (by kernel_rfl) ⟨hb11, hb12, hb13, hb14, (by decide), n15, hb16, (by decide), n15, hb17, (by decide), n15, ⟨k, e18⟩, hb19, (by decide), n15, ⟨k, e20⟩, trivial⟩ ?_
                refine th_n ?_
                refine D_ret (by kernel_rfl) ?_
                exact lf_r (Eq.trans (by kernel_rfl) H)
              · refine D_reg (cs := [((y2.2.1 == (0 : Int))) = true, ((y5.2.1 == (0 : Int))) = true, (((y5.1.2.2.length : Int) == (2 : Int))) = true, (((y7.1.2.2.length : Int) == (1 : Int))) = true, 0 ≤ (0 : Int), (0 : Int) < (y7.1.2.2.length : Int), ((((((att T4414 y7.1.2.2 0).2).2).1) == (2 : Int))) = true, 0 ≤ (0 : Int), (0 : Int) < (y7.1.2.2.length : Int), (((((att T4414 y7.1.2.2 0).2).1) == (3 : Int))) = true, 0 ≤ (0 : Int), (0 : Int) < (y7.1.2.2.length : Int), f_sess_Take.S.rel (3, 1, (att T4414 y7.1.2.2 0), ()) y9, ((y9.1 == (0 : Int))) = false]) (τ := ⟨70, [(0, .cv (.one (.bool false)))], []⟩) hV 0 [(1, {bv := some true}), (5, {bv := some true}), (11, {bv := some true}), (17, {bv := some true}), (25, {bv := some true}), (33, {bv := some true}), (39, {res := some ⟨f_sess_Take.S.rs, y9⟩}), (41, {bv := some false})] {live := [0], src := []} (by kernel_rfl) (by kernel_rfl) ⟨hb11, hb12, hb13, hb14, (by decide), n15, hb16, (by decide), n15, hb17, (by decide), n15, ⟨k, e18⟩, hb19, trivial⟩ ?_
                refine th_n ?_
                refine D_ret (by kernel_rfl) ?_
                exact lf_r (Eq.trans (by kernel_rfl) H)
            · refine D_reg (cs := [((y2.2.1 == (0 : Int))) = true, ((y5.2.1 == (0 : Int))) = true, (((y5.1.2.2.length : Int) == (2 : Int))) = true, (((y7.1.2.2.length : Int) == (1 : Int))) = true, 0 ≤ (0 : Int), (0 : Int) < (y7.1.2.2.length : Int), ((((((att T4414 y7.1.2.2 0).2).2).1) == (2 : Int))) = true, 0 ≤ (0 : Int), (0 : Int) < (y7.1.2.2.length : Int), (((((att T4414 y7.1.2.2 0).2).1) == (3 : Int))) = false]) (τ := ⟨70, [(0, .cv (.one (.bool false)))], []⟩) hV 0 [(1, {bv := some true}), (5, {bv := some true}), (11, {bv := some true}), (17, {bv := some true}), (25, {bv := some true}), (33, {bv := some false})] {live := [0], src := []} (by kernel_rfl) (by kernel_rfl) ⟨hb11, hb12, hb13, hb14, (by decide), n15, hb16, (by decide), n15, hb17, trivial⟩ ?_
              refine th_n ?_
              refine D_ret (by kernel_rfl) ?_
              exact lf_r (Eq.trans (by kernel_rfl) H)
          · refine D_reg (cs := [((y2.2.1 == (0 : Int))) = true, ((y5.2.1 == (0 : Int))) = true, (((y5.1.2.2.length : Int) == (2 : Int))) = true, (((y7.1.2.2.length : Int) == (1 : Int))) = true, 0 ≤ (0 : Int), (0 : Int) < (y7.1.2.2.length : Int), ((((((att T4414 y7.1.2.2 0).2).2).1) == (2 : Int))) = false]) (τ := ⟨70, [(0, .cv (.one (.bool false)))], []⟩) hV 0 [(1, {bv := some true}), (5, {bv := some true}), (11, {bv := some true}), (17, {bv := some true}), (25, {bv := some false})] {live := [0], src := []} (by kernel_rfl) (by kernel_rfl) ⟨hb11, hb12, hb13, hb14, (by decide), n15, hb16, trivial⟩ ?_
            refine th_n ?_
            refine D_ret (by kernel_rfl) ?_
            exact lf_r (Eq.trans (by kernel_rfl) H)
        · refine D_reg (cs := [((y2.2.1 == (0 : Int))) = true, ((y5.2.1 == (0 : Int))) = true, (((y5.1.2.2.length : Int) == (2 : Int))) = true, (((y7.1.2.2.length : Int) == (1 : Int))) = false]) (τ := ⟨70, [(0, .cv (.one (.bool false)))], []⟩) hV 0 [(1, {bv := some true}), (5, {bv := some true}), (11, {bv := some true}), (17, {bv := some false})] {live := [0], src := []} (by kernel_rfl) (by kernel_rfl) ⟨hb11, hb12, hb13, hb14, trivial⟩ ?_
          refine th_n ?_
          refine D_ret (by kernel_rfl) ?_
          exact lf_r (Eq.trans (by kernel_rfl) H)
      · refine D_reg (cs := [((y2.2.1 == (0 : Int))) = true, ((y5.2.1 == (0 : Int))) = true, (((y5.1.2.2.length : Int) == (2 : Int))) = false]) (τ := ⟨70, [(0, .cv (.one (.bool false)))], []⟩) hV 0 [(1, {bv := some true}), (5, {bv := some true}), (11, {bv := some false})] {live := [0], src := []} (by kernel_rfl) (by kernel_rfl) ⟨hb11, hb12, hb13, trivial⟩ ?_
        refine th_n ?_
        refine D_ret (by kernel_rfl) ?_
        exact lf_r (Eq.trans (by kernel_rfl) H)
    · refine D_reg (cs := [((y2.2.1 == (0 : Int))) = true, ((y5.2.1 == (0 : Int))) = false]) (τ := ⟨70, [(0, .cv (.one (.bool false)))], []⟩) hV 0 [(1, {bv := some true}), (5, {bv := some false})] {live := [0], src := []} (by kernel_rfl) (by kernel_rfl) ⟨hb11, hb12, trivial⟩ ?_
      refine th_n ?_
      refine D_ret (by kernel_rfl) ?_
      exact lf_r (Eq.trans (by kernel_rfl) H)
  · refine D_reg (cs := [((y2.2.1 == (0 : Int))) = false]) (τ := ⟨70, [(0, .cv (.one (.bool false)))], []⟩) hV 0 [(1, {bv := some false})] {live := [0], src := []} (by kernel_rfl) (by kernel_rfl) ⟨hb11, trivial⟩ ?_
    refine th_n ?_
    refine D_ret (by kernel_rfl) ?_
    exact lf_r (Eq.trans (by kernel_rfl) H)
theorem f_law15_awake.V_ok : EnvOk P f_law15_awake.V := { ck := tt_ck, fits := slk_cons f_sess_New.fits (slk_cons f_sess_Push.fits (slk_cons f_sess_Done.fits (slk_cons f_sess_Take.fits (slk_nil)))), mixed := mixed }
theorem f_law15_awake.fits : Fits P 12 f_law15_awake.S := fits_of f_law15_awake.V_ok Go.Proofs.Try.func12 (by kernel_rfl) (by decide) (by decide) rfl (fun x r ⟨k, H⟩ => f_law15_awake.f_ok f_law15_awake.V_ok k H)
/-! ### f_law15_SessOnce: function 3, wayfinder/wayfinderlaw15.SessOnce -/
abbrev f_law15_SessOnce.ps : Sg := [(false, (.slice Tf9b7))]
abbrev f_law15_SessOnce.rs : Sg := [(false, .bool)]
noncomputable def f_law15_SessOnce.c0 : Code := (Go.Proofs.Try.f3.body).getD .skip
noncomputable def f_law15_SessOnce.G : List (Nat × Spec) := [(12, f_law15_awake.S), (13, f_sess_New.S), (14, f_sess_Push.S), (15, f_sess_Done.S), (16, f_sess_Take.S)]
noncomputable def f_law15_SessOnce.V : Env := { tt := tt, Γ := slk f_law15_SessOnce.G }
noncomputable abbrev f_law15_SessOnce.Q (r : Tup f_law15_SessOnce.rs) : Exit → St → Prop := Qr tt Go.Proofs.Try.f3.results ⟨f_law15_SessOnce.ps, f_law15_SessOnce.rs, .any, none, fun _ _ => True⟩ r
abbrev f_law15_SessOnce.R := Tup f_law15_SessOnce.rs
noncomputable def f_law15_SessOnce.s1 (p1 : List Tf9b7.T) (p2 : Bool) (p3 : Bool) : St := ⟨180, [(0, .cv (.one (.sl Tf9b7 p1 .any))), (3, .cv (.one (.bool p2))), (22, .cv (.one (.bool p3)))], []⟩
noncomputable def f_law15_SessOnce.s2 (p1 : List Tf9b7.T) (p2 : Int) (p3 : Int) (p4 : Tb104.T) (p5 : List Int) (p6 : List Int) (p7 : List T4414.T) : St := ⟨180, [(0, .cv (.one (.sl Tf9b7 p1 .any))), (4, .cv (.one (.ptr 0 0))), (5, .cv (.one (.own 1))), (6, .cv (.one (.own 2))), (7, .cv (.one (.own 3))), (8, .cv (.one (.int .i64 p2))), (9, .cv (.one (.int .i64 p3)))], [(.box 3, [.int .i64 p4.1, .int .i64 p4.2.1, .sl T4414 p4.2.2 .any]), (.buf 3 (.int .i64) p5, []), (.buf 3 (.int .i64) p6, []), (.buf 41 T4414 p7, [])]⟩
noncomputable def f_law15_SessOnce.s4 (p1 : List Tf9b7.T) (p2 : Int) (p3 : Int) (p4 : Tb104.T) (p5 : List Int) (p6 : List Int) (p7 : List T4414.T) : St := ⟨180, [(0, .cv (.one (.sl Tf9b7 p1 .any))), (4, .cv (.one (.ptr 0 0))), (5, .cv (.one (.own 1))), (6, .cv (.one (.own 2))), (7, .cv (.one (.own 3))), (8, .cv (.one (.int .i64 p2))), (9, .cv (.one (.int .i64 p3)))], [(.box 3, [.int .i64 p4.1, .int .i64 p4.2.1, .sl T4414 p4.2.2 .any]), (.buf 3 (.int .i64) p5, []), (.buf 3 (.int .i64) p6, []), (.buf 41 T4414 p7, [])]⟩
noncomputable def f_law15_SessOnce.s3 (p1 : List Tf9b7.T) (p2 : Int) (p3 : Int) (p4 : Bool) (p5 : Tb104.T) (p6 : List Int) (p7 : List Int) (p8 : List T4414.T) : St := ⟨180, [(0, .cv (.one (.sl Tf9b7 p1 .any))), (4, .cv (.one (.ptr 0 0))), (5, .cv (.one (.own 1))), (6, .cv (.one (.own 2))), (7, .cv (.one (.own 3))), (8, .cv (.one (.int .i64 p2))), (9, .cv (.one (.int .i64 p3))), (142, .cv (.one (.bool p4)))], [(.box 3, [.int .i64 p5.1, .int .i64 p5.2.1, .sl T4414 p5.2.2 .any]), (.buf 3 (.int .i64) p6, []), (.buf 3 (.int .i64) p7, []), (.buf 41 T4414 p8, [])]⟩
noncomputable def f_law15_SessOnce.s5 (p1 : List Tf9b7.T) (p2 : Int) (p3 : Int) (p4 : Tb104.T) (p5 : List Int) (p6 : List Int) (p7 : List T4414.T) : St := ⟨180, [(0, .cv (.one (.sl Tf9b7 p1 .any))), (4, .cv (.one (.ptr 0 0))), (5, .cv (.one (.own 1))), (6, .cv (.one (.own 2))), (7, .cv (.one (.own 3))), (8, .cv (.one (.int .i64 p2))), (9, .cv (.one (.int .i64 p3)))], [(.box 3, [.int .i64 p4.1, .int .i64 p4.2.1, .sl T4414 p4.2.2 .any]), (.buf 3 (.int .i64) p5, []), (.buf 3 (.int .i64) p6, []), (.buf 41 T4414 p7, [])]⟩
noncomputable def f_law15_SessOnce.j5 (L2 : List Tf9b7.T → Int → Int → Tb104.T → List Int → List Int → List T4414.T → Option f_law15_SessOnce.R) (k : Nat) (p1 : List Tf9b7.T) (p2 : Int) (p3 : Int) (p4 : Tb104.T) (p5 : List Int) (p6 : List Int) (p7 : List T4414.T) : Option f_law15_SessOnce.R :=
  L2 p1 p2 (IntKind.i64.wrap (p3 + 1)) p4 p5 p6 p7
theorem f_law15_SessOnce.j5_ok (hV : EnvOk P f_law15_SessOnce.V) {r : f_law15_SessOnce.R} (L2 : List Tf9b7.T → Int → Int → Tb104.T → List Int → List Int → List T4414.T → Option f_law15_SessOnce.R) (m2 : Nat) (hL2 : ∀ (p1 : List Tf9b7.T) (p2 : Int) (p3 : Int) (p4 : Tb104.T) (p5 : List Int) (p6 : List Int) (p7 : List T4414.T), L2 p1 p2 p3 p4 p5 p6 p7 = some r → WL P 0 (Code.l (Code.l (Code.r (Code.l (Code.r (Code.r (Code.r (Code.r (Code.r (Code.r (Code.r (Code.r f_law15_SessOnce.c0)))))))))))) (blockW 0 (thenW P 0 (Code.r (Code.r (Code.r (Code.r (Code.r (Code.r (Code.r (Code.r (Code.r f_law15_SessOnce.c0))))))))) (f_law15_SessOnce.Q r))) m2 (f_law15_SessOnce.s2 p1 p2 p3 p4 p5 p6 p7)) (k : Nat) (p1 : List Tf9b7.T) (p2 : Int) (p3 : Int) (p4 : Tb104.T) (p5 : List Int) (p6 : List Int) (p7 : List T4414.T) (H : f_law15_SessOnce.j5 L2 k p1 p2 p3 p4 p5 p6 p7 = some r) : W P 0 (Code.r (Code.r (Code.l (Code.l (Code.r (Code.l (Code.r (Code.r (Code.r (Code.r (Code.r (Code.r (Code.r (Code.r f_law15_SessOnce.c0)))))))))))))) (f_law15_SessOnce.s5 p1 p2 p3 p4 p5 p6 p7) (roundW P 0 (Code.l (Code.l (Code.r (Code.l (Code.r (Code.r (Code.r (Code.r (Code.r (Code.r (Code.r (Code.r f_law15_SessOnce.c0)))))))))))) (blockW 0 (thenW P 0 (Code.r (Code.r (Code.r (Code.r (Code.r (Code.r (Code.r (Code.r (Code.r f_law15_SessOnce.c0))))))))) (f_law15_SessOnce.Q r))) m2) := by
  unfold f_law15_SessOnce.j5 at H
  refine D_reg (cs := []) (τ := ⟨180, [(0, .cv (.one (.sl Tf9b7 p1 .any))), (4, .cv (.one (.ptr 0 0))), (5, .cv (.one (.own 1))), (6, .cv (.one (.own 2))), (7, .cv (.one (.own 3))), (8, .cv (.one (.int .i64 p2))), (9, .cv (.one (.int .i64 (IntKind.i64.wrap (p3 + 1)))))], [(.box 3, [.int .i64 p4.1, .int .i64 p4.2.1, .sl T4414 p4.2.2 .any]), (.buf 3 (.int .i64) p5, []), (.buf 3 (.int .i64) p6, []), (.buf 41 T4414 p7, [])]⟩) hV 0 [] {live := [0, 4, 5, 6, 7, 8, 9], src := [some 0, some 1, some 2, some 3]} (by kernel_rfl) (by kernel_rfl) trivial ?_
  refine ro_n (WL_tell (τ := f_law15_SessOnce.s2 p1 p2 (IntKind.i64.wrap (p3 + 1)) p4 p5 p6 p7) {fz := [], gr := 0, ad := [], live := [0, 4, 5, 6, 7, 8, 9], src := [some 0, some 1, some 2, some 3]} (by kernel_rfl) (by kernel_rfl) ?_)
  exact hL2 p1 p2 (IntKind.i64.wrap (p3 + 1)) p4 p5 p6 p7 H
noncomputable def f_law15_SessOnce.j3 (L2 : List Tf9b7.T → Int → Int → Tb104.T → List Int → List Int → List T4414.T → Option f_law15_SessOnce.R) (k : Nat) (p1 : List Tf9b7.T) (p2 : Int) (p3 : Int) (p4 : Bool) (p5 : Tb104.T) (p6 : List Int) (p7 : List Int) (p8 : List T4414.T) : Option f_law15_SessOnce.R :=
  if p4 = true then
  some (false, ())
else
  f_law15_SessOnce.j5 L2 k p1 p2 p3 p5 p6 p7 p8
theorem f_law15_SessOnce.j3_ok (hV : EnvOk P f_law15_SessOnce.V) {r : f_law15_SessOnce.R} (L2 : List Tf9b7.T → Int → Int → Tb104.T → List Int → List Int → List T4414.T → Option f_law15_SessOnce.R) (m2 : Nat) (hL2 : ∀ (p1 : List Tf9b7.T) (p2 : Int) (p3 : Int) (p4 : Tb104.T) (p5 : List Int) (p6 : List Int) (p7 : List T4414.T), L2 p1 p2 p3 p4 p5 p6 p7 = some r → WL P 0 (Code.l (Code.l (Code.r (Code.l (Code.r (Code.r (Code.r (Code.r (Code.r (Code.r (Code.r (Code.r f_law15_SessOnce.c0)))))))))))) (blockW 0 (thenW P 0 (Code.r (Code.r (Code.r (Code.r (Code.r (Code.r (Code.r (Code.r (Code.r f_law15_SessOnce.c0))))))))) (f_law15_SessOnce.Q r))) m2 (f_law15_SessOnce.s2 p1 p2 p3 p4 p5 p6 p7)) (k : Nat) (p1 : List Tf9b7.T) (p2 : Int) (p3 : Int) (p4 : Bool) (p5 : Tb104.T) (p6 : List Int) (p7 : List Int) (p8 : List T4414.T) (H : f_law15_SessOnce.j3 L2 k p1 p2 p3 p4 p5 p6 p7 p8 = some r) : W P 0 (Code.r (Code.r (Code.l (Code.l (Code.r (Code.l (Code.l (Code.r (Code.l (Code.r (Code.r (Code.r (Code.r (Code.r (Code.r (Code.r (Code.r f_law15_SessOnce.c0))))))))))))))))) (f_law15_SessOnce.s3 p1 p2 p3 p4 p5 p6 p7 p8) (blockW 1 (thenW P 0 (Code.r (Code.r (Code.l (Code.l (Code.r (Code.l (Code.r (Code.r (Code.r (Code.r (Code.r (Code.r (Code.r (Code.r f_law15_SessOnce.c0)))))))))))))) (roundW P 0 (Code.l (Code.l (Code.r (Code.l (Code.r (Code.r (Code.r (Code.r (Code.r (Code.r (Code.r (Code.r f_law15_SessOnce.c0)))))))))))) (blockW 0 (thenW P 0 (Code.r (Code.r (Code.r (Code.r (Code.r (Code.r (Code.r (Code.r (Code.r f_law15_SessOnce.c0))))))))) (f_law15_SessOnce.Q r))) m2))) := by
  unfold f_law15_SessOnce.j3 at H
  refine D_condB (t := 142) (b := p4) (by kernel_rfl) (by kernel_rfl) (fun hb16 => ?_) (fun hb16 => ?_)
  · rw [if_pos hb16] at H
    refine D_seq (by kernel_rfl) ?_
    refine D_reg (cs := []) (τ := ⟨180, [(2, .cv (.one (.bool false)))], []⟩) hV 0 [] {live := [2], src := []} (by kernel_rfl) (by kernel_rfl) trivial ?_
    refine th_n ?_
    refine D_ret (by kernel_rfl) ?_
    refine bl_r ?_
    refine th_r ?_
    refine ro_r ?_
    refine bl_r ?_
    refine th_r ?_
    exact lf_r (Eq.trans (by kernel_rfl) H)
  · rw [if_neg (by rw [hb16]; decide)] at H
    refine D_skip (by kernel_rfl) ?_
    refine bl_n ?_
    refine th_n ?_
    refine W_tell (τ := f_law15_SessOnce.s5 p1 p2 p3 p5 p6 p7 p8) {fz := [], gr := 0, ad := [], live := [0, 4, 5, 6, 7, 8, 9], src := [some 0, some 1, some 2, some 3]} (by kernel_rfl) (by kernel_rfl) ?_
    exact f_law15_SessOnce.j5_ok hV L2 m2 hL2 k p1 p2 p3 p5 p6 p7 p8 H
noncomputable def f_law15_SessOnce.j4 (L2 : List Tf9b7.T → Int → Int → Tb104.T → List Int → List Int → List T4414.T → Option f_law15_SessOnce.R) (k : Nat) (p1 : List Tf9b7.T) (p2 : Int) (p3 : Int) (p4 : Tb104.T) (p5 : List Int) (p6 : List Int) (p7 : List T4414.T) : Option f_law15_SessOnce.R :=
  if (decide ((p6.length : Int) > (p5.length : Int))) = true then
  f_law15_SessOnce.j3 L2 k p1 p2 p3 true p4 p5 p6 p7
else
  if (p2 != (p6.length : Int)) = true then
    f_law15_SessOnce.j3 L2 k p1 p2 p3 true p4 p5 p6 p7
  else
    if (decide ((p4.2.2.length : Int) < (IntKind.i64.wrap ((p5.length : Int) - (p6.length : Int))))) = true then
      f_law15_SessOnce.j3 L2 k p1 p2 p3 true p4 p5 p6 p7
    else
      f_law15_SessOnce.j3 L2 k p1 p2 p3 (decide ((p4.2.2.length : Int) > (p5.length : Int))) p4 p5 p6 p7
theorem f_law15_SessOnce.j4_ok (hV : EnvOk P f_law15_SessOnce.V) {r : f_law15_SessOnce.R} (L2 : List Tf9b7.T → Int → Int → Tb104.T → List Int → List Int → List T4414.T → Option f_law15_SessOnce.R) (m2 : Nat) (hL2 : ∀ (p1 : List Tf9b7.T) (p2 : Int) (p3 : Int) (p4 : Tb104.T) (p5 : List Int) (p6 : List Int) (p7 : List T4414.T), L2 p1 p2 p3 p4 p5 p6 p7 = some r → WL P 0 (Code.l (Code.l (Code.r (Code.l (Code.r (Code.r (Code.r (Code.r (Code.r (Code.r (Code.r (Code.r f_law15_SessOnce.c0)))))))))))) (blockW 0 (thenW P 0 (Code.r (Code.r (Code.r (Code.r (Code.r (Code.r (Code.r (Code.r (Code.r f_law15_SessOnce.c0))))))))) (f_law15_SessOnce.Q r))) m2 (f_law15_SessOnce.s2 p1 p2 p3 p4 p5 p6 p7)) (k : Nat) (p1 : List Tf9b7.T) (p2 : Int) (p3 : Int) (p4 : Tb104.T) (p5 : List Int) (p6 : List Int) (p7 : List T4414.T) (H : f_law15_SessOnce.j4 L2 k p1 p2 p3 p4 p5 p6 p7 = some r) : W P 0 (Code.r (Code.l (Code.l (Code.r (Code.l (Code.l (Code.r (Code.l (Code.r (Code.r (Code.r (Code.r (Code.r (Code.r (Code.r (Code.r f_law15_SessOnce.c0)))))))))))))))) (f_law15_SessOnce.s4 p1 p2 p3 p4 p5 p6 p7) (blockW 1 (thenW P 0 (Code.r (Code.r (Code.l (Code.l (Code.r (Code.l (Code.r (Code.r (Code.r (Code.r (Code.r (Code.r (Code.r (Code.r f_law15_SessOnce.c0)))))))))))))) (roundW P 0 (Code.l (Code.l (Code.r (Code.l (Code.r (Code.r (Code.r (Code.r (Code.r (Code.r (Code.r (Code.r f_law15_SessOnce.c0)))))))))))) (blockW 0 (thenW P 0 (Code.r (Code.r (Code.r (Code.r (Code.r (Code.r (Code.r (Code.r (Code.r f_law15_SessOnce.c0))))))))) (f_law15_SessOnce.Q r))) m2))) := by
  unfold f_law15_SessOnce.j4 at H
  refine D_seq (by kernel_rfl) ?_
  rcases of_ite H with ⟨hb15, H⟩ | ⟨hb15, H⟩
  · refine D_reg (cs := [((decide ((p6.length : Int) > (p5.length : Int)))) = true]) (τ := ⟨180, [(0, .cv (.one (.sl Tf9b7 p1 .any))), (4, .cv (.one (.ptr 0 0))), (5, .cv (.one (.own 1))), (6, .cv (.one (.own 2))), (7, .cv (.one (.own 3))), (8, .cv (.one (.int .i64 p2))), (9, .cv (.one (.int .i64 p3))), (142, .cv (.one (.bool true)))], [(.box 3, [.int .i64 p4.1, .int .i64 p4.2.1, .sl T4414 p4.2.2 .any]), (.buf 3 (.int .i64) p5, []), (.buf 3 (.int .i64) p6, []), (.buf 41 T4414 p7, [])]⟩) hV 0 [(4, {bv := some true})] {live := [0, 4, 5, 6, 7, 8, 9, 142], src := [some 0, some 1, some 2, some 3]} (by kernel_rfl) (by kernel_rfl) ⟨hb15, trivial⟩ ?_
    refine th_n ?_
    refine W_tell (τ := f_law15_SessOnce.s3 p1 p2 p3 true p4 p5 p6 p7) {fz := [], gr := 0, ad := [], live := [0, 4, 5, 6, 7, 8, 9, 142], src := [some 0, some 1, some 2, some 3]} (by kernel_rfl) (by kernel_rfl) ?_
    exact f_law15_SessOnce.j3_ok hV L2 m2 hL2 k p1 p2 p3 true p4 p5 p6 p7 H
  · rcases of_ite H with ⟨hb17, H⟩ | ⟨hb17, H⟩
    · refine D_reg (cs := [((decide ((p6.length : Int) > (p5.length : Int)))) = false, ((p2 != (p6.length : Int))) = true]) (τ := ⟨180, [(0, .cv (.one (.sl Tf9b7 p1 .any))), (4, .cv (.one (.ptr 0 0))), (5, .cv (.one (.own 1))), (6, .cv (.one (.own 2))), (7, .cv (.one (.own 3))), (8, .cv (.one (.int .i64 p2))), (9, .cv (.one (.int .i64 p3))), (142, .cv (.one (.bool true)))], [(.box 3, [.int .i64 p4.1, .int .i64 p4.2.1, .sl T4414 p4.2.2 .any]), (.buf 3 (.int .i64) p5, []), (.buf 3 (.int .i64) p6, []), (.buf 41 T4414 p7, [])]⟩) hV 0 [(4, {bv := some false}), (10, {bv := some true})] {live := [0, 4, 5, 6, 7, 8, 9, 142], src := [some 0, some 1, some 2, some 3]} (by kernel_rfl) (by kernel_rfl) ⟨hb15, hb17, trivial⟩ ?_
      refine th_n ?_
      refine W_tell (τ := f_law15_SessOnce.s3 p1 p2 p3 true p4 p5 p6 p7) {fz := [], gr := 0, ad := [], live := [0, 4, 5, 6, 7, 8, 9, 142], src := [some 0, some 1, some 2, some 3]} (by kernel_rfl) (by kernel_rfl) ?_
      exact f_law15_SessOnce.j3_ok hV L2 m2 hL2 k p1 p2 p3 true p4 p5 p6 p7 H
    · rcases of_ite H with ⟨hb18, H⟩ | ⟨hb18, H⟩
      · refine D_reg (cs := [((decide ((p6.length : Int) > (p5.length : Int)))) = false, ((p2 != (p6.length : Int))) = false, ((decide ((p4.2.2.length : Int) < (IntKind.i64.wrap ((p5.length : Int) - (p6.length : Int)))))) = true]) (τ := ⟨180, [(0, .cv (.one (.sl Tf9b7 p1 .any))), (4, .cv (.one (.ptr 0 0))), (5, .cv (.one (.own 1))), (6, .cv (.one (.own 2))), (7, .cv (.one (.own 3))), (8, .cv (.one (.int .i64 p2))), (9, .cv (.one (.int .i64 p3))), (142, .cv (.one (.bool true)))], [(.box 3, [.int .i64 p4.1, .int .i64 p4.2.1, .sl T4414 p4.2.2 .any]), (.buf 3 (.int .i64) p5, []), (.buf 3 (.int .i64) p6, []), (.buf 41 T4414 p7, [])]⟩) hV 0 [(4, {bv := some false}), (10, {bv := some false}), (21, {bv := some true})] {live := [0, 4, 5, 6, 7, 8, 9, 142], src := [some 0, some 1, some 2, some 3]} (by kernel_rfl) (by kernel_rfl) ⟨hb15, hb17, hb18, trivial⟩ ?_
        refine th_n ?_
        refine W_tell (τ := f_law15_SessOnce.s3 p1 p2 p3 true p4 p5 p6 p7) {fz := [], gr := 0, ad := [], live := [0, 4, 5, 6, 7, 8, 9, 142], src := [some 0, some 1, some 2, some 3]} (by kernel_rfl) (by kernel_rfl) ?_
        exact f_law15_SessOnce.j3_ok hV L2 m2 hL2 k p1 p2 p3 true p4 p5 p6 p7 H
      · refine D_reg (cs := [((decide ((p6.length : Int) > (p5.length : Int)))) = false, ((p2 != (p6.length : Int))) = false, ((decide ((p4.2.2.length : Int) < (IntKind.i64.wrap ((p5.length : Int) - (p6.length : Int)))))) = false]) (τ := ⟨180, [(0, .cv (.one (.sl Tf9b7 p1 .any))), (4, .cv (.one (.ptr 0 0))), (5, .cv (.one (.own 1))), (6, .cv (.one (.own 2))), (7, .cv (.one (.own 3))), (8, .cv (.one (.int .i64 p2))), (9, .cv (.one (.int .i64 p3))), (142, .cv (.one (.bool (decide ((p4.2.2.length : Int) > (p5.length : Int))))))], [(.box 3, [.int .i64 p4.1, .int .i64 p4.2.1, .sl T4414 p4.2.2 .any]), (.buf 3 (.int .i64) p5, []), (.buf 3 (.int .i64) p6, []), (.buf 41 T4414 p7, [])]⟩) hV 0 [(4, {bv := some false}), (10, {bv := some false}), (21, {bv := some false})] {live := [0, 4, 5, 6, 7, 8, 9, 142], src := [some 0, some 1, some 2, some 3]} (by kernel_rfl) (by kernel_rfl) ⟨hb15, hb17, hb18, trivial⟩ ?_
        refine th_n ?_
        refine W_tell (τ := f_law15_SessOnce.s3 p1 p2 p3 (decide ((p4.2.2.length : Int) > (p5.length : Int))) p4 p5 p6 p7) {fz := [], gr := 0, ad := [], live := [0, 4, 5, 6, 7, 8, 9, 142], src := [some 0, some 1, some 2, some 3]} (by kernel_rfl) (by kernel_rfl) ?_
        exact f_law15_SessOnce.j3_ok hV L2 m2 hL2 k p1 p2 p3 (decide ((p4.2.2.length : Int) > (p5.length : Int))) p4 p5 p6 p7 H
noncomputable def f_law15_SessOnce.s8 (p1 : List Tf9b7.T) (p2 : Int) (p3 : Int) (p4 : Tb104.T) (p5 : List Int) (p6 : List Int) (p7 : List T4414.T) : St := ⟨180, [(0, .cv (.one (.sl Tf9b7 p1 .any))), (4, .cv (.one (.ptr 0 0))), (5, .cv (.one (.own 1))), (6, .cv (.one (.own 2))), (7, .cv (.one (.own 3))), (8, .cv (.one (.int .i64 p2))), (9, .cv (.one (.int .i64 p3))), (12, .cv (.one (.own 3)))], [(.box 3, [.int .i64 p4.1, .int .i64 p4.2.1, .sl T4414 p4.2.2 .any]), (.buf 3 (.int .i64) p5, []), (.buf 3 (.int .i64) p6, []), (.buf 41 T4414 p7, [])]⟩
noncomputable def f_law15_SessOnce.s9 (p1 : List Tf9b7.T) (p2 : Int) (p3 : Int) (p4 : Bool) (p5 : Tb104.T) (p6 : List Int) (p7 : List Int) (p8 : List T4414.T) : St := ⟨180, [(0, .cv (.one (.sl Tf9b7 p1 .any))), (4, .cv (.one (.ptr 0 0))), (5, .cv (.one (.own 1))), (6, .cv (.one (.own 2))), (7, .cv (.one (.own 3))), (8, .cv (.one (.int .i64 p2))), (9, .cv (.one (.int .i64 p3))), (12, .cv (.one (.own 3))), (60, .cv (.one (.bool p4)))], [(.box 3, [.int .i64 p5.1, .int .i64 p5.2.1, .sl T4414 p5.2.2 .any]), (.buf 3 (.int .i64) p6, []), (.buf 3 (.int .i64) p7, []), (.buf 41 T4414 p8, [])]⟩
noncomputable def f_law15_SessOnce.s10 (p1 : List Tf9b7.T) (p2 : Int) (p3 : Int) (p4 : Tb104.T) (p5 : List Int) (p6 : List Int) (p7 : List T4414.T) : St := ⟨180, [(0, .cv (.one (.sl Tf9b7 p1 .any))), (4, .cv (.one (.ptr 0 0))), (5, .cv (.one (.own 1))), (6, .cv (.one (.own 2))), (7, .cv (.one (.own 3))), (8, .cv (.one (.int .i64 p2))), (9, .cv (.one (.int .i64 p3))), (12, .cv (.one (.own 3)))], [(.box 3, [.int .i64 p4.1, .int .i64 p4.2.1, .sl T4414 p4.2.2 .any]), (.buf 3 (.int .i64) p5, []), (.buf 3 (.int .i64) p6, []), (.buf 41 T4414 p7, [])]⟩
noncomputable def f_law15_SessOnce.s12 (p1 : List Tf9b7.T) (p2 : Int) (p3 : Int) (p4 : Tb104.T) (p5 : List Int) (p6 : List Int) (p7 : List T4414.T) (p8 : T4414.T) : St := ⟨180, [(0, .cv (.one (.sl Tf9b7 p1 .any))), (4, .cv (.one (.ptr 0 0))), (5, .cv (.one (.own 1))), (6, .cv (.one (.own 2))), (7, .cv (.one (.own 3))), (8, .cv (.one (.int .i64 p2))), (9, .cv (.one (.int .i64 p3))), (13, .cv (.one (.ptr 4 0)))], [(.box 3, [.int .i64 p4.1, .int .i64 p4.2.1, .sl T4414 p4.2.2 .any]), (.buf 3 (.int .i64) p5, []), (.buf 3 (.int .i64) p6, []), (.buf 41 T4414 p7, []), (.box 10, [.int .i64 p8.1, .int .i64 p8.2.1, .int .i64 p8.2.2.1, .int .i64 p8.2.2.2.1, .int .i64 p8.2.2.2.2.1.1, .int .i64 p8.2.2.2.2.1.2, .int .i64 p8.2.2.2.2.2.1, .int .i64 p8.2.2.2.2.2.2.1, .int .i64 p8.2.2.2.2.2.2.2.1, .int .i64 p8.2.2.2.2.2.2.2.2])]⟩
noncomputable def f_law15_SessOnce.j12 (L2 : List Tf9b7.T → Int → Int → Tb104.T → List Int → List Int → List T4414.T → Option f_law15_SessOnce.R) (k : Nat) (p1 : List Tf9b7.T) (p2 : Int) (p3 : Int) (p4 : Tb104.T) (p5 : List Int) (p6 : List Int) (p7 : List T4414.T) (p8 : T4414.T) : Option f_law15_SessOnce.R :=
  if (p7.length + 1) * 80 ≤ 140737488355328 then
  (f_sess_Take.f k (5 : Int) p2 p8).bind fun y32 =>
    if (y32.1 == (0 : Int)) = true then
      if (p6.length + 1) * 8 ≤ 140737488355328 then
        f_law15_SessOnce.j4 L2 k p1 p8.2.2.1 p3 p4 p5 (p6 ++ [p8.2.2.2.1]) (p7 ++ [p8])
      else none
    else
      f_law15_SessOnce.j4 L2 k p1 p2 p3 p4 p5 p6 (p7 ++ [p8])
else none
theorem f_law15_SessOnce.j12_ok (hV : EnvOk P f_law15_SessOnce.V) {r : f_law15_SessOnce.R} (L2 : List Tf9b7.T → Int → Int → Tb104.T → List Int → List Int → List T4414.T → Option f_law15_SessOnce.R) (m2 : Nat) (hL2 : ∀ (p1 : List Tf9b7.T) (p2 : Int) (p3 : Int) (p4 : Tb104.T) (p5 : List Int) (p6 : List Int) (p7 : List T4414.T), L2 p1 p2 p3 p4 p5 p6 p7 = some r → WL P 0 (Code.l (Code.l (Code.r (Code.l (Code.r (Code.r (Code.r (Code.r (Code.r (Code.r (Code.r (Code.r f_law15_SessOnce.c0)))))))))))) (blockW 0 (thenW P 0 (Code.r (Code.r (Code.r (Code.r (Code.r (Code.r (Code.r (Code.r (Code.r f_law15_SessOnce.c0))))))))) (f_law15_SessOnce.Q r))) m2 (f_law15_SessOnce.s2 p1 p2 p3 p4 p5 p6 p7)) (k : Nat) (p1 : List Tf9b7.T) (p2 : Int) (p3 : Int) (p4 : Tb104.T) (p5 : List Int) (p6 : List Int) (p7 : List T4414.T) (p8 : T4414.T) (H : f_law15_SessOnce.j12 L2 k p1 p2 p3 p4 p5 p6 p7 p8 = some r) : W P 0 (Code.r (Code.r (Code.r (Code.r (Code.r (Code.r (Code.r (Code.r (Code.l (Code.r (Code.l (Code.l (Code.l (Code.r (Code.l (Code.l (Code.r (Code.l (Code.r (Code.r (Code.r (Code.r (Code.r (Code.r (Code.r (Code.r f_law15_SessOnce.c0)))))))))))))))))))))))))) (f_law15_SessOnce.s12 p1 p2 p3 p4 p5 p6 p7 p8) (blockW 2 (thenW P 0 (Code.r (Code.l (Code.l (Code.r (Code.l (Code.l (Code.r (Code.l (Code.r (Code.r (Code.r (Code.r (Code.r (Code.r (Code.r (Code.r f_law15_SessOnce.c0)))))))))))))))) (blockW 1 (thenW P 0 (Code.r (Code.r (Code.l (Code.l (Code.r (Code.l (Code.r (Code.r (Code.r (Code.r (Code.r (Code.r (Code.r (Code.r f_law15_SessOnce.c0)))))))))))))) (roundW P 0 (Code.l (Code.l (Code.r (Code.l (Code.r (Code.r (Code.r (Code.r (Code.r (Code.r (Code.r (Code.r f_law15_SessOnce.c0)))))))))))) (blockW 0 (thenW P 0 (Code.r (Code.r (Code.r (Code.r (Code.r (Code.r (Code.r (Code.r (Code.r f_law15_SessOnce.c0))))))))) (f_law15_SessOnce.Q r))) m2))))) := by
  unfold f_law15_SessOnce.j12 at H
  refine D_seq (by kernel_rfl) ?_
  obtain ⟨n31, H⟩ := of_if H
  refine D_reg (cs := [(p7.length + 1) * 80 ≤ 140737488355328]) (τ := ⟨180, [(0, .cv (.one (.sl Tf9b7 p1 .any))), (4, .cv (.one (.ptr 0 0))), (5, .cv (.one (.own 1))), (6, .cv (.one (.own 2))), (7, .cv (.one (.own 3))), (8, .cv (.one (.int .i64 p2))), (9, .cv (.one (.int .i64 p3))), (13, .cv (.one (.ptr 4 0)))], [(.box 3, [.int .i64 p4.1, .int .i64 p4.2.1, .sl T4414 p4.2.2 .any]), (.buf 3 (.int .i64) p5, []), (.buf 3 (.int .i64) p6, []), (.buf 41 T4414 (p7 ++ [p8]), []), (.box 10, [.int .i64 p8.1, .int .i64 p8.2.1, .int .i64 p8.2.2.1, .int .i64 p8.2.2.2.1, .int .i64 p8.2.2.2.2.1.1, .int .i64 p8.2.2.2.2.1.2, .int .i64 p8.2.2.2.2.2.1, .int .i64 p8.2.2.2.2.2.2.1, .int .i64 p8.2.2.2.2.2.2.2.1, .int .i64 p8.2.2.2.2.2.2.2.2])]⟩) hV 1 [(3, {sb := 5})] {live := [0, 4, 5, 6, 7, 8, 9, 13], src := [some 0, some 1, some 2, some 5, some 4]} (by kernel_rfl) (by kernel_rfl) ⟨n31, trivial⟩ ?_
  refine th_n ?_
  refine D_seq (by kernel_rfl) ?_
  obtain ⟨y32, e33, H⟩ := of_bind H
  refine D_reg (cs := [f_sess_Take.S.rel (5, p2, p8, ()) y32]) (τ := ⟨180, [(0, .cv (.one (.sl Tf9b7 p1 .any))), (4, .cv (.one (.ptr 0 0))), (5, .cv (.one (.own 1))), (6, .cv (.one (.own 2))), (7, .cv (.one (.own 3))), (8, .cv (.one (.int .i64 p2))), (9, .cv (.one (.int .i64 p3))), (13, .cv (.one (.ptr 4 0))), (76, .cv (.one (.bool (y32.1 == (0 : Int)))))], [(.box 3, [.int .i64 p4.1, .int .i64 p4.2.1, .sl T4414 p4.2.2 .any]), (.buf 3 (.int .i64) p5, []), (.buf 3 (.int .i64) p6, []), (.buf 41 T4414 (p7 ++ [p8]), []), (.box 10, [.int .i64 p8.1, .int .i64 p8.2.1, .int .i64 p8.2.2.1, .int .i64 p8.2.2.2.1, .int .i64 p8.2.2.2.2.1.1, .int .i64 p8.2.2.2.2.1.2, .int .i64 p8.2.2.2.2.2.1, .int .i64 p8.2.2.2.2.2.2.1, .int .i64 p8.2.2.2.2.2.2.2.1, .int .i64 p8.2.2.2.2.2.2.2.2])]⟩) hV 0 [(2, {res := some ⟨f_sess_Take.S.rs, y32⟩})] {live := [0, 4, 5, 6, 7, 8, 9, 13, 76], src := [some 0, some 1, some 2, some 3, some 4]} (by kernel_rfl) (by kernel_rfl) ⟨⟨k, e33⟩, trivial⟩ ?_
  refine th_n ?_
  refine D_condB (t := 76) (b := (y32.1 == (0 : Int))) (by kernel_rfl) (by kernel_rfl) (fun hb34 => ?_) (fun hb34 => ?_)
  · rw [if_pos hb34] at H
    refine D_seq (by kernel_rfl) ?_
    obtain ⟨n35, H⟩ := of_if H
    refine D_reg (cs := [(p6.length + 1) * 8 ≤ 140737488355328]) (τ := ⟨180, [(0, .cv (.one (.sl Tf9b7 p1 .any))), (4, .cv (.one (.ptr 0 0))), (5, .cv (.one (.own 1))), (6, .cv (.one (.own 2))), (7, .cv (.one (.own 3))), (9, .cv (.one (.int .i64 p3))), (13, .cv (.one (.ptr 4 0)))], [(.box 3, [.int .i64 p4.1, .int .i64 p4.2.1, .sl T4414 p4.2.2 .any]), (.buf 3 (.int .i64) p5, []), (.buf 3 (.int .i64) (p6 ++ [p8.2.2.2.1]), []), (.buf 41 T4414 (p7 ++ [p8]), []), (.box 10, [.int .i64 p8.1, .int .i64 p8.2.1, .int .i64 p8.2.2.1, .int .i64 p8.2.2.2.1, .int .i64 p8.2.2.2.2.1.1, .int .i64 p8.2.2.2.2.1.2, .int .i64 p8.2.2.2.2.2.1, .int .i64 p8.2.2.2.2.2.2.1, .int .i64 p8.2.2.2.2.2.2.2.1, .int .i64 p8.2.2.2.2.2.2.2.2])]⟩) hV 1 [(4, {sb := 5})] {live := [0, 4, 5, 6, 7, 9, 13], src := [some 0, some 1, some 5, some 3, some 4]} (by kernel_rfl) (by kernel_rfl) ⟨n35, trivial⟩ ?_
    refine th_n ?_
    refine D_reg (cs := []) (τ := ⟨180, [(0, .cv (.one (.sl Tf9b7 p1 .any))), (4, .cv (.one (.ptr 0 0))), (5, .cv (.one (.own 1))), (6, .cv (.one (.own 2))), (7, .cv (.one (.own 3))), (8, .cv (.one (.int .i64 p8.2.2.1))), (9, .cv (.one (.int .i64 p3)))], [(.box 3, [.int .i64 p4.1, .int .i64 p4.2.1, .sl T4414 p4.2.2 .any]), (.buf 3 (.int .i64) p5, []), (.buf 3 (.int .i64) (p6 ++ [p8.2.2.2.1]), []), (.buf 41 T4414 (p7 ++ [p8]), [])]⟩) hV 0 [] {live := [0, 4, 5, 6, 7, 8, 9], src := [some 0, some 1, some 2, some 3]} (by kernel_rfl) (by kernel_rfl) trivial ?_
    refine bl_n ?_
    refine th_n ?_
    refine W_tell (τ := f_law15_SessOnce.s4 p1 p8.2.2.1 p3 p4 p5 (p6 ++ [p8.2.2.2.1]) (p7 ++ [p8])) {fz := [], gr := 0, ad := [], live := [0, 4, 5, 6, 7, 8, 9], src := [some 0, some 1, some 2, some 3]} (by kernel_rfl) (by kernel_rfl) ?_
    exact f_law15_SessOnce.j4_ok hV L2 m2 hL2 k p1 p8.2.2.1 p3 p4 p5 (p6 ++ [p8.2.2.2.1]) (p7 ++ [p8]) H
  · rw [if_neg (by rw [hb34]; decide)] at H
    refine D_skip (by kernel_rfl) ?_
    refine bl_n ?_
    refine th_n ?_
    refine W_tell (τ := f_law15_SessOnce.s4 p1 p2 p3 p4 p5 p6 (p7 ++ [p8])) {fz := [], gr := 0, ad := [], live := [0, 4, 5, 6, 7, 8, 9], src := [some 0, some 1, some 2, some 3]} (by kernel_rfl) (by kernel_rfl) ?_
    exact f_law15_SessOnce.j4_ok hV L2 m2 hL2 k p1 p2 p3 p4 p5 p6 (p7 ++ [p8]) H
noncomputable def f_law15_SessOnce.j10 (L2 : List Tf9b7.T → Int → Int → Tb104.T → List Int → List Int → List T4414.T → Option f_law15_SessOnce.R) (k : Nat) (p1 : List Tf9b7.T) (p2 : Int) (p3 : Int) (p4 : Tb104.T) (p5 : List Int) (p6 : List Int) (p7 : List T4414.T) : Option f_law15_SessOnce.R :=
  if 0 ≤ p3 then
  if p3 < (p1.length : Int) then
    if 0 ≤ (((att Tf9b7 p1 p3).2).1) then
      if (((att Tf9b7 p1 p3).2).1) < (p7.length : Int) then
        f_law15_SessOnce.j12 L2 k p1 p2 p3 p4 p5 p6 p7 (att T4414 p7 (((att Tf9b7 p1 p3).2).1))
      else none
    else none
  else none
else none
theorem f_law15_SessOnce.j10_ok (hV : EnvOk P f_law15_SessOnce.V) {r : f_law15_SessOnce.R} (L2 : List Tf9b7.T → Int → Int → Tb104.T → List Int → List Int → List T4414.T → Option f_law15_SessOnce.R) (m2 : Nat) (hL2 : ∀ (p1 : List Tf9b7.T) (p2 : Int) (p3 : Int) (p4 : Tb104.T) (p5 : List Int) (p6 : List Int) (p7 : List T4414.T), L2 p1 p2 p3 p4 p5 p6 p7 = some r → WL P 0 (Code.l (Code.l (Code.r (Code.l (Code.r (Code.r (Code.r (Code.r (Code.r (Code.r (Code.r (Code.r f_law15_SessOnce.c0)))))))))))) (blockW 0 (thenW P 0 (Code.r (Code.r (Code.r (Code.r (Code.r (Code.r (Code.r (Code.r (Code.r f_law15_SessOnce.c0))))))))) (f_law15_SessOnce.Q r))) m2 (f_law15_SessOnce.s2 p1 p2 p3 p4 p5 p6 p7)) (k : Nat) (p1 : List Tf9b7.T) (p2 : Int) (p3 : Int) (p4 : Tb104.T) (p5 : List Int) (p6 : List Int) (p7 : List T4414.T) (H : f_law15_SessOnce.j10 L2 k p1 p2 p3 p4 p5 p6 p7 = some r) : W P 0 (Code.r (Code.r (Code.r (Code.r (Code.r (Code.r (Code.r (Code.l (Code.r (Code.l (Code.l (Code.l (Code.r (Code.l (Code.l (Code.r (Code.l (Code.r (Code.r (Code.r (Code.r (Code.r (Code.r (Code.r (Code.r f_law15_SessOnce.c0))))))))))))))))))))))))) (f_law15_SessOnce.s10 p1 p2 p3 p4 p5 p6 p7) (blockW 2 (thenW P 0 (Code.r (Code.l (Code.l (Code.r (Code.l (Code.l (Code.r (Code.l (Code.r (Code.r (Code.r (Code.r (Code.r (Code.r (Code.r (Code.r f_law15_SessOnce.c0)))))))))))))))) (blockW 1 (thenW P 0 (Code.r (Code.r (Code.l (Code.l (Code.r (Code.l (Code.r (Code.r (Code.r (Code.r (Code.r (Code.r (Code.r (Code.r f_law15_SessOnce.c0)))))))))))))) (roundW P 0 (Code.l (Code.l (Code.r (Code.l (Code.r (Code.r (Code.r (Code.r (Code.r (Code.r (Code.r (Code.r f_law15_SessOnce.c0)))))))))))) (blockW 0 (thenW P 0 (Code.r (Code.r (Code.r (Code.r (Code.r (Code.r (Code.r (Code.r (Code.r f_law15_SessOnce.c0))))))))) (f_law15_SessOnce.Q r))) m2))))) := by
  unfold f_law15_SessOnce.j10 at H
  refine D_seq (by kernel_rfl) ?_
  obtain ⟨n27, H⟩ := of_if H
  obtain ⟨n28, H⟩ := of_if H
  obtain ⟨n29, H⟩ := of_if H
  obtain ⟨n30, H⟩ := of_if H
  refine D_reg (cs := [0 ≤ p3, p3 < (p1.length : Int), 0 ≤ (((att Tf9b7 p1 p3).2).1), (((att Tf9b7 p1 p3).2).1) < (p7.length : Int)]) (τ := ⟨180, [(0, .cv (.one (.sl Tf9b7 p1 .any))), (4, .cv (.one (.ptr 0 0))), (5, .cv (.one (.own 1))), (6, .cv (.one (.own 2))), (7, .cv (.one (.own 3))), (8, .cv (.one (.int .i64 p2))), (9, .cv (.one (.int .i64 p3))), (13, .cv (.one (.ptr 4 0)))], [(.box 3, [.int .i64 p4.1, .int .i64 p4.2.1, .sl T4414 p4.2.2 .any]), (.buf 3 (.int .i64) p5, []), (.buf 3 (.int .i64) p6, []), (.buf 41 T4414 p7, []), (.box 10, [.int .i64 ((att T4414 p7 (((att Tf9b7 p1 p3).2).1)).1), .int .i64 (((att T4414 p7 (((att Tf9b7 p1 p3).2).1)).2).1), .int .i64 ((((att T4414 p7 (((att Tf9b7 p1 p3).2).1)).2).2).1), .int .i64 (((((att T4414 p7 (((att Tf9b7 p1 p3).2).1)).2).2).2).1), .int .i64 (((((((att T4414 p7 (((att Tf9b7 p1 p3).2).1)).2).2).2).2).1).1), .int .i64 (((((((att T4414 p7 (((att Tf9b7 p1 p3).2).1)).2).2).2).2).1).2), .int .i64 (((((((att T4414 p7 (((att Tf9b7 p1 p3).2).1)).2).2).2).2).2).1), .int .i64 ((((((((att T4414 p7 (((att Tf9b7 p1 p3).2).1)).2).2).2).2).2).2).1), .int .i64 (((((((((att T4414 p7 (((att Tf9b7 p1 p3).2).1)).2).2).2).2).2).2).2).1), .int .i64 (((((((((att T4414 p7 (((att Tf9b7 p1 p3).2).1)).2).2).2).2).2).2).2).2)])]⟩) hV 1 [(8, {sb := 4})] {live := [0, 4, 5, 6, 7, 8, 9, 13], src := [some 0, some 1, some 2, some 3, some 4]} (by kernel_rfl) (by kernel_rfl) ⟨n27, n28, n29, n30, trivial⟩ ?_
  refine th_n ?_
  refine W_tell (τ := f_law15_SessOnce.s12 p1 p2 p3 p4 p5 p6 p7 (att T4414 p7 (((att Tf9b7 p1 p3).2).1))) {fz := [], gr := 0, ad := [], live := [0, 4, 5, 6, 7, 8, 9, 13], src := [some 0, some 1, some 2, some 3, some 4]} (by kernel_rfl) (by kernel_rfl) ?_
  exact f_law15_SessOnce.j12_ok hV L2 m2 hL2 k p1 p2 p3 p4 p5 p6 p7 (att T4414 p7 (((att Tf9b7 p1 p3).2).1)) H
noncomputable def f_law15_SessOnce.j9 (L2 : List Tf9b7.T → Int → Int → Tb104.T → List Int → List Int → List T4414.T → Option f_law15_SessOnce.R) (k : Nat) (p1 : List Tf9b7.T) (p2 : Int) (p3 : Int) (p4 : Bool) (p5 : Tb104.T) (p6 : List Int) (p7 : List Int) (p8 : List T4414.T) : Option f_law15_SessOnce.R :=
  if p4 = true then
  f_law15_SessOnce.j5 L2 k p1 p2 p3 p5 p6 p7 p8
else
  f_law15_SessOnce.j10 L2 k p1 p2 p3 p5 p6 p7 p8
theorem f_law15_SessOnce.j9_ok (hV : EnvOk P f_law15_SessOnce.V) {r : f_law15_SessOnce.R} (L2 : List Tf9b7.T → Int → Int → Tb104.T → List Int → List Int → List T4414.T → Option f_law15_SessOnce.R) (m2 : Nat) (hL2 : ∀ (p1 : List Tf9b7.T) (p2 : Int) (p3 : Int) (p4 : Tb104.T) (p5 : List Int) (p6 : List Int) (p7 : List T4414.T), L2 p1 p2 p3 p4 p5 p6 p7 = some r → WL P 0 (Code.l (Code.l (Code.r (Code.l (Code.r (Code.r (Code.r (Code.r (Code.r (Code.r (Code.r (Code.r f_law15_SessOnce.c0)))))))))))) (blockW 0 (thenW P 0 (Code.r (Code.r (Code.r (Code.r (Code.r (Code.r (Code.r (Code.r (Code.r f_law15_SessOnce.c0))))))))) (f_law15_SessOnce.Q r))) m2 (f_law15_SessOnce.s2 p1 p2 p3 p4 p5 p6 p7)) (k : Nat) (p1 : List Tf9b7.T) (p2 : Int) (p3 : Int) (p4 : Bool) (p5 : Tb104.T) (p6 : List Int) (p7 : List Int) (p8 : List T4414.T) (H : f_law15_SessOnce.j9 L2 k p1 p2 p3 p4 p5 p6 p7 p8 = some r) : W P 0 (Code.r (Code.l (Code.r (Code.r (Code.r (Code.r (Code.r (Code.r (Code.l (Code.r (Code.l (Code.l (Code.l (Code.r (Code.l (Code.l (Code.r (Code.l (Code.r (Code.r (Code.r (Code.r (Code.r (Code.r (Code.r (Code.r f_law15_SessOnce.c0)))))))))))))))))))))))))) (f_law15_SessOnce.s9 p1 p2 p3 p4 p5 p6 p7 p8) (thenW P 0 (Code.r (Code.r (Code.r (Code.r (Code.r (Code.r (Code.r (Code.l (Code.r (Code.l (Code.l (Code.l (Code.r (Code.l (Code.l (Code.r (Code.l (Code.r (Code.r (Code.r (Code.r (Code.r (Code.r (Code.r (Code.r f_law15_SessOnce.c0))))))))))))))))))))))))) (blockW 2 (thenW P 0 (Code.r (Code.l (Code.l (Code.r (Code.l (Code.l (Code.r (Code.l (Code.r (Code.r (Code.r (Code.r (Code.r (Code.r (Code.r (Code.r f_law15_SessOnce.c0)))))))))))))))) (blockW 1 (thenW P 0 (Code.r (Code.r (Code.l (Code.l (Code.r (Code.l (Code.r (Code.r (Code.r (Code.r (Code.r (Code.r (Code.r (Code.r f_law15_SessOnce.c0)))))))))))))) (roundW P 0 (Code.l (Code.l (Code.r (Code.l (Code.r (Code.r (Code.r (Code.r (Code.r (Code.r (Code.r (Code.r f_law15_SessOnce.c0)))))))))))) (blockW 0 (thenW P 0 (Code.r (Code.r (Code.r (Code.r (Code.r (Code.r (Code.r (Code.r (Code.r f_law15_SessOnce.c0))))))))) (f_law15_SessOnce.Q r))) m2)))))) := by
  unfold f_law15_SessOnce.j9 at H
  refine D_condB (t := 60) (b := p4) (by kernel_rfl) (by kernel_rfl) (fun hb26 => ?_) (fun hb26 => ?_)
  · rw [if_pos hb26] at H
    refine D_exit (id := 1) (by kernel_rfl) ?_
    refine th_x ?_
    refine bl_x rfl ?_
    refine th_x ?_
    refine bl_h ?_
    refine th_n ?_
    refine W_tell (τ := f_law15_SessOnce.s5 p1 p2 p3 p5 p6 p7 p8) {fz := [], gr := 0, ad := [], live := [0, 4, 5, 6, 7, 8, 9], src := [some 0, some 1, some 2, some 3]} (by kernel_rfl) (by kernel_rfl) ?_
    exact f_law15_SessOnce.j5_ok hV L2 m2 hL2 k p1 p2 p3 p5 p6 p7 p8 H
  · rw [if_neg (by rw [hb26]; decide)] at H
    refine D_skip (by kernel_rfl) ?_
    refine th_n ?_
    refine W_tell (τ := f_law15_SessOnce.s10 p1 p2 p3 p5 p6 p7 p8) {fz := [], gr := 0, ad := [], live := [0, 4, 5, 6, 7, 8, 9, 12], src := [some 0, some 1, some 2, some 3]} (by kernel_rfl) (by kernel_rfl) ?_
    exact f_law15_SessOnce.j10_ok hV L2 m2 hL2 k p1 p2 p3 p5 p6 p7 p8 H
noncomputable def f_law15_SessOnce.j8 (L2 : List Tf9b7.T → Int → Int → Tb104.T → List Int → List Int → List T4414.T → Option f_law15_SessOnce.R) (k : Nat) (p1 : List Tf9b7.T) (p2 : Int) (p3 : Int) (p4 : Tb104.T) (p5 : List Int) (p6 : List Int) (p7 : List T4414.T) : Option f_law15_SessOnce.R :=
  if 0 ≤ p3 then
  if p3 < (p1.length : Int) then
    if (decide ((((att Tf9b7 p1 p3).2).1) < (0 : Int))) = true then
      f_law15_SessOnce.j9 L2 k p1 p2 p3 true p4 p5 p6 p7
    else
      f_law15_SessOnce.j9 L2 k p1 p2 p3 (decide ((((att Tf9b7 p1 p3).2).1) ≥ (p7.length : Int))) p4 p5 p6 p7
  else none
else none
theorem f_law15_SessOnce.j8_ok (hV : EnvOk P f_law15_SessOnce.V) {r : f_law15_SessOnce.R} (L2 : List Tf9b7.T → Int → Int → Tb104.T → List Int → List Int → List T4414.T → Option f_law15_SessOnce.R) (m2 : Nat) (hL2 : ∀ (p1 : List Tf9b7.T) (p2 : Int) (p3 : Int) (p4 : Tb104.T) (p5 : List Int) (p6 : List Int) (p7 : List T4414.T), L2 p1 p2 p3 p4 p5 p6 p7 = some r → WL P 0 (Code.l (Code.l (Code.r (Code.l (Code.r (Code.r (Code.r (Code.r (Code.r (Code.r (Code.r (Code.r f_law15_SessOnce.c0)))))))))))) (blockW 0 (thenW P 0 (Code.r (Code.r (Code.r (Code.r (Code.r (Code.r (Code.r (Code.r (Code.r f_law15_SessOnce.c0))))))))) (f_law15_SessOnce.Q r))) m2 (f_law15_SessOnce.s2 p1 p2 p3 p4 p5 p6 p7)) (k : Nat) (p1 : List Tf9b7.T) (p2 : Int) (p3 : Int) (p4 : Tb104.T) (p5 : List Int) (p6 : List Int) (p7 : List T4414.T) (H : f_law15_SessOnce.j8 L2 k p1 p2 p3 p4 p5 p6 p7 = some r) : W P 0 (Code.r (Code.r (Code.r (Code.r (Code.r (Code.r (Code.l (Code.r (Code.l (Code.l (Code.l (Code.r (Code.l (Code.l (Code.r (Code.l (Code.r (Code.r (Code.r (Code.r (Code.r (Code.r (Code.r (Code.r f_law15_SessOnce.c0)))))))))))))))))))))))) (f_law15_SessOnce.s8 p1 p2 p3 p4 p5 p6 p7) (blockW 2 (thenW P 0 (Code.r (Code.l (Code.l (Code.r (Code.l (Code.l (Code.r (Code.l (Code.r (Code.r (Code.r (Code.r (Code.r (Code.r (Code.r (Code.r f_law15_SessOnce.c0)))))))))))))))) (blockW 1 (thenW P 0 (Code.r (Code.r (Code.l (Code.l (Code.r (Code.l (Code.r (Code.r (Code.r (Code.r (Code.r (Code.r (Code.r (Code.r f_law15_SessOnce.c0)))))))))))))) (roundW P 0 (Code.l (Code.l (Code.r (Code.l (Code.r (Code.r (Code.r (Code.r (Code.r (Code.r (Code.r (Code.r f_law15_SessOnce.c0)))))))))))) (blockW 0 (thenW P 0 (Code.r (Code.r (Code.r (Code.r (Code.r (Code.r (Code.r (Code.r (Code.r f_law15_SessOnce.c0))))))))) (f_law15_SessOnce.Q r))) m2))))) := by
  unfold f_law15_SessOnce.j8 at H
  refine D_seq (by kernel_rfl) ?_
  refine D_seq (by kernel_rfl) ?_
  obtain ⟨n23, H⟩ := of_if H
  obtain ⟨n24, H⟩ := of_if H
  rcases of_ite H with ⟨hb25, H⟩ | ⟨hb25, H⟩
  · refine D_reg (cs := [0 ≤ p3, p3 < (p1.length : Int), ((decide ((((att Tf9b7 p1 p3).2).1) < (0 : Int)))) = true]) (τ := ⟨180, [(0, .cv (.one (.sl Tf9b7 p1 .any))), (4, .cv (.one (.ptr 0 0))), (5, .cv (.one (.own 1))), (6, .cv (.one (.own 2))), (7, .cv (.one (.own 3))), (8, .cv (.one (.int .i64 p2))), (9, .cv (.one (.int .i64 p3))), (12, .cv (.one (.own 3))), (60, .cv (.one (.bool true)))], [(.box 3, [.int .i64 p4.1, .int .i64 p4.2.1, .sl T4414 p4.2.2 .any]), (.buf 3 (.int .i64) p5, []), (.buf 3 (.int .i64) p6, []), (.buf 41 T4414 p7, [])]⟩) hV 0 [(5, {bv := some true})] {live := [0, 4, 5, 6, 7, 8, 9, 12, 60], src := [some 0, some 1, some 2, some 3]} (by kernel_rfl) (by kernel_rfl) ⟨n23, n24, hb25, trivial⟩ ?_
    refine th_n ?_
    refine W_tell (τ := f_law15_SessOnce.s9 p1 p2 p3 true p4 p5 p6 p7) {fz := [], gr := 0, ad := [], live := [0, 4, 5, 6, 7, 8, 9, 12, 60], src := [some 0, some 1, some 2, some 3]} (by kernel_rfl) (by kernel_rfl) ?_
    exact f_law15_SessOnce.j9_ok hV L2 m2 hL2 k p1 p2 p3 true p4 p5 p6 p7 H
  · refine D_reg (cs := [0 ≤ p3, p3 < (p1.length : Int), ((decide ((((att Tf9b7 p1 p3).2).1) < (0 : Int)))) = false, 0 ≤ p3, p3 < (p1.length : Int)]) (τ := ⟨180, [(0, .cv (.one (.sl Tf9b7 p1 .any))), (4, .cv (.one (.ptr 0 0))), (5, .cv (.one (.own 1))), (6, .cv (.one (.own 2))), (7, .cv (.one (.own 3))), (8, .cv (.one (.int .i64 p2))), (9, .cv (.one (.int .i64 p3))), (12, .cv (.one (.own 3))), (60, .cv (.one (.bool (decide ((((att Tf9b7 p1 p3).2).1) ≥ (p7.length : Int))))))], [(.box 3, [.int .i64 p4.1, .int .i64 p4.2.1, .sl T4414 p4.2.2 .any]), (.buf 3 (.int .i64) p5, []), (.buf 3 (.int .i64) p6, []), (.buf 41 T4414 p7, [])]⟩) hV 0 [(5, {bv := some false})] {live := [0, 4, 5, 6, 7, 8, 9, 12, 60], src := [some 0, some 1, some 2, some 3]} (by kernel_rfl) (by kernel_rfl) ⟨n23, n24, hb25, n23, n24, trivial⟩ ?_
    refine th_n ?_
    refine W_tell (τ := f_law15_SessOnce.s9 p1 p2 p3 (decide ((((att Tf9b7 p1 p3).2).1) ≥ (p7.length : Int))) p4 p5 p6 p7) {fz := [], gr := 0, ad := [], live := [0, 4, 5, 6, 7, 8, 9, 12, 60], src := [some 0, some 1, some 2, some 3]} (by kernel_rfl) (by kernel_rfl) ?_
    exact f_law15_SessOnce.j9_ok hV L2 m2 hL2 k p1 p2 p3 (decide ((((att Tf9b7 p1 p3).2).1) ≥ (p7.length : Int))) p4 p5 p6 p7 H
noncomputable def f_law15_SessOnce.s7 (p1 : List Tf9b7.T) (p2 : Int) (p3 : Int) (p4 : List T4414.T) (p5 : Tb104.T) (p6 : List Int) (p7 : List Int) (p8 : List T4414.T) : St := ⟨180, [(0, .cv (.one (.sl Tf9b7 p1 .any))), (4, .cv (.one (.ptr 0 0))), (5, .cv (.one (.own 1))), (6, .cv (.one (.own 2))), (7, .cv (.one (.own 3))), (8, .cv (.one (.int .i64 p2))), (9, .cv (.one (.int .i64 p3))), (12, .cv (.one (.sl T4414 p4 .any)))], [(.box 3, [.int .i64 p5.1, .int .i64 p5.2.1, .sl T4414 p5.2.2 .any]), (.buf 3 (.int .i64) p6, []), (.buf 3 (.int .i64) p7, []), (.buf 41 T4414 p8, [])]⟩
noncomputable def f_law15_SessOnce.s6 (p1 : List Tf9b7.T) (p2 : Int) (p3 : Int) (p4 : List T4414.T) (p5 : Bool) (p6 : Tb104.T) (p7 : List Int) (p8 : List Int) (p9 : List T4414.T) : St := ⟨180, [(0, .cv (.one (.sl Tf9b7 p1 .any))), (4, .cv (.one (.ptr 0 0))), (5, .cv (.one (.own 1))), (6, .cv (.one (.own 2))), (7, .cv (.one (.own 3))), (8, .cv (.one (.int .i64 p2))), (9, .cv (.one (.int .i64 p3))), (12, .cv (.one (.sl T4414 p4 .any))), (60, .cv (.one (.bool p5)))], [(.box 3, [.int .i64 p6.1, .int .i64 p6.2.1, .sl T4414 p6.2.2 .any]), (.buf 3 (.int .i64) p7, []), (.buf 3 (.int .i64) p8, []), (.buf 41 T4414 p9, [])]⟩
noncomputable def f_law15_SessOnce.s11 (p1 : List Tf9b7.T) (p2 : Int) (p3 : Int) (p4 : List T4414.T) (p5 : Tb104.T) (p6 : List Int) (p7 : List Int) (p8 : List T4414.T) : St := ⟨180, [(0, .cv (.one (.sl Tf9b7 p1 .any))), (4, .cv (.one (.ptr 0 0))), (5, .cv (.one (.own 1))), (6, .cv (.one (.own 2))), (7, .cv (.one (.own 3))), (8, .cv (.one (.int .i64 p2))), (9, .cv (.one (.int .i64 p3))), (12, .cv (.one (.sl T4414 p4 .any)))], [(.box 3, [.int .i64 p5.1, .int .i64 p5.2.1, .sl T4414 p5.2.2 .any]), (.buf 3 (.int .i64) p6, []), (.buf 3 (.int .i64) p7, []), (.buf 41 T4414 p8, [])]⟩
noncomputable def f_law15_SessOnce.j11 (L2 : List Tf9b7.T → Int → Int → Tb104.T → List Int → List Int → List T4414.T → Option f_law15_SessOnce.R) (k : Nat) (p1 : List Tf9b7.T) (p2 : Int) (p3 : Int) (p4 : List T4414.T) (p5 : Tb104.T) (p6 : List Int) (p7 : List Int) (p8 : List T4414.T) : Option f_law15_SessOnce.R :=
  if 0 ≤ p3 then
  if p3 < (p1.length : Int) then
    if 0 ≤ (((att Tf9b7 p1 p3).2).1) then
      if (((att Tf9b7 p1 p3).2).1) < (p4.length : Int) then
        f_law15_SessOnce.j12 L2 k p1 p2 p3 p5 p6 p7 p8 (att T4414 p4 (((att Tf9b7 p1 p3).2).1))
      else none
    else none
  else none
else none
theorem f_law15_SessOnce.j11_ok (hV : EnvOk P f_law15_SessOnce.V) {r : f_law15_SessOnce.R} (L2 : List Tf9b7.T → Int → Int → Tb104.T → List Int → List Int → List T4414.T → Option f_law15_SessOnce.R) (m2 : Nat) (hL2 : ∀ (p1 : List Tf9b7.T) (p2 : Int) (p3 : Int) (p4 : Tb104.T) (p5 : List Int) (p6 : List Int) (p7 : List T4414.T), L2 p1 p2 p3 p4 p5 p6 p7 = some r → WL P 0 (Code.l (Code.l (Code.r (Code.l (Code.r (Code.r (Code.r (Code.r (Code.r (Code.r (Code.r (Code.r f_law15_SessOnce.c0)))))))))))) (blockW 0 (thenW P 0 (Code.r (Code.r (Code.r (Code.r (Code.r (Code.r (Code.r (Code.r (Code.r f_law15_SessOnce.c0))))))))) (f_law15_SessOnce.Q r))) m2 (f_law15_SessOnce.s2 p1 p2 p3 p4 p5 p6 p7)) (k : Nat) (p1 : List Tf9b7.T) (p2 : Int) (p3 : Int) (p4 : List T4414.T) (p5 : Tb104.T) (p6 : List Int) (p7 : List Int) (p8 : List T4414.T) (H : f_law15_SessOnce.j11 L2 k p1 p2 p3 p4 p5 p6 p7 p8 = some r) : W P 0 (Code.r (Code.r (Code.r (Code.r (Code.r (Code.r (Code.r (Code.l (Code.r (Code.l (Code.l (Code.l (Code.r (Code.l (Code.l (Code.r (Code.l (Code.r (Code.r (Code.r (Code.r (Code.r (Code.r (Code.r (Code.r f_law15_SessOnce.c0))))))))))))))))))))))))) (f_law15_SessOnce.s11 p1 p2 p3 p4 p5 p6 p7 p8) (blockW 2 (thenW P 0 (Code.r (Code.l (Code.l (Code.r (Code.l (Code.l (Code.r (Code.l (Code.r (Code.r (Code.r (Code.r (Code.r (Code.r (Code.r (Code.r f_law15_SessOnce.c0)))))))))))))))) (blockW 1 (thenW P 0 (Code.r (Code.r (Code.l (Code.l (Code.r (Code.l (Code.r (Code.r (Code.r (Code.r (Code.r (Code.r (Code.r (Code.r f_law15_SessOnce.c0)))))))))))))) (roundW P 0 (Code.l (Code.l (Code.r (Code.l (Code.r (Code.r (Code.r (Code.r (Code.r (Code.r (Code.r (Code.r f_law15_SessOnce.c0)))))))))))) (blockW 0 (thenW P 0 (Code.r (Code.r (Code.r (Code.r (Code.r (Code.r (Code.r (Code.r (Code.r f_law15_SessOnce.c0))))))))) (f_law15_SessOnce.Q r))) m2))))) := by
  unfold f_law15_SessOnce.j11 at H
  refine D_seq (by kernel_rfl) ?_
  obtain ⟨n40, H⟩ := of_if H
  obtain ⟨n41, H⟩ := of_if H
  obtain ⟨n42, H⟩ := of_if H
  obtain ⟨n43, H⟩ := of_if H
  refine D_reg (cs := [0 ≤ p3, p3 < (p1.length : Int), 0 ≤ (((att Tf9b7 p1 p3).2).1), (((att Tf9b7 p1 p3).2).1) < (p4.length : Int)]) (τ := ⟨180, [(0, .cv (.one (.sl Tf9b7 p1 .any))), (4, .cv (.one (.ptr 0 0))), (5, .cv (.one (.own 1))), (6, .cv (.one (.own 2))), (7, .cv (.one (.own 3))), (8, .cv (.one (.int .i64 p2))), (9, .cv (.one (.int .i64 p3))), (13, .cv (.one (.ptr 4 0)))], [(.box 3, [.int .i64 p5.1, .int .i64 p5.2.1, .sl T4414 p5.2.2 .any]), (.buf 3 (.int .i64) p6, []), (.buf 3 (.int .i64) p7, []), (.buf 41 T4414 p8, []), (.box 10, [.int .i64 ((att T4414 p4 (((att Tf9b7 p1 p3).2).1)).1), .int .i64 (((att T4414 p4 (((att Tf9b7 p1 p3).2).1)).2).1), .int .i64 ((((att T4414 p4 (((att Tf9b7 p1 p3).2).1)).2).2).1), .int .i64 (((((att T4414 p4 (((att Tf9b7 p1 p3).2).1)).2).2).2).1), .int .i64 (((((((att T4414 p4 (((att Tf9b7 p1 p3).2).1)).2).2).2).2).1).1), .int .i64 (((((((att T4414 p4 (((att Tf9b7 p1 p3).2).1)).2).2).2).2).1).2), .int .i64 (((((((att T4414 p4 (((att Tf9b7 p1 p3).2).1)).2).2).2).2).2).1), .int .i64 ((((((((att T4414 p4 (((att Tf9b7 p1 p3).2).1)).2).2).2).2).2).2).1), .int .i64 (((((((((att T4414 p4 (((att Tf9b7 p1 p3).2).1)).2).2).2).2).2).2).2).1), .int .i64 (((((((((att T4414 p4 (((att Tf9b7 p1 p3).2).1)).2).2).2).2).2).2).2).2)])]⟩) hV 1 [(8, {sb := 4})] {live := [0, 4, 5, 6, 7, 8, 9, 13], src := [some 0, some 1, some 2, some 3, some 4]} (by kernel_rfl) (by kernel_rfl) ⟨n40, n41, n42, n43, trivial⟩ ?_
  refine th_n ?_
  refine W_tell (τ := f_law15_SessOnce.s12 p1 p2 p3 p5 p6 p7 p8 (att T4414 p4 (((att Tf9b7 p1 p3).2).1))) {fz := [], gr := 0, ad := [], live := [0, 4, 5, 6, 7, 8, 9, 13], src := [some 0, some 1, some 2, some 3, some 4]} (by kernel_rfl) (by kernel_rfl) ?_
  exact f_law15_SessOnce.j12_ok hV L2 m2 hL2 k p1 p2 p3 p5 p6 p7 p8 (att T4414 p4 (((att Tf9b7 p1 p3).2).1)) H
noncomputable def f_law15_SessOnce.j6 (L2 : List Tf9b7.T → Int → Int → Tb104.T → List Int → List Int → List T4414.T → Option f_law15_SessOnce.R) (k : Nat) (p1 : List Tf9b7.T) (p2 : Int) (p3 : Int) (p4 : List T4414.T) (p5 : Bool) (p6 : Tb104.T) (p7 : List Int) (p8 : List Int) (p9 : List T4414.T) : Option f_law15_SessOnce.R :=
  if p5 = true then
  f_law15_SessOnce.j5 L2 k p1 p2 p3 p6 p7 p8 p9
else
  f_law15_SessOnce.j11 L2 k p1 p2 p3 p4 p6 p7 p8 p9
theorem f_law15_SessOnce.j6_ok (hV : EnvOk P f_law15_SessOnce.V) {r : f_law15_SessOnce.R} (L2 : List Tf9b7.T → Int → Int → Tb104.T → List Int → List Int → List T4414.T → Option f_law15_SessOnce.R) (m2 : Nat) (hL2 : ∀ (p1 : List Tf9b7.T) (p2 : Int) (p3 : Int) (p4 : Tb104.T) (p5 : List Int) (p6 : List Int) (p7 : List T4414.T), L2 p1 p2 p3 p4 p5 p6 p7 = some r → WL P 0 (Code.l (Code.l (Code.r (Code.l (Code.r (Code.r (Code.r (Code.r (Code.r (Code.r (Code.r (Code.r f_law15_SessOnce.c0)))))))))))) (blockW 0 (thenW P 0 (Code.r (Code.r (Code.r (Code.r (Code.r (Code.r (Code.r (Code.r (Code.r f_law15_SessOnce.c0))))))))) (f_law15_SessOnce.Q r))) m2 (f_law15_SessOnce.s2 p1 p2 p3 p4 p5 p6 p7)) (k : Nat) (p1 : List Tf9b7.T) (p2 : Int) (p3 : Int) (p4 : List T4414.T) (p5 : Bool) (p6 : Tb104.T) (p7 : List Int) (p8 : List Int) (p9 : List T4414.T) (H : f_law15_SessOnce.j6 L2 k p1 p2 p3 p4 p5 p6 p7 p8 p9 = some r) : W P 0 (Code.r (Code.l (Code.r (Code.r (Code.r (Code.r (Code.r (Code.r (Code.l (Code.r (Code.l (Code.l (Code.l (Code.r (Code.l (Code.l (Code.r (Code.l (Code.r (Code.r (Code.r (Code.r (Code.r (Code.r (Code.r (Code.r f_law15_SessOnce.c0)))))))))))))))))))))))))) (f_law15_SessOnce.s6 p1 p2 p3 p4 p5 p6 p7 p8 p9) (thenW P 0 (Code.r (Code.r (Code.r (Code.r (Code.r (Code.r (Code.r (Code.l (Code.r (Code.l (Code.l (Code.l (Code.r (Code.l (Code.l (Code.r (Code.l (Code.r (Code.r (Code.r (Code.r (Code.r (Code.r (Code.r (Code.r f_law15_SessOnce.c0))))))))))))))))))))))))) (blockW 2 (thenW P 0 (Code.r (Code.l (Code.l (Code.r (Code.l (Code.l (Code.r (Code.l (Code.r (Code.r (Code.r (Code.r (Code.r (Code.r (Code.r (Code.r f_law15_SessOnce.c0)))))))))))))))) (blockW 1 (thenW P 0 (Code.r (Code.r (Code.l (Code.l (Code.r (Code.l (Code.r (Code.r (Code.r (Code.r (Code.r (Code.r (Code.r (Code.r f_law15_SessOnce.c0)))))))))))))) (roundW P 0 (Code.l (Code.l (Code.r (Code.l (Code.r (Code.r (Code.r (Code.r (Code.r (Code.r (Code.r (Code.r f_law15_SessOnce.c0)))))))))))) (blockW 0 (thenW P 0 (Code.r (Code.r (Code.r (Code.r (Code.r (Code.r (Code.r (Code.r (Code.r f_law15_SessOnce.c0))))))))) (f_law15_SessOnce.Q r))) m2)))))) := by
  unfold f_law15_SessOnce.j6 at H
  refine D_condB (t := 60) (b := p5) (by kernel_rfl) (by kernel_rfl) (fun hb39 => ?_) (fun hb39 => ?_)
  · rw [if_pos hb39] at H
    refine D_exit (id := 1) (by kernel_rfl) ?_
    refine th_x ?_
    refine bl_x rfl ?_
    refine th_x ?_
    refine bl_h ?_
    refine th_n ?_
    refine W_tell (τ := f_law15_SessOnce.s5 p1 p2 p3 p6 p7 p8 p9) {fz := [], gr := 0, ad := [], live := [0, 4, 5, 6, 7, 8, 9], src := [some 0, some 1, some 2, some 3]} (by kernel_rfl) (by kernel_rfl) ?_
    exact f_law15_SessOnce.j5_ok hV L2 m2 hL2 k p1 p2 p3 p6 p7 p8 p9 H
  · rw [if_neg (by rw [hb39]; decide)] at H
    refine D_skip (by kernel_rfl) ?_
    refine th_n ?_
    refine W_tell (τ := f_law15_SessOnce.s11 p1 p2 p3 p4 p6 p7 p8 p9) {fz := [], gr := 0, ad := [], live := [0, 4, 5, 6, 7, 8, 9, 12], src := [some 0, some 1, some 2, some 3]} (by kernel_rfl) (by kernel_rfl) ?_
    exact f_law15_SessOnce.j11_ok hV L2 m2 hL2 k p1 p2 p3 p4 p6 p7 p8 p9 H
noncomputable def f_law15_SessOnce.j7 (L2 : List Tf9b7.T → Int → Int → Tb104.T → List Int → List Int → List T4414.T → Option f_law15_SessOnce.R) (k : Nat) (p1 : List Tf9b7.T) (p2 : Int) (p3 : Int) (p4 : List T4414.T) (p5 : Tb104.T) (p6 : List Int) (p7 : List Int) (p8 : List T4414.T) : Option f_law15_SessOnce.R :=
  if 0 ≤ p3 then
  if p3 < (p1.length : Int) then
    if (decide ((((att Tf9b7 p1 p3).2).1) < (0 : Int))) = true then
      f_law15_SessOnce.j6 L2 k p1 p2 p3 p4 true p5 p6 p7 p8
    else
      f_law15_SessOnce.j6 L2 k p1 p2 p3 p4 (decide ((((att Tf9b7 p1 p3).2).1) ≥ (p4.length : Int))) p5 p6 p7 p8
  else none
else none
theorem f_law15_SessOnce.j7_ok (hV : EnvOk P f_law15_SessOnce.V) {r : f_law15_SessOnce.R} (L2 : List Tf9b7.T → Int → Int → Tb104.T → List Int → List Int → List T4414.T → Option f_law15_SessOnce.R) (m2 : Nat) (hL2 : ∀ (p1 : List Tf9b7.T) (p2 : Int) (p3 : Int) (p4 : Tb104.T) (p5 : List Int) (p6 : List Int) (p7 : List T4414.T), L2 p1 p2 p3 p4 p5 p6 p7 = some r → WL P 0 (Code.l (Code.l (Code.r (Code.l (Code.r (Code.r (Code.r (Code.r (Code.r (Code.r (Code.r (Code.r f_law15_SessOnce.c0)))))))))))) (blockW 0 (thenW P 0 (Code.r (Code.r (Code.r (Code.r (Code.r (Code.r (Code.r (Code.r (Code.r f_law15_SessOnce.c0))))))))) (f_law15_SessOnce.Q r))) m2 (f_law15_SessOnce.s2 p1 p2 p3 p4 p5 p6 p7)) (k : Nat) (p1 : List Tf9b7.T) (p2 : Int) (p3 : Int) (p4 : List T4414.T) (p5 : Tb104.T) (p6 : List Int) (p7 : List Int) (p8 : List T4414.T) (H : f_law15_SessOnce.j7 L2 k p1 p2 p3 p4 p5 p6 p7 p8 = some r) : W P 0 (Code.r (Code.r (Code.r (Code.r (Code.r (Code.r (Code.l (Code.r (Code.l (Code.l (Code.l (Code.r (Code.l (Code.l (Code.r (Code.l (Code.r (Code.r (Code.r (Code.r (Code.r (Code.r (Code.r (Code.r f_law15_SessOnce.c0)))))))))))))))))))))))) (f_law15_SessOnce.s7 p1 p2 p3 p4 p5 p6 p7 p8) (blockW 2 (thenW P 0 (Code.r (Code.l (Code.l (Code.r (Code.l (Code.l (Code.r (Code.l (Code.r (Code.r (Code.r (Code.r (Code.r (Code.r (Code.r (Code.r f_law15_SessOnce.c0)))))))))))))))) (blockW 1 (thenW P 0 (Code.r (Code.r (Code.l (Code.l (Code.r (Code.l (Code.r (Code.r (Code.r (Code.r (Code.r (Code.r (Code.r (Code.r f_law15_SessOnce.c0)))))))))))))) (roundW P 0 (Code.l (Code.l (Code.r (Code.l (Code.r (Code.r (Code.r (Code.r (Code.r (Code.r (Code.r (Code.r f_law15_SessOnce.c0)))))))))))) (blockW 0 (thenW P 0 (Code.r (Code.r (Code.r (Code.r (Code.r (Code.r (Code.r (Code.r (Code.r f_law15_SessOnce.c0))))))))) (f_law15_SessOnce.Q r))) m2))))) := by
  unfold f_law15_SessOnce.j7 at H
  refine D_seq (by kernel_rfl) ?_
  refine D_seq (by kernel_rfl) ?_
  obtain ⟨n36, H⟩ := of_if H
  obtain ⟨n37, H⟩ := of_if H
  rcases of_ite H with ⟨hb38, H⟩ | ⟨hb38, H⟩
  · refine D_reg (cs := [0 ≤ p3, p3 < (p1.length : Int), ((decide ((((att Tf9b7 p1 p3).2).1) < (0 : Int)))) = true]) (τ := ⟨180, [(0, .cv (.one (.sl Tf9b7 p1 .any))), (4, .cv (.one (.ptr 0 0))), (5, .cv (.one (.own 1))), (6, .cv (.one (.own 2))), (7, .cv (.one (.own 3))), (8, .cv (.one (.int .i64 p2))), (9, .cv (.one (.int .i64 p3))), (12, .cv (.one (.sl T4414 p4 .any))), (60, .cv (.one (.bool true)))], [(.box 3, [.int .i64 p5.1, .int .i64 p5.2.1, .sl T4414 p5.2.2 .any]), (.buf 3 (.int .i64) p6, []), (.buf 3 (.int .i64) p7, []), (.buf 41 T4414 p8, [])]⟩) hV 0 [(5, {bv := some true})] {live := [0, 4, 5, 6, 7, 8, 9, 12, 60], src := [some 0, some 1, some 2, some 3]} (by kernel_rfl) (by kernel_rfl) ⟨n36, n37, hb38, trivial⟩ ?_
    refine th_n ?_
    refine W_tell (τ := f_law15_SessOnce.s6 p1 p2 p3 p4 true p5 p6 p7 p8) {fz := [], gr := 0, ad := [], live := [0, 4, 5, 6, 7, 8, 9, 12, 60], src := [some 0, some 1, some 2, some 3]} (by kernel_rfl) (by kernel_rfl) ?_
    exact f_law15_SessOnce.j6_ok hV L2 m2 hL2 k p1 p2 p3 p4 true p5 p6 p7 p8 H
  · refine D_reg (cs := [0 ≤ p3, p3 < (p1.length : Int), ((decide ((((att Tf9b7 p1 p3).2).1) < (0 : Int)))) = false, 0 ≤ p3, p3 < (p1.length : Int)]) (τ := ⟨180, [(0, .cv (.one (.sl Tf9b7 p1 .any))), (4, .cv (.one (.ptr 0 0))), (5, .cv (.one (.own 1))), (6, .cv (.one (.own 2))), (7, .cv (.one (.own 3))), (8, .cv (.one (.int .i64 p2))), (9, .cv (.one (.int .i64 p3))), (12, .cv (.one (.sl T4414 p4 .any))), (60, .cv (.one (.bool (decide ((((att Tf9b7 p1 p3).2).1) ≥ (p4.length : Int))))))], [(.box 3, [.int .i64 p5.1, .int .i64 p5.2.1, .sl T4414 p5.2.2 .any]), (.buf 3 (.int .i64) p6, []), (.buf 3 (.int .i64) p7, []), (.buf 41 T4414 p8, [])]⟩) hV 0 [(5, {bv := some false})] {live := [0, 4, 5, 6, 7, 8, 9, 12, 60], src := [some 0, some 1, some 2, some 3]} (by kernel_rfl) (by kernel_rfl) ⟨n36, n37, hb38, n36, n37, trivial⟩ ?_
    refine th_n ?_
    refine W_tell (τ := f_law15_SessOnce.s6 p1 p2 p3 p4 (decide ((((att Tf9b7 p1 p3).2).1) ≥ (p4.length : Int))) p5 p6 p7 p8) {fz := [], gr := 0, ad := [], live := [0, 4, 5, 6, 7, 8, 9, 12, 60], src := [some 0, some 1, some 2, some 3]} (by kernel_rfl) (by kernel_rfl) ?_
    exact f_law15_SessOnce.j6_ok hV L2 m2 hL2 k p1 p2 p3 p4 (decide ((((att Tf9b7 p1 p3).2).1) ≥ (p4.length : Int))) p5 p6 p7 p8 H
noncomputable def f_law15_SessOnce.s13 (p1 : Int) (p2 : Int) (p3 : Tb104.T) (p4 : List Int) (p5 : List Int) : St := ⟨180, [(4, .cv (.one (.ptr 0 0))), (5, .cv (.one (.own 1))), (6, .cv (.one (.own 2))), (8, .cv (.one (.int .i64 p1))), (14, .cv (.one (.int .i64 p2)))], [(.box 3, [.int .i64 p3.1, .int .i64 p3.2.1, .sl T4414 p3.2.2 .any]), (.buf 3 (.int .i64) p4, []), (.buf 3 (.int .i64) p5, [])]⟩
noncomputable def f_law15_SessOnce.b13 (L13 : Int → Int → Tb104.T → List Int → List Int → Option f_law15_SessOnce.R) (k : Nat) (p1 : Int) (p2 : Int) (p3 : Tb104.T) (p4 : List Int) (p5 : List Int) : Option f_law15_SessOnce.R :=
  if (decide (p2 < (p5.length : Int))) = true then
  if 0 ≤ p2 then
    if p2 < (p5.length : Int) then
      if p2 < (p4.length : Int) then
        if ((att (.int .i64) p5 p2) != (att (.int .i64) p4 p2)) = true then
          some (false, ())
        else
          L13 p1 (IntKind.i64.wrap (p2 + 1)) p3 p4 p5
      else none
    else none
  else none
else
  (f_sess_Done.f k p3 (5 : Int) p1).bind fun y49 =>
    if ((y49.1.2.2.length : Int) == (IntKind.i64.wrap ((p4.length : Int) - (p5.length : Int)))) = true then
      (f_sess_Done.f k p3 (6 : Int) p1).bind fun y50 =>
        some (((y50.1.2.2.length : Int) == (p3.2.2.length : Int)), ())
    else
      some (false, ())
theorem f_law15_SessOnce.b13_ok (hV : EnvOk P f_law15_SessOnce.V) {r : f_law15_SessOnce.R} (L13 : Int → Int → Tb104.T → List Int → List Int → Option f_law15_SessOnce.R) (m13 : Nat) (hL13 : ∀ (p1 : Int) (p2 : Int) (p3 : Tb104.T) (p4 : List Int) (p5 : List Int), L13 p1 p2 p3 p4 p5 = some r → WL P 0 (Code.l (Code.l (Code.r (Code.l (Code.r (Code.r (Code.r (Code.r (Code.r (Code.r (Code.r (Code.r (Code.r f_law15_SessOnce.c0))))))))))))) (blockW 3 (thenW P 0 (Code.r (Code.r (Code.r (Code.r (Code.r (Code.r (Code.r (Code.r (Code.r (Code.r f_law15_SessOnce.c0)))))))))) (f_law15_SessOnce.Q r))) m13 (f_law15_SessOnce.s13 p1 p2 p3 p4 p5)) (k : Nat) (p1 : Int) (p2 : Int) (p3 : Tb104.T) (p4 : List Int) (p5 : List Int) (H : f_law15_SessOnce.b13 L13 k p1 p2 p3 p4 p5 = some r) : W P 0 (Code.l (Code.l (Code.r (Code.l (Code.r (Code.r (Code.r (Code.r (Code.r (Code.r (Code.r (Code.r (Code.r f_law15_SessOnce.c0))))))))))))) (f_law15_SessOnce.s13 p1 p2 p3 p4 p5) (roundW P 0 (Code.l (Code.l (Code.r (Code.l (Code.r (Code.r (Code.r (Code.r (Code.r (Code.r (Code.r (Code.r (Code.r f_law15_SessOnce.c0))))))))))))) (blockW 3 (thenW P 0 (Code.r (Code.r (Code.r (Code.r (Code.r (Code.r (Code.r (Code.r (Code.r (Code.r f_law15_SessOnce.c0)))))))))) (f_law15_SessOnce.Q r))) m13) := by
  unfold f_law15_SessOnce.b13 at H
  refine D_seq (by kernel_rfl) ?_
  refine D_seq (by kernel_rfl) ?_
  refine D_reg (cs := []) (τ := ⟨180, [(4, .cv (.one (.ptr 0 0))), (5, .cv (.one (.own 1))), (6, .cv (.one (.own 2))), (8, .cv (.one (.int .i64 p1))), (14, .cv (.one (.int .i64 p2))), (146, .cv (.one (.bool (decide (p2 < (p5.length : Int))))))], [(.box 3, [.int .i64 p3.1, .int .i64 p3.2.1, .sl T4414 p3.2.2 .any]), (.buf 3 (.int .i64) p4, []), (.buf 3 (.int .i64) p5, [])]⟩) hV 0 [] {live := [4, 5, 6, 8, 14, 146], src := [some 0, some 1, some 2]} (by kernel_rfl) (by kernel_rfl) trivial ?_
  refine th_n ?_
  refine D_condB (t := 146) (b := (decide (p2 < (p5.length : Int)))) (by kernel_rfl) (by kernel_rfl) (fun hb44 => ?_) (fun hb44 => ?_)
  · rw [if_pos hb44] at H
    refine D_skip (by kernel_rfl) ?_
    refine th_n ?_
    refine D_seq (by kernel_rfl) ?_
    refine D_block (id := 4) (by kernel_rfl) ?_
    refine D_seq (by kernel_rfl) ?_
    obtain ⟨n45, H⟩ := of_if H
    obtain ⟨n46, H⟩ := of_if H
    obtain ⟨n47, H⟩ := of_if H
    refine D_reg (cs := [0 ≤ p2, p2 < (p5.length : Int), 0 ≤ p2, p2 < (p4.length : Int)]) (τ := ⟨180, [(4, .cv (.one (.ptr 0 0))), (5, .cv (.one (.own 1))), (6, .cv (.one (.own 2))), (8, .cv (.one (.int .i64 p1))), (14, .cv (.one (.int .i64 p2))), (157, .cv (.one (.bool ((att (.int .i64) p5 p2) != (att (.int .i64) p4 p2)))))], [(.box 3, [.int .i64 p3.1, .int .i64 p3.2.1, .sl T4414 p3.2.2 .any]), (.buf 3 (.int .i64) p4, []), (.buf 3 (.int .i64) p5, [])]⟩) hV 0 [] {live := [4, 5, 6, 8, 14, 157], src := [some 0, some 1, some 2]} (by kernel_rfl) (by kernel_rfl) ⟨n45, n46, n45, n47, trivial⟩ ?_
    refine th_n ?_
    refine D_condB (t := 157) (b := ((att (.int .i64) p5 p2) != (att (.int .i64) p4 p2))) (by kernel_rfl) (by kernel_rfl) (fun hb48 => ?_) (fun hb48 => ?_)
    · rw [if_pos hb48] at H
      refine D_seq (by kernel_rfl) ?_
      refine D_reg (cs := []) (τ := ⟨180, [(2, .cv (.one (.bool false)))], []⟩) hV 0 [] {live := [2], src := []} (by kernel_rfl) (by kernel_rfl) trivial ?_
      refine th_n ?_
      refine D_ret (by kernel_rfl) ?_
      refine bl_r ?_
      refine th_r ?_
      refine ro_r ?_
      refine bl_r ?_
      refine th_r ?_
      exact lf_r (Eq.trans (by kernel_rfl) H)
    · rw [if_neg (by rw [hb48]; decide)] at H
      refine D_skip (by kernel_rfl) ?_
      refine bl_n ?_
      refine th_n ?_
      refine D_reg (cs := []) (τ := ⟨180, [(4, .cv (.one (.ptr 0 0))), (5, .cv (.one (.own 1))), (6, .cv (.one (.own 2))), (8, .cv (.one (.int .i64 p1))), (14, .cv (.one (.int .i64 (IntKind.i64.wrap (p2 + 1)))))], [(.box 3, [.int .i64 p3.1, .int .i64 p3.2.1, .sl T4414 p3.2.2 .any]), (.buf 3 (.int .i64) p4, []), (.buf 3 (.int .i64) p5, [])]⟩) hV 0 [] {live := [4, 5, 6, 8, 14], src := [some 0, some 1, some 2]} (by kernel_rfl) (by kernel_rfl) trivial ?_
      refine ro_n (WL_tell (τ := f_law15_SessOnce.s13 p1 (IntKind.i64.wrap (p2 + 1)) p3 p4 p5) {fz := [], gr := 0, ad := [], live := [4, 5, 6, 8, 14], src := [some 0, some 1, some 2]} (by kernel_rfl) (by kernel_rfl) ?_)
      exact hL13 p1 (IntKind.i64.wrap (p2 + 1)) p3 p4 p5 H
  · rw [if_neg (by rw [hb44]; decide)] at H
    refine D_exit (id := 3) (by kernel_rfl) ?_
    refine th_x ?_
    refine ro_x ?_
    refine bl_h ?_
    refine th_n ?_
    refine D_seq (by kernel_rfl) ?_
    obtain ⟨y49, e51, H⟩ := of_bind H
    rcases of_ite H with ⟨hb52, H⟩ | ⟨hb52, H⟩
    · obtain ⟨y50, e53, H⟩ := of_bind H
      refine D_reg (cs := [f_sess_Done.S.rel (p3, 5, p1, ()) y49, (((y49.1.2.2.length : Int) == (IntKind.i64.wrap ((p4.length : Int) - (p5.length : Int))))) = true, f_sess_Done.S.rel (p3, 6, p1, ()) y50]) (τ := ⟨180, [(2, .cv (.one (.bool ((y50.1.2.2.length : Int) == (p3.2.2.length : Int)))))], []⟩) hV 0 [(2, {res := some ⟨f_sess_Done.S.rs, y49⟩}), (10, {bv := some true}), (14, {res := some ⟨f_sess_Done.S.rs, y50⟩})] {live := [2], src := []} (by kernel_rfl) (by kernel_rfl) ⟨⟨k, e51⟩, hb52, ⟨k, e53⟩, trivial⟩ ?_
      refine th_n ?_
      refine D_ret (by kernel_rfl) ?_
      exact lf_r (Eq.trans (by kernel_rfl) H)
    · refine D_reg (cs := [f_sess_Done.S.rel (p3, 5, p1, ()) y49, (((y49.1.2.2.length : Int) == (IntKind.i64.wrap ((p4.length : Int) - (p5.length : Int))))) = false]) (τ := ⟨180, [(2, .cv (.one (.bool false)))], []⟩) hV 0 [(2, {res := some ⟨f_sess_Done.S.rs, y49⟩}), (10, {bv := some false})] {live := [2], src := []} (by kernel_rfl) (by kernel_rfl) ⟨⟨k, e51⟩, hb52, trivial⟩ ?_
      refine th_n ?_
      refine D_ret (by kernel_rfl) ?_
      exact lf_r (Eq.trans (by kernel_rfl) H)
noncomputable def f_law15_SessOnce.l13 (k : Nat) : Nat → Int → Int → Tb104.T → List Int → List Int → Option f_law15_SessOnce.R
  | 0, _, _, _, _, _ => none
  | m + 1, p1, p2, p3, p4, p5 => f_law15_SessOnce.b13 (f_law15_SessOnce.l13 k m) k p1 p2 p3 p4 p5
theorem f_law15_SessOnce.l13_ok (hV : EnvOk P f_law15_SessOnce.V) {r : f_law15_SessOnce.R} (k : Nat) : ∀ (m13 : Nat) (p1 : Int) (p2 : Int) (p3 : Tb104.T) (p4 : List Int) (p5 : List Int), f_law15_SessOnce.l13 k m13 p1 p2 p3 p4 p5 = some r → WL P 0 (Code.l (Code.l (Code.r (Code.l (Code.r (Code.r (Code.r (Code.r (Code.r (Code.r (Code.r (Code.r (Code.r f_law15_SessOnce.c0))))))))))))) (blockW 3 (thenW P 0 (Code.r (Code.r (Code.r (Code.r (Code.r (Code.r (Code.r (Code.r (Code.r (Code.r f_law15_SessOnce.c0)))))))))) (f_law15_SessOnce.Q r))) m13 (f_law15_SessOnce.s13 p1 p2 p3 p4 p5)
  | 0, _, _, _, _, _, H => by cases H
  | m13 + 1, p1, p2, p3, p4, p5, H => WL_succ (f_law15_SessOnce.b13_ok hV (f_law15_SessOnce.l13 k m13) m13 (fun p1 p2 p3 p4 p5 H => f_law15_SessOnce.l13_ok hV k m13 p1 p2 p3 p4 p5 H) k p1 p2 p3 p4 p5 H)
noncomputable def f_law15_SessOnce.b2 (L2 : List Tf9b7.T → Int → Int → Tb104.T → List Int → List Int → List T4414.T → Option f_law15_SessOnce.R) (k : Nat) (p1 : List Tf9b7.T) (p2 : Int) (p3 : Int) (p4 : Tb104.T) (p5 : List Int) (p6 : List Int) (p7 : List T4414.T) : Option f_law15_SessOnce.R :=
  if (decide (p3 < (p1.length : Int))) = true then
  if 0 ≤ p3 then
    if p3 < (p1.length : Int) then
      if (((att Tf9b7 p1 p3).1) == (0 : Int)) = true then
        (f_sess_Push.f k p4 (3, (0, (0, (((att Tf9b7 p1 p3).2).2, ((0, 0), (0, (0, (0, 0))))))))).bind fun y11 =>
          if (y11.2.1 != (0 : Int)) = true then
            some (false, ())
          else
            if (p5.length + 1) * 8 ≤ 140737488355328 then
              f_law15_SessOnce.j4 L2 k p1 p2 p3 y11.1 (p5 ++ [((att Tf9b7 p1 p3).2).2]) p6 p7
            else none
      else
        if (((att Tf9b7 p1 p3).1) == (2 : Int)) = true then
          (f_sess_Done.f k p4 (5 : Int) p2).bind fun y20 =>
            f_law15_SessOnce.j4 L2 k p1 p2 p3 y20.1 p5 p6 p7
        else
          if (((att Tf9b7 p1 p3).1) == (3 : Int)) = true then
            f_law15_SessOnce.j8 L2 k p1 p2 p3 p4 p5 p6 p7
          else
            f_law15_SessOnce.j7 L2 k p1 p2 p3 p4.2.2 p4 p5 p6 p7
    else none
  else none
else
  f_law15_SessOnce.l13 k k p2 0 p4 p5 p6
theorem f_law15_SessOnce.b2_ok (hV : EnvOk P f_law15_SessOnce.V) {r : f_law15_SessOnce.R} (L2 : List Tf9b7.T → Int → Int → Tb104.T → List Int → List Int → List T4414.T → Option f_law15_SessOnce.R) (m2 : Nat) (hL2 : ∀ (p1 : List Tf9b7.T) (p2 : Int) (p3 : Int) (p4 : Tb104.T) (p5 : List Int) (p6 : List Int) (p7 : List T4414.T), L2 p1 p2 p3 p4 p5 p6 p7 = some r → WL P 0 (Code.l (Code.l (Code.r (Code.l (Code.r (Code.r (Code.r (Code.r (Code.r (Code.r (Code.r (Code.r f_law15_SessOnce.c0)))))))))))) (blockW 0 (thenW P 0 (Code.r (Code.r (Code.r (Code.r (Code.r (Code.r (Code.r (Code.r (Code.r f_law15_SessOnce.c0))))))))) (f_law15_SessOnce.Q r))) m2 (f_law15_SessOnce.s2 p1 p2 p3 p4 p5 p6 p7)) (k : Nat) (p1 : List Tf9b7.T) (p2 : Int) (p3 : Int) (p4 : Tb104.T) (p5 : List Int) (p6 : List Int) (p7 : List T4414.T) (H : f_law15_SessOnce.b2 L2 k p1 p2 p3 p4 p5 p6 p7 = some r) : W P 0 (Code.l (Code.l (Code.r (Code.l (Code.r (Code.r (Code.r (Code.r (Code.r (Code.r (Code.r (Code.r f_law15_SessOnce.c0)))))))))))) (f_law15_SessOnce.s2 p1 p2 p3 p4 p5 p6 p7) (roundW P 0 (Code.l (Code.l (Code.r (Code.l (Code.r (Code.r (Code.r (Code.r (Code.r (Code.r (Code.r (Code.r f_law15_SessOnce.c0)))))))))))) (blockW 0 (thenW P 0 (Code.r (Code.r (Code.r (Code.r (Code.r (Code.r (Code.r (Code.r (Code.r f_law15_SessOnce.c0))))))))) (f_law15_SessOnce.Q r))) m2) := by
  unfold f_law15_SessOnce.b2 at H
  refine D_seq (by kernel_rfl) ?_
  refine D_seq (by kernel_rfl) ?_
  refine D_reg (cs := []) (τ := ⟨180, [(0, .cv (.one (.sl Tf9b7 p1 .any))), (4, .cv (.one (.ptr 0 0))), (5, .cv (.one (.own 1))), (6, .cv (.one (.own 2))), (7, .cv (.one (.own 3))), (8, .cv (.one (.int .i64 p2))), (9, .cv (.one (.int .i64 p3))), (28, .cv (.one (.bool (decide (p3 < (p1.length : Int))))))], [(.box 3, [.int .i64 p4.1, .int .i64 p4.2.1, .sl T4414 p4.2.2 .any]), (.buf 3 (.int .i64) p5, []), (.buf 3 (.int .i64) p6, []), (.buf 41 T4414 p7, [])]⟩) hV 0 [] {live := [0, 4, 5, 6, 7, 8, 9, 28], src := [some 0, some 1, some 2, some 3]} (by kernel_rfl) (by kernel_rfl) trivial ?_
  refine th_n ?_
  refine D_condB (t := 28) (b := (decide (p3 < (p1.length : Int)))) (by kernel_rfl) (by kernel_rfl) (fun hb7 => ?_) (fun hb7 => ?_)
  · rw [if_pos hb7] at H
    refine D_skip (by kernel_rfl) ?_
    refine th_n ?_
    refine D_seq (by kernel_rfl) ?_
    refine D_block (id := 1) (by kernel_rfl) ?_
    refine D_seq (by kernel_rfl) ?_
    refine D_seq (by kernel_rfl) ?_
    obtain ⟨n8, H⟩ := of_if H
    obtain ⟨n9, H⟩ := of_if H
    refine D_reg (cs := [0 ≤ p3, p3 < (p1.length : Int)]) (τ := ⟨180, [(0, .cv (.one (.sl Tf9b7 p1 .any))), (4, .cv (.one (.ptr 0 0))), (5, .cv (.one (.own 1))), (6, .cv (.one (.own 2))), (7, .cv (.one (.own 3))), (8, .cv (.one (.int .i64 p2))), (9, .cv (.one (.int .i64 p3))), (35, .cv (.one (.int .i64 ((att Tf9b7 p1 p3).1))))], [(.box 3, [.int .i64 p4.1, .int .i64 p4.2.1, .sl T4414 p4.2.2 .any]), (.buf 3 (.int .i64) p5, []), (.buf 3 (.int .i64) p6, []), (.buf 41 T4414 p7, [])]⟩) hV 0 [] {live := [0, 4, 5, 6, 7, 8, 9, 35], src := [some 0, some 1, some 2, some 3]} (by kernel_rfl) (by kernel_rfl) ⟨n8, n9, trivial⟩ ?_
    refine th_n ?_
    refine D_block (id := 2) (by kernel_rfl) ?_
    refine D_seq (by kernel_rfl) ?_
    refine D_reg (cs := []) (τ := ⟨180, [(0, .cv (.one (.sl Tf9b7 p1 .any))), (4, .cv (.one (.ptr 0 0))), (5, .cv (.one (.own 1))), (6, .cv (.one (.own 2))), (7, .cv (.one (.own 3))), (8, .cv (.one (.int .i64 p2))), (9, .cv (.one (.int .i64 p3))), (35, .cv (.one (.int .i64 ((att Tf9b7 p1 p3).1)))), (84, .cv (.one (.bool (((att Tf9b7 p1 p3).1) == (0 : Int)))))], [(.box 3, [.int .i64 p4.1, .int .i64 p4.2.1, .sl T4414 p4.2.2 .any]), (.buf 3 (.int .i64) p5, []), (.buf 3 (.int .i64) p6, []), (.buf 41 T4414 p7, [])]⟩) hV 0 [] {live := [0, 4, 5, 6, 7, 8, 9, 35, 84], src := [some 0, some 1, some 2, some 3]} (by kernel_rfl) (by kernel_rfl) trivial ?_
    refine th_n ?_
    refine D_condB (t := 84) (b := (((att Tf9b7 p1 p3).1) == (0 : Int))) (by kernel_rfl) (by kernel_rfl) (fun hb10 => ?_) (fun hb10 => ?_)
    · rw [if_pos hb10] at H
      refine D_seq (by kernel_rfl) ?_
      obtain ⟨y11, e12, H⟩ := of_bind H
      refine D_reg (cs := [0 ≤ p3, p3 < (p1.length : Int), f_sess_Push.S.rel (p4, (3, (0, (0, (((att Tf9b7 p1 p3).2).2, ((0, 0), (0, (0, (0, 0)))))))), ()) y11]) (τ := ⟨180, [(0, .cv (.one (.sl Tf9b7 p1 .any))), (4, .cv (.one (.ptr 0 0))), (5, .cv (.one (.own 1))), (6, .cv (.one (.own 2))), (7, .cv (.one (.own 3))), (8, .cv (.one (.int .i64 p2))), (9, .cv (.one (.int .i64 p3))), (10, .cv (.one (.ptr 4 0))), (11, .cv (.one (.int .i64 y11.2.1)))], [(.box 3, [.int .i64 p4.1, .int .i64 p4.2.1, .sl T4414 p4.2.2 .any]), (.buf 3 (.int .i64) p5, []), (.buf 3 (.int .i64) p6, []), (.buf 41 T4414 p7, []), (.box 3, [.int .i64 y11.1.1, .int .i64 y11.1.2.1, .sl T4414 y11.1.2.2 .any])]⟩) hV 1 [(7, {res := some ⟨f_sess_Push.S.rs, y11⟩}), (11, {sb := 4})] {live := [0, 4, 5, 6, 7, 8, 9, 10, 11], src := [some 0, some 1, some 2, some 3, some 4]} (by kernel_rfl) (by kernel_rfl) ⟨n8, n9, ⟨k, e12⟩, trivial⟩ ?_
      refine th_n ?_
      refine D_seq (by kernel_rfl) ?_
      refine D_seq (by kernel_rfl) ?_
      refine D_reg (cs := []) (τ := ⟨180, [(0, .cv (.one (.sl Tf9b7 p1 .any))), (4, .cv (.one (.ptr 0 0))), (5, .cv (.one (.own 1))), (6, .cv (.one (.own 2))), (7, .cv (.one (.own 3))), (8, .cv (.one (.int .i64 p2))), (9, .cv (.one (.int .i64 p3))), (10, .cv (.one (.ptr 4 0))), (98, .cv (.one (.bool (y11.2.1 != (0 : Int)))))], [(.box 3, [.int .i64 p4.1, .int .i64 p4.2.1, .sl T4414 p4.2.2 .any]), (.buf 3 (.int .i64) p5, []), (.buf 3 (.int .i64) p6, []), (.buf 41 T4414 p7, []), (.box 3, [.int .i64 y11.1.1, .int .i64 y11.1.2.1, .sl T4414 y11.1.2.2 .any])]⟩) hV 0 [] {live := [0, 4, 5, 6, 7, 8, 9, 10, 98], src := [some 0, some 1, some 2, some 3, some 4]} (by kernel_rfl) (by kernel_rfl) trivial ?_
      refine th_n ?_
      refine D_condB (t := 98) (b := (y11.2.1 != (0 : Int))) (by kernel_rfl) (by kernel_rfl) (fun hb13 => ?_) (fun hb13 => ?_)
      · rw [if_pos hb13] at H
        refine D_seq (by kernel_rfl) ?_
        refine D_reg (cs := []) (τ := ⟨180, [(2, .cv (.one (.bool false)))], []⟩) hV 0 [] {live := [2], src := []} (by kernel_rfl) (by kernel_rfl) trivial ?_
        refine th_n ?_
        refine D_ret (by kernel_rfl) ?_
        refine th_r ?_
        refine bl_r ?_
        refine th_r ?_
        refine bl_r ?_
        refine th_r ?_
        refine ro_r ?_
        refine bl_r ?_
        refine th_r ?_
        exact lf_r (Eq.trans (by kernel_rfl) H)
      · rw [if_neg (by rw [hb13]; decide)] at H
        refine D_skip (by kernel_rfl) ?_
        refine th_n ?_
        refine D_seq (by kernel_rfl) ?_
        refine D_reg (cs := []) (τ := ⟨180, [(0, .cv (.one (.sl Tf9b7 p1 .any))), (4, .cv (.one (.ptr 0 0))), (5, .cv (.one (.own 1))), (6, .cv (.one (.own 2))), (7, .cv (.one (.own 3))), (8, .cv (.one (.int .i64 p2))), (9, .cv (.one (.int .i64 p3)))], [(.box 3, [.int .i64 y11.1.1, .int .i64 y11.1.2.1, .sl T4414 y11.1.2.2 .any]), (.buf 3 (.int .i64) p5, []), (.buf 3 (.int .i64) p6, []), (.buf 41 T4414 p7, [])]⟩) hV 0 [] {live := [0, 4, 5, 6, 7, 8, 9], src := [some 0, some 1, some 2, some 3]} (by kernel_rfl) (by kernel_rfl) trivial ?_
        refine th_n ?_
        obtain ⟨n14, H⟩ := of_if H
        refine D_reg (cs := [0 ≤ p3, p3 < (p1.length : Int), (p5.length + 1) * 8 ≤ 140737488355328]) (τ := ⟨180, [(0, .cv (.one (.sl Tf9b7 p1 .any))), (4, .cv (.one (.ptr 0 0))), (5, .cv (.one (.own 1))), (6, .cv (.one (.own 2))), (7, .cv (.one (.own 3))), (8, .cv (.one (.int .i64 p2))), (9, .cv (.one (.int .i64 p3)))], [(.box 3, [.int .i64 y11.1.1, .int .i64 y11.1.2.1, .sl T4414 y11.1.2.2 .any]), (.buf 3 (.int .i64) (p5 ++ [((att Tf9b7 p1 p3).2).2]), []), (.buf 3 (.int .i64) p6, []), (.buf 41 T4414 p7, [])]⟩) hV 1 [(7, {sb := 4})] {live := [0, 4, 5, 6, 7, 8, 9], src := [some 0, some 4, some 2, some 3]} (by kernel_rfl) (by kernel_rfl) ⟨n8, n9, n14, trivial⟩ ?_
        refine bl_n ?_
        refine th_n ?_
        refine W_tell (τ := f_law15_SessOnce.s4 p1 p2 p3 y11.1 (p5 ++ [((att Tf9b7 p1 p3).2).2]) p6 p7) {fz := [], gr := 0, ad := [], live := [0, 4, 5, 6, 7, 8, 9], src := [some 0, some 1, some 2, some 3]} (by kernel_rfl) (by kernel_rfl) ?_
        exact f_law15_SessOnce.j4_ok hV L2 m2 hL2 k p1 p2 p3 y11.1 (p5 ++ [((att Tf9b7 p1 p3).2).2]) p6 p7 H
    · rw [if_neg (by rw [hb10]; decide)] at H
      refine D_seq (by kernel_rfl) ?_
      refine D_reg (cs := []) (τ := ⟨180, [(0, .cv (.one (.sl Tf9b7 p1 .any))), (4, .cv (.one (.ptr 0 0))), (5, .cv (.one (.own 1))), (6, .cv (.one (.own 2))), (7, .cv (.one (.own 3))), (8, .cv (.one (.int .i64 p2))), (9, .cv (.one (.int .i64 p3))), (108, .cv (.one (.bool (((att Tf9b7 p1 p3).1) == (2 : Int)))))], [(.box 3, [.int .i64 p4.1, .int .i64 p4.2.1, .sl T4414 p4.2.2 .any]), (.buf 3 (.int .i64) p5, []), (.buf 3 (.int .i64) p6, []), (.buf 41 T4414 p7, [])]⟩) hV 0 [] {live := [0, 4, 5, 6, 7, 8, 9, 108], src := [some 0, some 1, some 2, some 3]} (by kernel_rfl) (by kernel_rfl) trivial ?_
      refine th_n ?_
      refine D_condB (t := 108) (b := (((att Tf9b7 p1 p3).1) == (2 : Int))) (by kernel_rfl) (by kernel_rfl) (fun hb19 => ?_) (fun hb19 => ?_)
      · rw [if_pos hb19] at H
        obtain ⟨y20, e21, H⟩ := of_bind H
        refine D_reg (cs := [f_sess_Done.S.rel (p4, 5, p2, ()) y20]) (τ := ⟨180, [(0, .cv (.one (.sl Tf9b7 p1 .any))), (4, .cv (.one (.ptr 0 0))), (5, .cv (.one (.own 1))), (6, .cv (.one (.own 2))), (7, .cv (.one (.own 3))), (8, .cv (.one (.int .i64 p2))), (9, .cv (.one (.int .i64 p3)))], [(.box 3, [.int .i64 y20.1.1, .int .i64 y20.1.2.1, .sl T4414 y20.1.2.2 .any]), (.buf 3 (.int .i64) p5, []), (.buf 3 (.int .i64) p6, []), (.buf 41 T4414 p7, [])]⟩) hV 0 [(2, {res := some ⟨f_sess_Done.S.rs, y20⟩})] {live := [0, 4, 5, 6, 7, 8, 9], src := [some 0, some 1, some 2, some 3]} (by kernel_rfl) (by kernel_rfl) ⟨⟨k, e21⟩, trivial⟩ ?_
        refine bl_n ?_
        refine th_n ?_
        refine W_tell (τ := f_law15_SessOnce.s4 p1 p2 p3 y20.1 p5 p6 p7) {fz := [], gr := 0, ad := [], live := [0, 4, 5, 6, 7, 8, 9], src := [some 0, some 1, some 2, some 3]} (by kernel_rfl) (by kernel_rfl) ?_
        exact f_law15_SessOnce.j4_ok hV L2 m2 hL2 k p1 p2 p3 y20.1 p5 p6 p7 H
      · rw [if_neg (by rw [hb19]; decide)] at H
        refine D_seq (by kernel_rfl) ?_
        refine D_reg (cs := []) (τ := ⟨180, [(0, .cv (.one (.sl Tf9b7 p1 .any))), (4, .cv (.one (.ptr 0 0))), (5, .cv (.one (.own 1))), (6, .cv (.one (.own 2))), (7, .cv (.one (.own 3))), (8, .cv (.one (.int .i64 p2))), (9, .cv (.one (.int .i64 p3))), (12, .cv (.one (.sl T4414 p4.2.2 .any)))], [(.box 3, [.int .i64 p4.1, .int .i64 p4.2.1, .sl T4414 p4.2.2 .any]), (.buf 3 (.int .i64) p5, []), (.buf 3 (.int .i64) p6, []), (.buf 41 T4414 p7, [])]⟩) hV 0 [] {live := [0, 4, 5, 6, 7, 8, 9, 12], src := [some 0, some 1, some 2, some 3]} (by kernel_rfl) (by kernel_rfl) trivial ?_
        refine th_n ?_
        refine D_seq (by kernel_rfl) ?_
        refine D_seq (by kernel_rfl) ?_
        refine D_reg (cs := [0 ≤ p3, p3 < (p1.length : Int)]) (τ := ⟨180, [(0, .cv (.one (.sl Tf9b7 p1 .any))), (4, .cv (.one (.ptr 0 0))), (5, .cv (.one (.own 1))), (6, .cv (.one (.own 2))), (7, .cv (.one (.own 3))), (8, .cv (.one (.int .i64 p2))), (9, .cv (.one (.int .i64 p3))), (12, .cv (.one (.sl T4414 p4.2.2 .any))), (43, .cv (.one (.bool (((att Tf9b7 p1 p3).1) == (3 : Int)))))], [(.box 3, [.int .i64 p4.1, .int .i64 p4.2.1, .sl T4414 p4.2.2 .any]), (.buf 3 (.int .i64) p5, []), (.buf 3 (.int .i64) p6, []), (.buf 41 T4414 p7, [])]⟩) hV 0 [] {live := [0, 4, 5, 6, 7, 8, 9, 12, 43], src := [some 0, some 1, some 2, some 3]} (by kernel_rfl) (by kernel_rfl) ⟨n8, n9, trivial⟩ ?_
        refine th_n ?_
        refine D_condB (t := 43) (b := (((att Tf9b7 p1 p3).1) == (3 : Int))) (by kernel_rfl) (by kernel_rfl) (fun hb22 => ?_) (fun hb22 => ?_)
        · rw [if_pos hb22] at H
          refine D_reg (cs := []) (τ := ⟨180, [(0, .cv (.one (.sl Tf9b7 p1 .any))), (4, .cv (.one (.ptr 0 0))), (5, .cv (.one (.own 1))), (6, .cv (.one (.own 2))), (7, .cv (.one (.own 3))), (8, .cv (.one (.int .i64 p2))), (9, .cv (.one (.int .i64 p3))), (12, .cv (.one (.own 3)))], [(.box 3, [.int .i64 p4.1, .int .i64 p4.2.1, .sl T4414 p4.2.2 .any]), (.buf 3 (.int .i64) p5, []), (.buf 3 (.int .i64) p6, []), (.buf 41 T4414 p7, [])]⟩) hV 0 [] {live := [0, 4, 5, 6, 7, 8, 9, 12], src := [some 0, some 1, some 2, some 3]} (by kernel_rfl) (by kernel_rfl) trivial ?_
          refine th_n ?_
          refine W_tell (τ := f_law15_SessOnce.s8 p1 p2 p3 p4 p5 p6 p7) {fz := [], gr := 0, ad := [], live := [0, 4, 5, 6, 7, 8, 9, 12], src := [some 0, some 1, some 2, some 3]} (by kernel_rfl) (by kernel_rfl) ?_
          exact f_law15_SessOnce.j8_ok hV L2 m2 hL2 k p1 p2 p3 p4 p5 p6 p7 H
        · rw [if_neg (by rw [hb22]; decide)] at H
          refine D_skip (by kernel_rfl) ?_
          refine th_n ?_
          refine W_tell (τ := f_law15_SessOnce.s7 p1 p2 p3 p4.2.2 p4 p5 p6 p7) {fz := [], gr := 0, ad := [], live := [0, 4, 5, 6, 7, 8, 9, 12], src := [some 0, some 1, some 2, some 3]} (by kernel_rfl) (by kernel_rfl) ?_
          exact f_law15_SessOnce.j7_ok hV L2 m2 hL2 k p1 p2 p3 p4.2.2 p4 p5 p6 p7 H
  · rw [if_neg (by rw [hb7]; decide)] at H
    refine D_exit (id := 0) (by kernel_rfl) ?_
    refine th_x ?_
    refine ro_x ?_
    refine bl_h ?_
    refine th_n ?_
    refine D_seq (by kernel_rfl) ?_
    refine D_seq (by kernel_rfl) ?_
    refine D_reg (cs := []) (τ := ⟨180, [(4, .cv (.one (.ptr 0 0))), (5, .cv (.one (.own 1))), (6, .cv (.one (.own 2))), (8, .cv (.one (.int .i64 p2))), (14, .cv (.one (.int .i64 0)))], [(.box 3, [.int .i64 p4.1, .int .i64 p4.2.1, .sl T4414 p4.2.2 .any]), (.buf 3 (.int .i64) p5, []), (.buf 3 (.int .i64) p6, [])]⟩) hV 0 [] {live := [4, 5, 6, 8, 14], src := [some 0, some 1, some 2]} (by kernel_rfl) (by kernel_rfl) trivial ?_
    refine th_n ?_
    refine D_block (id := 3) (by kernel_rfl) ?_
    refine W_tell (τ := f_law15_SessOnce.s13 p2 0 p4 p5 p6) {fz := [], gr := 0, ad := [], live := [4, 5, 6, 8, 14], src := [some 0, some 1, some 2]} (by kernel_rfl) (by kernel_rfl) ?_
    exact D_loop (by kernel_rfl) k (f_law15_SessOnce.l13_ok hV k k p2 0 p4 p5 p6 H)
noncomputable def f_law15_SessOnce.l2 (k : Nat) : Nat → List Tf9b7.T → Int → Int → Tb104.T → List Int → List Int → List T4414.T → Option f_law15_SessOnce.R
  | 0, _, _, _, _, _, _, _ => none
  | m + 1, p1, p2, p3, p4, p5, p6, p7 => f_law15_SessOnce.b2 (f_law15_SessOnce.l2 k m) k p1 p2 p3 p4 p5 p6 p7
theorem f_law15_SessOnce.l2_ok (hV : EnvOk P f_law15_SessOnce.V) {r : f_law15_SessOnce.R} (k : Nat) : ∀ (m2 : Nat) (p1 : List Tf9b7.T) (p2 : Int) (p3 : Int) (p4 : Tb104.T) (p5 : List Int) (p6 : List Int) (p7 : List T4414.T), f_law15_SessOnce.l2 k m2 p1 p2 p3 p4 p5 p6 p7 = some r → WL P 0 (Code.l (Code.l (Code.r (Code.l (Code.r (Code.r (Code.r (Code.r (Code.r (Code.r (Code.r (Code.r f_law15_SessOnce.c0)))))))))))) (blockW 0 (thenW P 0 (Code.r (Code.r (Code.r (Code.r (Code.r (Code.r (Code.r (Code.r (Code.r f_law15_SessOnce.c0))))))))) (f_law15_SessOnce.Q r))) m2 (f_law15_SessOnce.s2 p1 p2 p3 p4 p5 p6 p7)
  | 0, _, _, _, _, _, _, _, H => by cases H
  | m2 + 1, p1, p2, p3, p4, p5, p6, p7, H => WL_succ (f_law15_SessOnce.b2_ok hV (f_law15_SessOnce.l2 k m2) m2 (fun p1 p2 p3 p4 p5 p6 p7 H => f_law15_SessOnce.l2_ok hV k m2 p1 p2 p3 p4 p5 p6 p7 H) k p1 p2 p3 p4 p5 p6 p7 H)
noncomputable def f_law15_SessOnce.j1 (k : Nat) (p1 : List Tf9b7.T) (p2 : Bool) (p3 : Bool) : Option f_law15_SessOnce.R :=
  if p3 = true then
  some (p2, ())
else
  (f_sess_New.f k (5 : Int)).bind fun y5 =>
    f_law15_SessOnce.l2 k k p1 0 0 y5.1 [] [] []
theorem f_law15_SessOnce.j1_ok (hV : EnvOk P f_law15_SessOnce.V) {r : f_law15_SessOnce.R} (k : Nat) (p1 : List Tf9b7.T) (p2 : Bool) (p3 : Bool) (H : f_law15_SessOnce.j1 k p1 p2 p3 = some r) : W P 0 (Code.r (Code.l (Code.r (Code.r f_law15_SessOnce.c0)))) (f_law15_SessOnce.s1 p1 p2 p3) (thenW P 0 (Code.r (Code.r (Code.r f_law15_SessOnce.c0))) (f_law15_SessOnce.Q r)) := by
  unfold f_law15_SessOnce.j1 at H
  refine D_condB (t := 22) (b := p3) (by kernel_rfl) (by kernel_rfl) (fun hb4 => ?_) (fun hb4 => ?_)
  · rw [if_pos hb4] at H
    refine D_seq (by kernel_rfl) ?_
    refine D_reg (cs := []) (τ := ⟨180, [(2, .cv (.one (.bool p2)))], []⟩) hV 0 [] {live := [2], src := []} (by kernel_rfl) (by kernel_rfl) trivial ?_
    refine th_n ?_
    refine D_ret (by kernel_rfl) ?_
    refine th_r ?_
    exact lf_r (Eq.trans (by kernel_rfl) H)
  · rw [if_neg (by rw [hb4]; decide)] at H
    refine D_skip (by kernel_rfl) ?_
    refine th_n ?_
    refine D_seq (by kernel_rfl) ?_
    obtain ⟨y5, e6, H⟩ := of_bind H
    refine D_reg (cs := [f_sess_New.S.rel (5, ()) y5]) (τ := ⟨180, [(0, .cv (.one (.sl Tf9b7 p1 .any))), (4, .cv (.one (.ptr 0 0)))], [(.box 3, [.int .i64 y5.1.1, .int .i64 y5.1.2.1, .sl T4414 y5.1.2.2 .any])]⟩) hV 1 [(0, {res := some ⟨f_sess_New.S.rs, y5⟩}), (1, {sb := 0})] {live := [0, 4], src := [some 0]} (by kernel_rfl) (by kernel_rfl) ⟨⟨k, e6⟩, trivial⟩ ?_
    refine th_n ?_
    refine D_seq (by kernel_rfl) ?_
    refine D_reg (cs := []) (τ := ⟨180, [(0, .cv (.one (.sl Tf9b7 p1 .any))), (4, .cv (.one (.ptr 0 0))), (5, .cv (.one (.nils)))], [(.box 3, [.int .i64 y5.1.1, .int .i64 y5.1.2.1, .sl T4414 y5.1.2.2 .any])]⟩) hV 0 [] {live := [0, 4, 5], src := [some 0]} (by kernel_rfl) (by kernel_rfl) trivial ?_
    refine th_n ?_
    refine D_seq (by kernel_rfl) ?_
    refine D_reg (cs := []) (τ := ⟨180, [(0, .cv (.one (.sl Tf9b7 p1 .any))), (4, .cv (.one (.ptr 0 0))), (5, .cv (.one (.nils))), (6, .cv (.one (.nils)))], [(.box 3, [.int .i64 y5.1.1, .int .i64 y5.1.2.1, .sl T4414 y5.1.2.2 .any])]⟩) hV 0 [] {live := [0, 4, 5, 6], src := [some 0]} (by kernel_rfl) (by kernel_rfl) trivial ?_
    refine th_n ?_
    refine D_seq (by kernel_rfl) ?_
    refine D_reg (cs := []) (τ := ⟨180, [(0, .cv (.one (.sl Tf9b7 p1 .any))), (4, .cv (.one (.ptr 0 0))), (5, .cv (.one (.nils))), (6, .cv (.one (.nils))), (7, .cv (.one (.nils)))], [(.box 3, [.int .i64 y5.1.1, .int .i64 y5.1.2.1, .sl T4414 y5.1.2.2 .any])]⟩) hV 0 [] {live := [0, 4, 5, 6, 7], src := [some 0]} (by kernel_rfl) (by kernel_rfl) trivial ?_
    refine th_n ?_
    refine D_seq (by kernel_rfl) ?_
    refine D_reg (cs := []) (τ := ⟨180, [(0, .cv (.one (.sl Tf9b7 p1 .any))), (4, .cv (.one (.ptr 0 0))), (5, .cv (.one (.nils))), (6, .cv (.one (.nils))), (7, .cv (.one (.nils))), (8, .cv (.one (.int .i64 0)))], [(.box 3, [.int .i64 y5.1.1, .int .i64 y5.1.2.1, .sl T4414 y5.1.2.2 .any])]⟩) hV 0 [] {live := [0, 4, 5, 6, 7, 8], src := [some 0]} (by kernel_rfl) (by kernel_rfl) trivial ?_
    refine th_n ?_
    refine D_seq (by kernel_rfl) ?_
    refine D_seq (by kernel_rfl) ?_
    refine D_reg (cs := []) (τ := ⟨180, [(0, .cv (.one (.sl Tf9b7 p1 .any))), (4, .cv (.one (.ptr 0 0))), (5, .cv (.one (.nils))), (6, .cv (.one (.nils))), (7, .cv (.one (.nils))), (8, .cv (.one (.int .i64 0))), (9, .cv (.one (.int .i64 0)))], [(.box 3, [.int .i64 y5.1.1, .int .i64 y5.1.2.1, .sl T4414 y5.1.2.2 .any])]⟩) hV 0 [] {live := [0, 4, 5, 6, 7, 8, 9], src := [some 0]} (by kernel_rfl) (by kernel_rfl) trivial ?_
    refine th_n ?_
    refine D_block (id := 0) (by kernel_rfl) ?_
    refine W_tell (τ := f_law15_SessOnce.s2 p1 0 0 y5.1 [] [] []) {fz := [], gr := 3, ad := [.ownT 5 1 3 (.int .i64), .ownT 6 2 3 (.int .i64), .ownT 7 3 41 T4414], live := [0, 4, 5, 6, 7, 8, 9], src := [some 0, some 1, some 2, some 3]} (by kernel_rfl) (by kernel_rfl) ?_
    exact D_loop (by kernel_rfl) k (f_law15_SessOnce.l2_ok hV k k p1 0 0 y5.1 [] [] [] H)
noncomputable def f_law15_SessOnce.f (k : Nat) (a1 : List Tf9b7.T) : Option f_law15_SessOnce.R :=
  (f_law15_awake.f k).bind fun y1 =>
    if (!y1.1) = true then
      f_law15_SessOnce.j1 k a1 y1.1 true
    else
      f_law15_SessOnce.j1 k a1 y1.1 (decide ((a1.length : Int) > (100 : Int)))
noncomputable def f_law15_SessOnce.S : Spec := ⟨f_law15_SessOnce.ps, f_law15_SessOnce.rs, .any, none, fun x r => ∃ k, f_law15_SessOnce.f k x.1 = some r⟩
theorem f_law15_SessOnce.f_ok (hV : EnvOk P f_law15_SessOnce.V) {r : f_law15_SessOnce.R} (k : Nat) (a1 : List Tf9b7.T) (H : f_law15_SessOnce.f k a1 = some r) : W P 0 f_law15_SessOnce.c0 (⟨180, [(0, .cv (.one (.sl Tf9b7 a1 .any)))], []⟩) (f_law15_SessOnce.Q r) := by
  unfold f_law15_SessOnce.f at H
  refine D_seq (by kernel_rfl) ?_
  refine D_reg (cs := []) (τ := ⟨180, [(0, .cv (.one (.sl Tf9b7 a1 .any)))], []⟩) hV 0 [] {live := [0], src := []} (by kernel_rfl) (by kernel_rfl) trivial ?_
  refine th_n ?_
  refine D_seq (by kernel_rfl) ?_
  obtain ⟨y1, e2, H⟩ := of_bind H
  refine D_reg (cs := [f_law15_awake.S.rel (()) y1]) (τ := ⟨180, [(0, .cv (.one (.sl Tf9b7 a1 .any))), (3, .cv (.one (.bool y1.1)))], []⟩) hV 0 [(0, {res := some ⟨f_law15_awake.S.rs, y1⟩})] {live := [0, 3], src := []} (by kernel_rfl) (by kernel_rfl) ⟨⟨k, e2⟩, trivial⟩ ?_
  refine th_n ?_
  refine D_seq (by kernel_rfl) ?_
  refine D_seq (by kernel_rfl) ?_
  rcases of_ite H with ⟨hb3, H⟩ | ⟨hb3, H⟩
  · refine D_reg (cs := [((!y1.1)) = true]) (τ := ⟨180, [(0, .cv (.one (.sl Tf9b7 a1 .any))), (3, .cv (.one (.bool y1.1))), (22, .cv (.one (.bool true)))], []⟩) hV 0 [(1, {bv := some true})] {live := [0, 3, 22], src := []} (by kernel_rfl) (by kernel_rfl) ⟨hb3, trivial⟩ ?_
    refine th_n ?_
    refine W_tell (τ := f_law15_SessOnce.s1 a1 y1.1 true) {fz := [], gr := 0, ad := [], live := [0, 3, 22], src := []} (by kernel_rfl) (by kernel_rfl) ?_
    exact f_law15_SessOnce.j1_ok hV k a1 y1.1 true H
  · refine D_reg (cs := [((!y1.1)) = false]) (τ := ⟨180, [(0, .cv (.one (.sl Tf9b7 a1 .any))), (3, .cv (.one (.bool y1.1))), (22, .cv (.one (.bool (decide ((a1.length : Int) > (100 : Int))))))], []⟩) hV 0 [(1, {bv := some false})] {live := [0, 3, 22], src := []} (by kernel_rfl) (by kernel_rfl) ⟨hb3, trivial⟩ ?_
    refine th_n ?_
    refine W_tell (τ := f_law15_SessOnce.s1 a1 y1.1 (decide ((a1.length : Int) > (100 : Int)))) {fz := [], gr := 0, ad := [], live := [0, 3, 22], src := []} (by kernel_rfl) (by kernel_rfl) ?_
    exact f_law15_SessOnce.j1_ok hV k a1 y1.1 (decide ((a1.length : Int) > (100 : Int))) H
theorem f_law15_SessOnce.V_ok : EnvOk P f_law15_SessOnce.V := { ck := tt_ck, fits := slk_cons f_law15_awake.fits (slk_cons f_sess_New.fits (slk_cons f_sess_Push.fits (slk_cons f_sess_Done.fits (slk_cons f_sess_Take.fits (slk_nil))))), mixed := mixed }
theorem f_law15_SessOnce.fits : Fits P 3 f_law15_SessOnce.S := fits_of f_law15_SessOnce.V_ok Go.Proofs.Try.func3 (by kernel_rfl) (by decide) (by decide) rfl (fun x r ⟨k, H⟩ => f_law15_SessOnce.f_ok f_law15_SessOnce.V_ok k x.1 H)
/-! ### i_plan_Adds_1_153: function 60, wayfinder/plan.Adds$1, where it is called -/
noncomputable def i_plan_Adds_1_153.c0 : Code := (Go.Proofs.Try.f60.body).getD .skip
noncomputable def i_plan_Adds_1_153.G : List (Nat × Spec) := []
noncomputable def i_plan_Adds_1_153.V : Env := { tt := tt, Γ := slk i_plan_Adds_1_153.G }
theorem i_plan_Adds_1_153.V_ok : EnvOk P i_plan_Adds_1_153.V := { ck := tt_ck, fits := slk_nil, mixed := mixed }
abbrev i_plan_Adds_1_153.R := (Int) × (T1383.T) × (List T4414.T) × Unit
noncomputable def i_plan_Adds_1_153.s0 (p1 : T1383.T) (p2 : Int) (p3 : T1383.T) (p4 : List T4414.T) : St := ⟨10, [(0, .cv (.agg [.int .i64 p1.1.1, .int .i64 p1.1.2, .int .i64 p1.2.1, .int .i64 p1.2.2.1, .int .i64 p1.2.2.2.1, .int .i64 p1.2.2.2.2])), (1, .cv (.one (.ptr 1 0))), (2, .cv (.one (.ptr 0 0)))], [(.box 1, [.int .i64 p2]), (.box 1, [.own 3]), (.box 6, [.int .i64 p3.1.1, .int .i64 p3.1.2, .int .i64 p3.2.1, .int .i64 p3.2.2.1, .int .i64 p3.2.2.2.1, .int .i64 p3.2.2.2.2]), (.buf 41 T4414 p4, [])]⟩
noncomputable def i_plan_Adds_1_153.out (r : i_plan_Adds_1_153.R) : St := ⟨10, [], [(.box 1, [.int .i64 r.1]), (.box 1, [.own 4]), (.box 6, [.int .i64 r.2.1.1.1, .int .i64 r.2.1.1.2, .int .i64 r.2.1.2.1, .int .i64 r.2.1.2.2.1, .int .i64 r.2.1.2.2.2.1, .int .i64 r.2.1.2.2.2.2]), (.dead, []), (.buf 41 T4414 r.2.2.1, [])]⟩
abbrev i_plan_Adds_1_153.Q (r : i_plan_Adds_1_153.R) := CallQ 4 (i_plan_Adds_1_153.out r)
noncomputable def i_plan_Adds_1_153.f (k : Nat) (p1 : T1383.T) (p2 : Int) (p3 : T1383.T) (p4 : List T4414.T) : Option i_plan_Adds_1_153.R :=
  if (p4.length + 1) * 80 ≤ 140737488355328 then
    some (p2, (p3, ((p4 ++ [(2, (0, (0, (p2, p1))))]), ())))
  else none
theorem i_plan_Adds_1_153.f_ok (hV : EnvOk P i_plan_Adds_1_153.V) {r : i_plan_Adds_1_153.R} (k : Nat) (p1 : T1383.T) (p2 : Int) (p3 : T1383.T) (p4 : List T4414.T) (H : i_plan_Adds_1_153.f k p1 p2 p3 p4 = some r) : W P 4 i_plan_Adds_1_153.c0 (⟨10, [(0, .cv (.agg [.int .i64 p1.1.1, .int .i64 p1.1.2, .int .i64 p1.2.1, .int .i64 p1.2.2.1, .int .i64 p1.2.2.2.1, .int .i64 p1.2.2.2.2])), (1, .cv (.one (.ptr 1 0))), (2, .cv (.one (.ptr 0 0)))], [(.box 1, [.int .i64 p2]), (.box 1, [.own 3]), (.box 6, [.int .i64 p3.1.1, .int .i64 p3.1.2, .int .i64 p3.2.1, .int .i64 p3.2.2.1, .int .i64 p3.2.2.2.1, .int .i64 p3.2.2.2.2]), (.buf 41 T4414 p4, [])]⟩) (i_plan_Adds_1_153.Q r) := by
  unfold i_plan_Adds_1_153.f at H
  refine D_seq (by kernel_rfl) ?_
  refine D_reg (cs := []) (τ := ⟨10, [(1, .cv (.one (.ptr 1 0))), (2, .cv (.one (.ptr 0 0))), (3, .cv (.one (.ptr 4 0)))], [(.box 1, [.int .i64 p2]), (.box 1, [.own 3]), (.box 6, [.int .i64 p3.1.1, .int .i64 p3.1.2, .int .i64 p3.2.1, .int .i64 p3.2.2.1, .int .i64 p3.2.2.2.1, .int .i64 p3.2.2.2.2]), (.buf 41 T4414 p4, []), (.box 6, [.int .i64 p1.1.1, .int .i64 p1.1.2, .int .i64 p1.2.1, .int .i64 p1.2.2.1, .int .i64 p1.2.2.2.1, .int .i64 p1.2.2.2.2])]⟩) hV 1 [(0, {sb := 4})] {live := [1, 2, 3], src := [some 0, some 1, some 2, some 3, some 4]} (by kernel_rfl) (by kernel_rfl) trivial ?_
  refine th_n ?_
  obtain ⟨n1, H⟩ := of_if H
  refine D_reg (cs := [(p4.length + 1) * 80 ≤ 140737488355328]) (τ := ⟨10, [], [(.box 1, [.int .i64 p2]), (.box 1, [.own 4]), (.box 6, [.int .i64 p3.1.1, .int .i64 p3.1.2, .int .i64 p3.2.1, .int .i64 p3.2.2.1, .int .i64 p3.2.2.2.1, .int .i64 p3.2.2.2.2]), (.dead, []), (.buf 41 T4414 (p4 ++ [(2, (0, (0, (p2, p1))))]), [])]⟩) hV 1 [(5, {sb := 5})] {live := [], src := [some 0, some 1, some 2, some 3, some 5]} (by kernel_rfl) (by kernel_rfl) ⟨n1, trivial⟩ ?_
  obtain rfl := Option.some.inj H
  exact cq_n {fz := [], gr := 0, ad := [], live := [], src := [some 0, some 1, some 2, some 3, some 4]} (by kernel_rfl) (by kernel_rfl)
theorem i_plan_Adds_1_153.ok {r : i_plan_Adds_1_153.R} (k : Nat) (p1 : T1383.T) (p2 : Int) (p3 : T1383.T) (p4 : List T4414.T) (H : i_plan_Adds_1_153.f k p1 p2 p3 p4 = some r) : W P 4 i_plan_Adds_1_153.c0 (i_plan_Adds_1_153.s0 p1 p2 p3 p4) (CallQ 4 (i_plan_Adds_1_153.out r)) := i_plan_Adds_1_153.f_ok i_plan_Adds_1_153.V_ok k p1 p2 p3 p4 H
/-! ### i_plan_many_Rule_do_6ac: function 59, (wayfinder/plan.many[wayfinder/api.Rule]).do, where it is called -/
noncomputable def i_plan_many_Rule_do_6ac.c0 : Code := (Go.Proofs.Try.f59.body).getD .skip
noncomputable def i_plan_many_Rule_do_6ac.G : List (Nat × Spec) := []
noncomputable def i_plan_many_Rule_do_6ac.V : Env := { tt := tt, Γ := slk i_plan_many_Rule_do_6ac.G }
theorem i_plan_many_Rule_do_6ac.V_ok : EnvOk P i_plan_many_Rule_do_6ac.V := { ck := tt_ck, fits := slk_nil, mixed := mixed }
abbrev i_plan_many_Rule_do_6ac.R := (Int) × (List T4414.T) × Unit
noncomputable def i_plan_many_Rule_do_6ac.s0 (p1 : List T1383.T) (p2 : Int) : St := ⟨16, [(0, .cv (.one (.sl T1383 p1 .any))), (1, .cv (.one (.fn 60 [] [(1, 0), (0, 0)])))], [(.box 1, [.int .i64 p2]), (.box 1, [.nils])]⟩
noncomputable def i_plan_many_Rule_do_6ac.out (r : i_plan_many_Rule_do_6ac.R) : St := ⟨16, [], [(.box 1, [.int .i64 r.1]), (.box 1, [.own 2]), (.buf 41 T4414 r.2.1, [])]⟩
abbrev i_plan_many_Rule_do_6ac.Q (r : i_plan_many_Rule_do_6ac.R) := CallQ 2 (i_plan_many_Rule_do_6ac.out r)
noncomputable def i_plan_many_Rule_do_6ac.s1 (p1 : List T1383.T) (p2 : Int) (p3 : Int) (p4 : Int) (p5 : List T4414.T) : St := ⟨16, [(1, .cv (.one (.fn 60 [] [(1, 0), (0, 0)]))), (6, .cv (.one (.sl T1383 p1 .any))), (7, .cv (.one (.int .i64 p2))), (8, .cv (.one (.int .i64 p3)))], [(.box 1, [.int .i64 p4]), (.box 1, [.own 2]), (.buf 41 T4414 p5, [])]⟩
noncomputable def i_plan_many_Rule_do_6ac.b1 (L1 : List T1383.T → Int → Int → Int → List T4414.T → Option i_plan_many_Rule_do_6ac.R) (k : Nat) (p1 : List T1383.T) (p2 : Int) (p3 : Int) (p4 : Int) (p5 : List T4414.T) : Option i_plan_many_Rule_do_6ac.R :=
  if (decide (p3 < p2)) = true then
  if 0 ≤ p3 then
    if p3 < (p1.length : Int) then
      (i_plan_Adds_1_153.f k (att T1383 p1 p3) p4 (att T1383 p1 p3) p5).bind fun y4 =>
        L1 p1 p2 (IntKind.i64.wrap (p3 + 1)) y4.1 y4.2.2.1
    else none
  else none
else
  some (p4, (p5, ()))
theorem i_plan_many_Rule_do_6ac.b1_ok (hV : EnvOk P i_plan_many_Rule_do_6ac.V) {r : i_plan_many_Rule_do_6ac.R} (L1 : List T1383.T → Int → Int → Int → List T4414.T → Option i_plan_many_Rule_do_6ac.R) (m1 : Nat) (hL1 : ∀ (p1 : List T1383.T) (p2 : Int) (p3 : Int) (p4 : Int) (p5 : List T4414.T), L1 p1 p2 p3 p4 p5 = some r → WL P 2 (Code.l (Code.l (Code.r i_plan_many_Rule_do_6ac.c0))) (blockW 0 (i_plan_many_Rule_do_6ac.Q r)) m1 (i_plan_many_Rule_do_6ac.s1 p1 p2 p3 p4 p5)) (k : Nat) (p1 : List T1383.T) (p2 : Int) (p3 : Int) (p4 : Int) (p5 : List T4414.T) (H : i_plan_many_Rule_do_6ac.b1 L1 k p1 p2 p3 p4 p5 = some r) : W P 2 (Code.l (Code.l (Code.r i_plan_many_Rule_do_6ac.c0))) (i_plan_many_Rule_do_6ac.s1 p1 p2 p3 p4 p5) (roundW P 2 (Code.l (Code.l (Code.r i_plan_many_Rule_do_6ac.c0))) (blockW 0 (i_plan_many_Rule_do_6ac.Q r)) m1) := by
  unfold i_plan_many_Rule_do_6ac.b1 at H
  refine D_seq (by kernel_rfl) ?_
  refine D_reg (cs := []) (τ := ⟨16, [(1, .cv (.one (.fn 60 [] [(1, 0), (0, 0)]))), (6, .cv (.one (.sl T1383 p1 .any))), (7, .cv (.one (.int .i64 p2))), (8, .cv (.one (.int .i64 p3))), (9, .cv (.one (.bool (decide (p3 < p2)))))], [(.box 1, [.int .i64 p4]), (.box 1, [.own 2]), (.buf 41 T4414 p5, [])]⟩) hV 0 [] {live := [1, 6, 7, 8, 9], src := [some 0, some 1, some 2]} (by kernel_rfl) (by kernel_rfl) trivial ?_
  refine th_n ?_
  refine D_seq (by kernel_rfl) ?_
  refine D_condB (t := 9) (b := (decide (p3 < p2))) (by kernel_rfl) (by kernel_rfl) (fun hb1 => ?_) (fun hb1 => ?_)
  · rw [if_pos hb1] at H
    refine D_skip (by kernel_rfl) ?_
    refine th_n ?_
    refine D_seq (by kernel_rfl) ?_
    refine D_block (id := 1) (by kernel_rfl) ?_
    refine D_seq (by kernel_rfl) ?_
    obtain ⟨n2, H⟩ := of_if H
    obtain ⟨n3, H⟩ := of_if H
    refine D_reg (cs := [0 ≤ p3, p3 < (p1.length : Int)]) (τ := ⟨16, [(1, .cv (.one (.fn 60 [] [(1, 0), (0, 0)]))), (5, .cv (.one (.ptr 2 0))), (6, .cv (.one (.sl T1383 p1 .any))), (7, .cv (.one (.int .i64 p2))), (8, .cv (.one (.int .i64 p3)))], [(.box 1, [.int .i64 p4]), (.box 1, [.own 3]), (.box 6, [.int .i64 (((att T1383 p1 p3).1).1), .int .i64 (((att T1383 p1 p3).1).2), .int .i64 (((att T1383 p1 p3).2).1), .int .i64 ((((att T1383 p1 p3).2).2).1), .int .i64 (((((att T1383 p1 p3).2).2).2).1), .int .i64 (((((att T1383 p1 p3).2).2).2).2)]), (.buf 41 T4414 p5, [])]⟩) hV 1 [(2, {sb := 3})] {live := [1, 5, 6, 7, 8], src := [some 0, some 1, some 3, some 2]} (by kernel_rfl) (by kernel_rfl) ⟨n2, n3, trivial⟩ ?_
    refine th_n ?_
    refine D_regI [0, 1, 2] (by kernel_rfl) (by kernel_rfl) ?_
    refine D_ev (cs := []) (τ := ⟨16, [(1, .cv (.one (.fn 60 [] [(1, 0), (0, 0)]))), (5, .cv (.one (.ptr 2 0))), (6, .cv (.one (.sl T1383 p1 .any))), (7, .cv (.one (.int .i64 p2))), (8, .cv (.one (.int .i64 p3))), (12, .cv (.one (.fn 60 [] [(1, 0), (0, 0)]))), (13, .cv (.agg [.int .i64 (((att T1383 p1 p3).1).1), .int .i64 (((att T1383 p1 p3).1).2), .int .i64 (((att T1383 p1 p3).2).1), .int .i64 ((((att T1383 p1 p3).2).2).1), .int .i64 (((((att T1383 p1 p3).2).2).2).1), .int .i64 (((((att T1383 p1 p3).2).2).2).2)]))], [(.box 1, [.int .i64 p4]), (.box 1, [.own 3]), (.box 6, [.int .i64 (((att T1383 p1 p3).1).1), .int .i64 (((att T1383 p1 p3).1).2), .int .i64 (((att T1383 p1 p3).2).1), .int .i64 ((((att T1383 p1 p3).2).2).1), .int .i64 (((((att T1383 p1 p3).2).2).2).1), .int .i64 (((((att T1383 p1 p3).2).2).2).2)]), (.buf 41 T4414 p5, [])]⟩) hV 0 [] [0, 1] [2] rfl (by kernel_rfl) trivial ?_
    obtain ⟨y4, e5, H⟩ := of_bind H
    refine D_call (f := 60) (N := 4) (cvs := [.agg [.int .i64 (((att T1383 p1 p3).1).1), .int .i64 (((att T1383 p1 p3).1).2), .int .i64 (((att T1383 p1 p3).2).1), .int .i64 ((((att T1383 p1 p3).2).2).1), .int .i64 (((((att T1383 p1 p3).2).2).2).1), .int .i64 (((((att T1383 p1 p3).2).2).2).2)], .one (.ptr 1 0), .one (.ptr 0 0)]) (σ0 := i_plan_Adds_1_153.s0 (att T1383 p1 p3) p4 (att T1383 p1 p3) p5) (τ := i_plan_Adds_1_153.out y4) (σ2 := ⟨16, [(1, .cv (.one (.fn 60 [] [(1, 0), (0, 0)]))), (5, .cv (.one (.ptr 2 0))), (6, .cv (.one (.sl T1383 p1 .any))), (7, .cv (.one (.int .i64 p2))), (8, .cv (.one (.int .i64 p3))), (12, .cv (.one (.fn 60 [] [(1, 0), (0, 0)]))), (13, .cv (.agg [.int .i64 (((att T1383 p1 p3).1).1), .int .i64 (((att T1383 p1 p3).1).2), .int .i64 (((att T1383 p1 p3).2).1), .int .i64 ((((att T1383 p1 p3).2).2).1), .int .i64 (((((att T1383 p1 p3).2).2).2).1), .int .i64 (((((att T1383 p1 p3).2).2).2).2)])), (14, .tup [])], [(.box 1, [.int .i64 y4.1]), (.box 1, [.own 4]), (.box 6, [.int .i64 y4.2.1.1.1, .int .i64 y4.2.1.1.2, .int .i64 y4.2.1.2.1, .int .i64 y4.2.1.2.2.1, .int .i64 y4.2.1.2.2.2.1, .int .i64 y4.2.1.2.2.2.2]), (.dead, []), (.buf 41 T4414 y4.2.2.1, [])]⟩) hV 2 (by kernel_rfl) Go.Proofs.Try.func60 (by kernel_rfl) (by decide) (by kernel_rfl) (by kernel_rfl) (by kernel_rfl) (i_plan_Adds_1_153.ok k (att T1383 p1 p3) p4 (att T1383 p1 p3) p5 e5) (by kernel_rfl) ?_
    refine WO_tell (τ := ⟨16, [(1, .cv (.one (.fn 60 [] [(1, 0), (0, 0)]))), (6, .cv (.one (.sl T1383 p1 .any))), (7, .cv (.one (.int .i64 p2))), (8, .cv (.one (.int .i64 p3)))], [(.box 1, [.int .i64 y4.1]), (.box 1, [.own 2]), (.buf 41 T4414 y4.2.2.1, [])]⟩) {live := [1, 6, 7, 8], src := [some 0, some 1, some 4]} (by kernel_rfl) (by kernel_rfl) ?_
    refine WO_nil ?_
    refine bl_n ?_
    refine th_n ?_
    refine D_reg (cs := []) (τ := ⟨16, [(1, .cv (.one (.fn 60 [] [(1, 0), (0, 0)]))), (6, .cv (.one (.sl T1383 p1 .any))), (7, .cv (.one (.int .i64 p2))), (8, .cv (.one (.int .i64 (IntKind.i64.wrap (p3 + 1)))))], [(.box 1, [.int .i64 y4.1]), (.box 1, [.own 2]), (.buf 41 T4414 y4.2.2.1, [])]⟩) hV 0 [] {live := [1, 6, 7, 8], src := [some 0, some 1, some 2]} (by kernel_rfl) (by kernel_rfl) trivial ?_
    refine ro_n (WL_tell (τ := i_plan_many_Rule_do_6ac.s1 p1 p2 (IntKind.i64.wrap (p3 + 1)) y4.1 y4.2.2.1) {fz := [], gr := 0, ad := [], live := [1, 6, 7, 8], src := [some 0, some 1, some 2]} (by kernel_rfl) (by kernel_rfl) ?_)
    exact hL1 p1 p2 (IntKind.i64.wrap (p3 + 1)) y4.1 y4.2.2.1 H
  · rw [if_neg (by rw [hb1]; decide)] at H
    refine D_exit (id := 0) (by kernel_rfl) ?_
    refine th_x ?_
    refine ro_x ?_
    refine bl_h ?_
    obtain rfl := Option.some.inj H
    exact cq_n {fz := [], gr := 0, ad := [], live := [], src := [some 0, some 1, some 2]} (by kernel_rfl) (by kernel_rfl)
noncomputable def i_plan_many_Rule_do_6ac.l1 (k : Nat) : Nat → List T1383.T → Int → Int → Int → List T4414.T → Option i_plan_many_Rule_do_6ac.R
  | 0, _, _, _, _, _ => none
  | m + 1, p1, p2, p3, p4, p5 => i_plan_many_Rule_do_6ac.b1 (i_plan_many_Rule_do_6ac.l1 k m) k p1 p2 p3 p4 p5
theorem i_plan_many_Rule_do_6ac.l1_ok (hV : EnvOk P i_plan_many_Rule_do_6ac.V) {r : i_plan_many_Rule_do_6ac.R} (k : Nat) : ∀ (m1 : Nat) (p1 : List T1383.T) (p2 : Int) (p3 : Int) (p4 : Int) (p5 : List T4414.T), i_plan_many_Rule_do_6ac.l1 k m1 p1 p2 p3 p4 p5 = some r → WL P 2 (Code.l (Code.l (Code.r i_plan_many_Rule_do_6ac.c0))) (blockW 0 (i_plan_many_Rule_do_6ac.Q r)) m1 (i_plan_many_Rule_do_6ac.s1 p1 p2 p3 p4 p5)
  | 0, _, _, _, _, _, H => by cases H
  | m1 + 1, p1, p2, p3, p4, p5, H => WL_succ (i_plan_many_Rule_do_6ac.b1_ok hV (i_plan_many_Rule_do_6ac.l1 k m1) m1 (fun p1 p2 p3 p4 p5 H => i_plan_many_Rule_do_6ac.l1_ok hV k m1 p1 p2 p3 p4 p5 H) k p1 p2 p3 p4 p5 H)
noncomputable def i_plan_many_Rule_do_6ac.f (k : Nat) (p1 : List T1383.T) (p2 : Int) : Option i_plan_many_Rule_do_6ac.R :=
  i_plan_many_Rule_do_6ac.l1 k k p1 (p1.length : Int) 0 p2 []
theorem i_plan_many_Rule_do_6ac.f_ok (hV : EnvOk P i_plan_many_Rule_do_6ac.V) {r : i_plan_many_Rule_do_6ac.R} (k : Nat) (p1 : List T1383.T) (p2 : Int) (H : i_plan_many_Rule_do_6ac.f k p1 p2 = some r) : W P 2 i_plan_many_Rule_do_6ac.c0 (⟨16, [(0, .cv (.one (.sl T1383 p1 .any))), (1, .cv (.one (.fn 60 [] [(1, 0), (0, 0)])))], [(.box 1, [.int .i64 p2]), (.box 1, [.nils])]⟩) (i_plan_many_Rule_do_6ac.Q r) := by
  unfold i_plan_many_Rule_do_6ac.f at H
  refine D_seq (by kernel_rfl) ?_
  refine D_reg (cs := []) (τ := ⟨16, [(1, .cv (.one (.fn 60 [] [(1, 0), (0, 0)]))), (6, .cv (.one (.sl T1383 p1 .any))), (7, .cv (.one (.int .i64 (p1.length : Int)))), (8, .cv (.one (.int .i64 0)))], [(.box 1, [.int .i64 p2]), (.box 1, [.nils])]⟩) hV 0 [] {live := [1, 6, 7, 8], src := [some 0, some 1]} (by kernel_rfl) (by kernel_rfl) trivial ?_
  refine th_n ?_
  refine D_block (id := 0) (by kernel_rfl) ?_
  refine W_tell (τ := i_plan_many_Rule_do_6ac.s1 p1 (p1.length : Int) 0 p2 []) {fz := [], gr := 1, ad := [.ownC 1 0 2 41 T4414], live := [1, 6, 7, 8], src := [some 0, some 1, some 2]} (by kernel_rfl) (by kernel_rfl) ?_
  exact D_loop (by kernel_rfl) k (i_plan_many_Rule_do_6ac.l1_ok hV k k p1 (p1.length : Int) 0 p2 [] H)
theorem i_plan_many_Rule_do_6ac.ok {r : i_plan_many_Rule_do_6ac.R} (k : Nat) (p1 : List T1383.T) (p2 : Int) (H : i_plan_many_Rule_do_6ac.f k p1 p2 = some r) : W P 2 i_plan_many_Rule_do_6ac.c0 (i_plan_many_Rule_do_6ac.s0 p1 p2) (CallQ 2 (i_plan_many_Rule_do_6ac.out r)) := i_plan_many_Rule_do_6ac.f_ok i_plan_many_Rule_do_6ac.V_ok k p1 p2 H
/-! ### f_plan_Adds: function 40, wayfinder/plan.Adds -/
abbrev f_plan_Adds.ps : Sg := [(false, (.int .i64)), (false, (.slice T1383))]
abbrev f_plan_Adds.rs : Sg := [(false, (.slice T4414))]
noncomputable def f_plan_Adds.c0 : Code := (Go.Proofs.Try.f40.body).getD .skip
noncomputable def f_plan_Adds.G : List (Nat × Spec) := []
noncomputable def f_plan_Adds.V : Env := { tt := tt, Γ := slk f_plan_Adds.G }
noncomputable abbrev f_plan_Adds.Q (r : Tup f_plan_Adds.rs) : Exit → St → Prop := Qr tt Go.Proofs.Try.f40.results ⟨f_plan_Adds.ps, f_plan_Adds.rs, .any, none, fun _ _ => True⟩ r
abbrev f_plan_Adds.R := Tup f_plan_Adds.rs
noncomputable def f_plan_Adds.f (k : Nat) (a1 : Int) (a2 : List T1383.T) : Option f_plan_Adds.R :=
  (i_plan_many_Rule_do_6ac.f k a2 a1).bind fun y1 =>
    some (y1.2.1, ())
noncomputable def f_plan_Adds.S : Spec := ⟨f_plan_Adds.ps, f_plan_Adds.rs, .any, none, fun x r => ∃ k, f_plan_Adds.f k x.1 x.2.1 = some r⟩
theorem f_plan_Adds.f_ok (hV : EnvOk P f_plan_Adds.V) {r : f_plan_Adds.R} (k : Nat) (a1 : Int) (a2 : List T1383.T) (H : f_plan_Adds.f k a1 a2 = some r) : W P 0 f_plan_Adds.c0 (⟨10, [(0, .cv (.one (.int .i64 a1))), (1, .cv (.one (.sl T1383 a2 .any)))], []⟩) (f_plan_Adds.Q r) := by
  unfold f_plan_Adds.f at H
  refine D_seq (by kernel_rfl) ?_
  refine D_reg (cs := []) (τ := ⟨10, [(1, .cv (.one (.sl T1383 a2 .any))), (2, .cv (.one (.ptr 0 0)))], [(.box 1, [.int .i64 a1])]⟩) hV 1 [(0, {sb := 0})] {live := [1, 2], src := [some 0]} (by kernel_rfl) (by kernel_rfl) trivial ?_
  refine th_n ?_
  refine D_seq (by kernel_rfl) ?_
  refine D_reg (cs := []) (τ := ⟨10, [(1, .cv (.one (.sl T1383 a2 .any))), (2, .cv (.one (.ptr 0 0))), (5, .cv (.one (.ptr 1 0)))], [(.box 1, [.int .i64 a1]), (.box 1, [.nils])]⟩) hV 1 [(0, {sb := 1})] {live := [1, 2, 5], src := [some 0, some 1]} (by kernel_rfl) (by kernel_rfl) trivial ?_
  refine th_n ?_
  refine D_seq (by kernel_rfl) ?_
  refine D_regI [0, 1, 2] (by kernel_rfl) (by kernel_rfl) ?_
  refine D_ev (cs := []) (τ := ⟨10, [(1, .cv (.one (.sl T1383 a2 .any))), (2, .cv (.one (.ptr 0 0))), (5, .cv (.one (.ptr 1 0))), (6, .cv (.one (.sl T1383 a2 .any))), (7, .cv (.one (.fn 60 [] [(1, 0), (0, 0)])))], [(.box 1, [.int .i64 a1]), (.box 1, [.nils])]⟩) hV 0 [] [0, 1] [2] rfl (by kernel_rfl) trivial ?_
  obtain ⟨y1, e2, H⟩ := of_bind H
  refine D_call (f := 59) (N := 2) (cvs := [.one (.sl T1383 a2 .any), .one (.fn 60 [] [(1, 0), (0, 0)])]) (σ0 := i_plan_many_Rule_do_6ac.s0 a2 a1) (τ := i_plan_many_Rule_do_6ac.out y1) (σ2 := ⟨10, [(1, .cv (.one (.sl T1383 a2 .any))), (2, .cv (.one (.ptr 0 0))), (5, .cv (.one (.ptr 1 0))), (6, .cv (.one (.sl T1383 a2 .any))), (7, .cv (.one (.fn 60 [] [(1, 0), (0, 0)]))), (8, .tup [])], [(.box 1, [.int .i64 y1.1]), (.box 1, [.own 2]), (.buf 41 T4414 y1.2.1, [])]⟩) hV 2 (by kernel_rfl) Go.Proofs.Try.func59 (by kernel_rfl) (by decide) (by kernel_rfl) (by kernel_rfl) (by kernel_rfl) (i_plan_many_Rule_do_6ac.ok k a2 a1 e2) (by kernel_rfl) ?_
  refine WO_tell (τ := ⟨10, [(5, .cv (.one (.ptr 0 0)))], [(.box 1, [.own 1]), (.buf 41 T4414 y1.2.1, [])]⟩) {live := [5], src := [some 1, some 2]} (by kernel_rfl) (by kernel_rfl) ?_
  refine WO_nil ?_
  refine th_n ?_
  refine D_seq (by kernel_rfl) ?_
  refine D_reg (cs := []) (τ := ⟨10, [(4, .cv (.one (.own 0)))], [(.buf 41 T4414 y1.2.1, [])]⟩) hV 0 [] {live := [4], src := [some 1]} (by kernel_rfl) (by kernel_rfl) trivial ?_
  refine th_n ?_
  refine D_ret (by kernel_rfl) ?_
  exact lf_r (Eq.trans (by kernel_rfl) H)
theorem f_plan_Adds.V_ok : EnvOk P f_plan_Adds.V := { ck := tt_ck, fits := slk_nil, mixed := mixed }
theorem f_plan_Adds.fits : Fits P 40 f_plan_Adds.S := fits_of f_plan_Adds.V_ok Go.Proofs.Try.func40 (by kernel_rfl) (by decide) (by decide) rfl (fun x r ⟨k, H⟩ => f_plan_Adds.f_ok f_plan_Adds.V_ok k x.1 x.2.1 H)
/-! ### i_plan_Sync_1_83e: function 39, wayfinder/plan.Sync$1, where it is called -/
noncomputable def i_plan_Sync_1_83e.c0 : Code := (Go.Proofs.Try.f39.body).getD .skip
noncomputable def i_plan_Sync_1_83e.G : List (Nat × Spec) := [(40, f_plan_Adds.S)]
noncomputable def i_plan_Sync_1_83e.V : Env := { tt := tt, Γ := slk i_plan_Sync_1_83e.G }
theorem i_plan_Sync_1_83e.V_ok : EnvOk P i_plan_Sync_1_83e.V := { ck := tt_ck, fits := slk_cons f_plan_Adds.fits (slk_nil), mixed := mixed }
abbrev i_plan_Sync_1_83e.R := (T814c.T) × (List T4414.T) × Unit
noncomputable def i_plan_Sync_1_83e.s0 (p1 : T814c.T) (p2 : T814c.T) (p3 : List T4414.T) : St := ⟨10, [(0, .cv (.agg [.int .i64 p1.1, .sl T1383 p1.2 .any])), (1, .cv (.one (.ptr 0 0)))], [(.box 1, [.own 2]), (.box 2, [.int .i64 p2.1, .sl T1383 p2.2 .any]), (.buf 41 T4414 p3, [])]⟩
noncomputable def i_plan_Sync_1_83e.out (r : i_plan_Sync_1_83e.R) : St := ⟨10, [], [(.box 1, [.own 3]), (.box 2, [.int .i64 r.1.1, .sl T1383 r.1.2 .any]), (.dead, []), (.buf 41 T4414 r.2.1, [])]⟩
abbrev i_plan_Sync_1_83e.Q (r : i_plan_Sync_1_83e.R) := CallQ 3 (i_plan_Sync_1_83e.out r)
noncomputable def i_plan_Sync_1_83e.f (k : Nat) (p1 : T814c.T) (p2 : T814c.T) (p3 : List T4414.T) : Option i_plan_Sync_1_83e.R :=
  (f_plan_Adds.f k p1.1 p1.2).bind fun y1 =>
    if (p3.length + y1.1.length) * 80 ≤ 140737488355328 then
      some (p2, ((p3 ++ y1.1), ()))
    else none
theorem i_plan_Sync_1_83e.f_ok (hV : EnvOk P i_plan_Sync_1_83e.V) {r : i_plan_Sync_1_83e.R} (k : Nat) (p1 : T814c.T) (p2 : T814c.T) (p3 : List T4414.T) (H : i_plan_Sync_1_83e.f k p1 p2 p3 = some r) : W P 3 i_plan_Sync_1_83e.c0 (⟨10, [(0, .cv (.agg [.int .i64 p1.1, .sl T1383 p1.2 .any])), (1, .cv (.one (.ptr 0 0)))], [(.box 1, [.own 2]), (.box 2, [.int .i64 p2.1, .sl T1383 p2.2 .any]), (.buf 41 T4414 p3, [])]⟩) (i_plan_Sync_1_83e.Q r) := by
  unfold i_plan_Sync_1_83e.f at H
  refine D_seq (by kernel_rfl) ?_
  refine D_reg (cs := []) (τ := ⟨10, [(1, .cv (.one (.ptr 0 0))), (2, .cv (.one (.ptr 3 0)))], [(.box 1, [.own 2]), (.box 2, [.int .i64 p2.1, .sl T1383 p2.2 .any]), (.buf 41 T4414 p3, []), (.box 2, [.int .i64 p1.1, .sl T1383 p1.2 .any])]⟩) hV 1 [(0, {sb := 3})] {live := [1, 2], src := [some 0, some 1, some 2, some 3]} (by kernel_rfl) (by kernel_rfl) trivial ?_
  refine th_n ?_
  obtain ⟨y1, e2, H⟩ := of_bind H
  obtain ⟨n3, H⟩ := of_if H
  refine D_reg (cs := [f_plan_Adds.S.rel (p1.1, p1.2, ()) y1, (p3.length + y1.1.length) * 80 ≤ 140737488355328]) (τ := ⟨10, [], [(.box 1, [.own 3]), (.box 2, [.int .i64 p2.1, .sl T1383 p2.2 .any]), (.dead, []), (.buf 41 T4414 (p3 ++ y1.1), [])]⟩) hV 1 [(5, {res := some ⟨f_plan_Adds.S.rs, y1⟩}), (6, {sb := 4})] {live := [], src := [some 0, some 1, some 2, some 4]} (by kernel_rfl) (by kernel_rfl) ⟨⟨k, e2⟩, n3, trivial⟩ ?_
  obtain rfl := Option.some.inj H
  exact cq_n {fz := [], gr := 0, ad := [], live := [], src := [some 0, some 1, some 2, some 3]} (by kernel_rfl) (by kernel_rfl)
theorem i_plan_Sync_1_83e.ok {r : i_plan_Sync_1_83e.R} (k : Nat) (p1 : T814c.T) (p2 : T814c.T) (p3 : List T4414.T) (H : i_plan_Sync_1_83e.f k p1 p2 p3 = some r) : W P 3 i_plan_Sync_1_83e.c0 (i_plan_Sync_1_83e.s0 p1 p2 p3) (CallQ 3 (i_plan_Sync_1_83e.out r)) := i_plan_Sync_1_83e.f_ok i_plan_Sync_1_83e.V_ok k p1 p2 p3 H
/-! ### i_plan_many_Ver_do_f88: function 38, (wayfinder/plan.many[wayfinder/api.Ver]).do, where it is called -/
noncomputable def i_plan_many_Ver_do_f88.c0 : Code := (Go.Proofs.Try.f38.body).getD .skip
noncomputable def i_plan_many_Ver_do_f88.G : List (Nat × Spec) := []
noncomputable def i_plan_many_Ver_do_f88.V : Env := { tt := tt, Γ := slk i_plan_many_Ver_do_f88.G }
theorem i_plan_many_Ver_do_f88.V_ok : EnvOk P i_plan_many_Ver_do_f88.V := { ck := tt_ck, fits := slk_nil, mixed := mixed }
abbrev i_plan_many_Ver_do_f88.R := (List T4414.T) × Unit
noncomputable def i_plan_many_Ver_do_f88.s0 (p1 : List T814c.T) : St := ⟨16, [(0, .cv (.one (.sl T814c p1 .any))), (1, .cv (.one (.fn 39 [] [(0, 0)])))], [(.box 1, [.nils])]⟩
noncomputable def i_plan_many_Ver_do_f88.out (r : i_plan_many_Ver_do_f88.R) : St := ⟨16, [], [(.box 1, [.own 1]), (.buf 41 T4414 r.1, [])]⟩
abbrev i_plan_many_Ver_do_f88.Q (r : i_plan_many_Ver_do_f88.R) := CallQ 1 (i_plan_many_Ver_do_f88.out r)
noncomputable def i_plan_many_Ver_do_f88.s1 (p1 : List T814c.T) (p2 : Int) (p3 : Int) (p4 : List T4414.T) : St := ⟨16, [(1, .cv (.one (.fn 39 [] [(0, 0)]))), (6, .cv (.one (.sl T814c p1 .any))), (7, .cv (.one (.int .i64 p2))), (8, .cv (.one (.int .i64 p3)))], [(.box 1, [.own 1]), (.buf 41 T4414 p4, [])]⟩
noncomputable def i_plan_many_Ver_do_f88.b1 (L1 : List T814c.T → Int → Int → List T4414.T → Option i_plan_many_Ver_do_f88.R) (k : Nat) (p1 : List T814c.T) (p2 : Int) (p3 : Int) (p4 : List T4414.T) : Option i_plan_many_Ver_do_f88.R :=
  if (decide (p3 < p2)) = true then
  if 0 ≤ p3 then
    if p3 < (p1.length : Int) then
      (i_plan_Sync_1_83e.f k (att T814c p1 p3) (att T814c p1 p3) p4).bind fun y4 =>
        L1 p1 p2 (IntKind.i64.wrap (p3 + 1)) y4.2.1
    else none
  else none
else
  some (p4, ())
theorem i_plan_many_Ver_do_f88.b1_ok (hV : EnvOk P i_plan_many_Ver_do_f88.V) {r : i_plan_many_Ver_do_f88.R} (L1 : List T814c.T → Int → Int → List T4414.T → Option i_plan_many_Ver_do_f88.R) (m1 : Nat) (hL1 : ∀ (p1 : List T814c.T) (p2 : Int) (p3 : Int) (p4 : List T4414.T), L1 p1 p2 p3 p4 = some r → WL P 1 (Code.l (Code.l (Code.r i_plan_many_Ver_do_f88.c0))) (blockW 0 (i_plan_many_Ver_do_f88.Q r)) m1 (i_plan_many_Ver_do_f88.s1 p1 p2 p3 p4)) (k : Nat) (p1 : List T814c.T) (p2 : Int) (p3 : Int) (p4 : List T4414.T) (H : i_plan_many_Ver_do_f88.b1 L1 k p1 p2 p3 p4 = some r) : W P 1 (Code.l (Code.l (Code.r i_plan_many_Ver_do_f88.c0))) (i_plan_many_Ver_do_f88.s1 p1 p2 p3 p4) (roundW P 1 (Code.l (Code.l (Code.r i_plan_many_Ver_do_f88.c0))) (blockW 0 (i_plan_many_Ver_do_f88.Q r)) m1) := by
  unfold i_plan_many_Ver_do_f88.b1 at H
  refine D_seq (by kernel_rfl) ?_
  refine D_reg (cs := []) (τ := ⟨16, [(1, .cv (.one (.fn 39 [] [(0, 0)]))), (6, .cv (.one (.sl T814c p1 .any))), (7, .cv (.one (.int .i64 p2))), (8, .cv (.one (.int .i64 p3))), (9, .cv (.one (.bool (decide (p3 < p2)))))], [(.box 1, [.own 1]), (.buf 41 T4414 p4, [])]⟩) hV 0 [] {live := [1, 6, 7, 8, 9], src := [some 0, some 1]} (by kernel_rfl) (by kernel_rfl) trivial ?_
  refine th_n ?_
  refine D_seq (by kernel_rfl) ?_
  refine D_condB (t := 9) (b := (decide (p3 < p2))) (by kernel_rfl) (by kernel_rfl) (fun hb1 => ?_) (fun hb1 => ?_)
  · rw [if_pos hb1] at H
    refine D_skip (by kernel_rfl) ?_
    refine th_n ?_
    refine D_seq (by kernel_rfl) ?_
    refine D_block (id := 1) (by kernel_rfl) ?_
    refine D_seq (by kernel_rfl) ?_
    obtain ⟨n2, H⟩ := of_if H
    obtain ⟨n3, H⟩ := of_if H
    refine D_reg (cs := [0 ≤ p3, p3 < (p1.length : Int)]) (τ := ⟨16, [(1, .cv (.one (.fn 39 [] [(0, 0)]))), (5, .cv (.one (.ptr 1 0))), (6, .cv (.one (.sl T814c p1 .any))), (7, .cv (.one (.int .i64 p2))), (8, .cv (.one (.int .i64 p3)))], [(.box 1, [.own 2]), (.box 2, [.int .i64 ((att T814c p1 p3).1), .sl T1383 ((att T814c p1 p3).2) .any]), (.buf 41 T4414 p4, [])]⟩) hV 1 [(2, {sb := 2})] {live := [1, 5, 6, 7, 8], src := [some 0, some 2, some 1]} (by kernel_rfl) (by kernel_rfl) ⟨n2, n3, trivial⟩ ?_
    refine th_n ?_
    refine D_regI [0, 1, 2] (by kernel_rfl) (by kernel_rfl) ?_
    refine D_ev (cs := []) (τ := ⟨16, [(1, .cv (.one (.fn 39 [] [(0, 0)]))), (5, .cv (.one (.ptr 1 0))), (6, .cv (.one (.sl T814c p1 .any))), (7, .cv (.one (.int .i64 p2))), (8, .cv (.one (.int .i64 p3))), (12, .cv (.one (.fn 39 [] [(0, 0)]))), (13, .cv (.agg [.int .i64 ((att T814c p1 p3).1), .sl T1383 ((att T814c p1 p3).2) .any]))], [(.box 1, [.own 2]), (.box 2, [.int .i64 ((att T814c p1 p3).1), .sl T1383 ((att T814c p1 p3).2) .any]), (.buf 41 T4414 p4, [])]⟩) hV 0 [] [0, 1] [2] rfl (by kernel_rfl) trivial ?_
    obtain ⟨y4, e5, H⟩ := of_bind H
    refine D_call (f := 39) (N := 3) (cvs := [.agg [.int .i64 ((att T814c p1 p3).1), .sl T1383 ((att T814c p1 p3).2) .any], .one (.ptr 0 0)]) (σ0 := i_plan_Sync_1_83e.s0 (att T814c p1 p3) (att T814c p1 p3) p4) (τ := i_plan_Sync_1_83e.out y4) (σ2 := ⟨16, [(1, .cv (.one (.fn 39 [] [(0, 0)]))), (5, .cv (.one (.ptr 1 0))), (6, .cv (.one (.sl T814c p1 .any))), (7, .cv (.one (.int .i64 p2))), (8, .cv (.one (.int .i64 p3))), (12, .cv (.one (.fn 39 [] [(0, 0)]))), (13, .cv (.agg [.int .i64 ((att T814c p1 p3).1), .sl T1383 ((att T814c p1 p3).2) .any])), (14, .tup [])], [(.box 1, [.own 3]), (.box 2, [.int .i64 y4.1.1, .sl T1383 y4.1.2 .any]), (.dead, []), (.buf 41 T4414 y4.2.1, [])]⟩) hV 2 (by kernel_rfl) Go.Proofs.Try.func39 (by kernel_rfl) (by decide) (by kernel_rfl) (by kernel_rfl) (by kernel_rfl) (i_plan_Sync_1_83e.ok k (att T814c p1 p3) (att T814c p1 p3) p4 e5) (by kernel_rfl) ?_
    refine WO_tell (τ := ⟨16, [(1, .cv (.one (.fn 39 [] [(0, 0)]))), (6, .cv (.one (.sl T814c p1 .any))), (7, .cv (.one (.int .i64 p2))), (8, .cv (.one (.int .i64 p3)))], [(.box 1, [.own 1]), (.buf 41 T4414 y4.2.1, [])]⟩) {live := [1, 6, 7, 8], src := [some 0, some 3]} (by kernel_rfl) (by kernel_rfl) ?_
    refine WO_nil ?_
    refine bl_n ?_
    refine th_n ?_
    refine D_reg (cs := []) (τ := ⟨16, [(1, .cv (.one (.fn 39 [] [(0, 0)]))), (6, .cv (.one (.sl T814c p1 .any))), (7, .cv (.one (.int .i64 p2))), (8, .cv (.one (.int .i64 (IntKind.i64.wrap (p3 + 1)))))], [(.box 1, [.own 1]), (.buf 41 T4414 y4.2.1, [])]⟩) hV 0 [] {live := [1, 6, 7, 8], src := [some 0, some 1]} (by kernel_rfl) (by kernel_rfl) trivial ?_
    refine ro_n (WL_tell (τ := i_plan_many_Ver_do_f88.s1 p1 p2 (IntKind.i64.wrap (p3 + 1)) y4.2.1) {fz := [], gr := 0, ad := [], live := [1, 6, 7, 8], src := [some 0, some 1]} (by kernel_rfl) (by kernel_rfl) ?_)
    exact hL1 p1 p2 (IntKind.i64.wrap (p3 + 1)) y4.2.1 H
  · rw [if_neg (by rw [hb1]; decide)] at H
    refine D_exit (id := 0) (by kernel_rfl) ?_
    refine th_x ?_
    refine ro_x ?_
    refine bl_h ?_
    obtain rfl := Option.some.inj H
    exact cq_n {fz := [], gr := 0, ad := [], live := [], src := [some 0, some 1]} (by kernel_rfl) (by kernel_rfl)
noncomputable def i_plan_many_Ver_do_f88.l1 (k : Nat) : Nat → List T814c.T → Int → Int → List T4414.T → Option i_plan_many_Ver_do_f88.R
  | 0, _, _, _, _ => none
  | m + 1, p1, p2, p3, p4 => i_plan_many_Ver_do_f88.b1 (i_plan_many_Ver_do_f88.l1 k m) k p1 p2 p3 p4
theorem i_plan_many_Ver_do_f88.l1_ok (hV : EnvOk P i_plan_many_Ver_do_f88.V) {r : i_plan_many_Ver_do_f88.R} (k : Nat) : ∀ (m1 : Nat) (p1 : List T814c.T) (p2 : Int) (p3 : Int) (p4 : List T4414.T), i_plan_many_Ver_do_f88.l1 k m1 p1 p2 p3 p4 = some r → WL P 1 (Code.l (Code.l (Code.r i_plan_many_Ver_do_f88.c0))) (blockW 0 (i_plan_many_Ver_do_f88.Q r)) m1 (i_plan_many_Ver_do_f88.s1 p1 p2 p3 p4)
  | 0, _, _, _, _, H => by cases H
  | m1 + 1, p1, p2, p3, p4, H => WL_succ (i_plan_many_Ver_do_f88.b1_ok hV (i_plan_many_Ver_do_f88.l1 k m1) m1 (fun p1 p2 p3 p4 H => i_plan_many_Ver_do_f88.l1_ok hV k m1 p1 p2 p3 p4 H) k p1 p2 p3 p4 H)
noncomputable def i_plan_many_Ver_do_f88.f (k : Nat) (p1 : List T814c.T) : Option i_plan_many_Ver_do_f88.R :=
  i_plan_many_Ver_do_f88.l1 k k p1 (p1.length : Int) 0 []
theorem i_plan_many_Ver_do_f88.f_ok (hV : EnvOk P i_plan_many_Ver_do_f88.V) {r : i_plan_many_Ver_do_f88.R} (k : Nat) (p1 : List T814c.T) (H : i_plan_many_Ver_do_f88.f k p1 = some r) : W P 1 i_plan_many_Ver_do_f88.c0 (⟨16, [(0, .cv (.one (.sl T814c p1 .any))), (1, .cv (.one (.fn 39 [] [(0, 0)])))], [(.box 1, [.nils])]⟩) (i_plan_many_Ver_do_f88.Q r) := by
  unfold i_plan_many_Ver_do_f88.f at H
  refine D_seq (by kernel_rfl) ?_
  refine D_reg (cs := []) (τ := ⟨16, [(1, .cv (.one (.fn 39 [] [(0, 0)]))), (6, .cv (.one (.sl T814c p1 .any))), (7, .cv (.one (.int .i64 (p1.length : Int)))), (8, .cv (.one (.int .i64 0)))], [(.box 1, [.nils])]⟩) hV 0 [] {live := [1, 6, 7, 8], src := [some 0]} (by kernel_rfl) (by kernel_rfl) trivial ?_
  refine th_n ?_
  refine D_block (id := 0) (by kernel_rfl) ?_
  refine W_tell (τ := i_plan_many_Ver_do_f88.s1 p1 (p1.length : Int) 0 []) {fz := [], gr := 1, ad := [.ownC 0 0 1 41 T4414], live := [1, 6, 7, 8], src := [some 0, some 1]} (by kernel_rfl) (by kernel_rfl) ?_
  exact D_loop (by kernel_rfl) k (i_plan_many_Ver_do_f88.l1_ok hV k k p1 (p1.length : Int) 0 [] H)
theorem i_plan_many_Ver_do_f88.ok {r : i_plan_many_Ver_do_f88.R} (k : Nat) (p1 : List T814c.T) (H : i_plan_many_Ver_do_f88.f k p1 = some r) : W P 1 i_plan_many_Ver_do_f88.c0 (i_plan_many_Ver_do_f88.s0 p1) (CallQ 1 (i_plan_many_Ver_do_f88.out r)) := i_plan_many_Ver_do_f88.f_ok i_plan_many_Ver_do_f88.V_ok k p1 H
/-! ### f_plan_Sync: function 19, wayfinder/plan.Sync -/
abbrev f_plan_Sync.ps : Sg := [(false, (.slice T814c)), (false, (.int .i64))]
abbrev f_plan_Sync.rs : Sg := [(false, (.slice T4414))]
noncomputable def f_plan_Sync.c0 : Code := (Go.Proofs.Try.f19.body).getD .skip
noncomputable def f_plan_Sync.G : List (Nat × Spec) := []
noncomputable def f_plan_Sync.V : Env := { tt := tt, Γ := slk f_plan_Sync.G }
noncomputable abbrev f_plan_Sync.Q (r : Tup f_plan_Sync.rs) : Exit → St → Prop := Qr tt Go.Proofs.Try.f19.results ⟨f_plan_Sync.ps, f_plan_Sync.rs, .any, none, fun _ _ => True⟩ r
abbrev f_plan_Sync.R := Tup f_plan_Sync.rs
noncomputable def f_plan_Sync.f (k : Nat) (a1 : List T814c.T) (a2 : Int) : Option f_plan_Sync.R :=
  (i_plan_many_Ver_do_f88.f k a1).bind fun y1 =>
    if (y1.1.length + 2) * 80 ≤ 140737488355328 then
      some ((y1.1 ++ [(3, (0, (0, (a2, ((0, 0), (0, (0, (0, 0)))))))), (5, (0, (0, (0, ((0, 0), (0, (0, (0, 0))))))))]), ())
    else none
noncomputable def f_plan_Sync.S : Spec := ⟨f_plan_Sync.ps, f_plan_Sync.rs, .any, none, fun x r => ∃ k, f_plan_Sync.f k x.1 x.2.1 = some r⟩
theorem f_plan_Sync.f_ok (hV : EnvOk P f_plan_Sync.V) {r : f_plan_Sync.R} (k : Nat) (a1 : List T814c.T) (a2 : Int) (H : f_plan_Sync.f k a1 a2 = some r) : W P 0 f_plan_Sync.c0 (⟨15, [(0, .cv (.one (.sl T814c a1 .any))), (1, .cv (.one (.int .i64 a2)))], []⟩) (f_plan_Sync.Q r) := by
  unfold f_plan_Sync.f at H
  refine D_seq (by kernel_rfl) ?_
  refine D_reg (cs := []) (τ := ⟨15, [(0, .cv (.one (.sl T814c a1 .any))), (1, .cv (.one (.int .i64 a2)))], []⟩) hV 0 [] {live := [0, 1], src := []} (by kernel_rfl) (by kernel_rfl) trivial ?_
  refine th_n ?_
  refine D_seq (by kernel_rfl) ?_
  refine D_reg (cs := []) (τ := ⟨15, [(0, .cv (.one (.sl T814c a1 .any))), (1, .cv (.one (.int .i64 a2))), (5, .cv (.one (.ptr 0 0)))], [(.box 1, [.nils])]⟩) hV 1 [(0, {sb := 0})] {live := [0, 1, 5], src := [some 0]} (by kernel_rfl) (by kernel_rfl) trivial ?_
  refine th_n ?_
  refine D_seq (by kernel_rfl) ?_
  refine D_regI [0, 1, 2] (by kernel_rfl) (by kernel_rfl) ?_
  refine D_ev (cs := []) (τ := ⟨15, [(0, .cv (.one (.sl T814c a1 .any))), (1, .cv (.one (.int .i64 a2))), (5, .cv (.one (.ptr 0 0))), (6, .cv (.one (.sl T814c a1 .any))), (7, .cv (.one (.fn 39 [] [(0, 0)])))], [(.box 1, [.nils])]⟩) hV 0 [] [0, 1] [2] rfl (by kernel_rfl) trivial ?_
  obtain ⟨y1, e2, H⟩ := of_bind H
  refine D_call (f := 38) (N := 1) (cvs := [.one (.sl T814c a1 .any), .one (.fn 39 [] [(0, 0)])]) (σ0 := i_plan_many_Ver_do_f88.s0 a1) (τ := i_plan_many_Ver_do_f88.out y1) (σ2 := ⟨15, [(0, .cv (.one (.sl T814c a1 .any))), (1, .cv (.one (.int .i64 a2))), (5, .cv (.one (.ptr 0 0))), (6, .cv (.one (.sl T814c a1 .any))), (7, .cv (.one (.fn 39 [] [(0, 0)]))), (8, .tup [])], [(.box 1, [.own 1]), (.buf 41 T4414 y1.1, [])]⟩) hV 2 (by kernel_rfl) Go.Proofs.Try.func38 (by kernel_rfl) (by decide) (by kernel_rfl) (by kernel_rfl) (by kernel_rfl) (i_plan_many_Ver_do_f88.ok k a1 e2) (by kernel_rfl) ?_
  refine WO_tell (τ := ⟨15, [(1, .cv (.one (.int .i64 a2))), (5, .cv (.one (.ptr 0 0)))], [(.box 1, [.own 1]), (.buf 41 T4414 y1.1, [])]⟩) {live := [1, 5], src := [some 0, some 1]} (by kernel_rfl) (by kernel_rfl) ?_
  refine WO_nil ?_
  refine th_n ?_
  refine D_seq (by kernel_rfl) ?_
  obtain ⟨n3, H⟩ := of_if H
  refine D_reg (cs := [(y1.1.length + 2) * 80 ≤ 140737488355328]) (τ := ⟨15, [(4, .cv (.one (.own 0)))], [(.buf 41 T4414 (y1.1 ++ [(3, (0, (0, (a2, ((0, 0), (0, (0, (0, 0)))))))), (5, (0, (0, (0, ((0, 0), (0, (0, (0, 0))))))))]), [])]⟩) hV 1 [(5, {sb := 2})] {live := [4], src := [some 2]} (by kernel_rfl) (by kernel_rfl) ⟨n3, trivial⟩ ?_
  refine th_n ?_
  refine D_ret (by kernel_rfl) ?_
  exact lf_r (Eq.trans (by kernel_rfl) H)
theorem f_plan_Sync.V_ok : EnvOk P f_plan_Sync.V := { ck := tt_ck, fits := slk_nil, mixed := mixed }
theorem f_plan_Sync.fits : Fits P 19 f_plan_Sync.S := fits_of f_plan_Sync.V_ok Go.Proofs.Try.func19 (by kernel_rfl) (by decide) (by decide) rfl (fun x r ⟨k, H⟩ => f_plan_Sync.f_ok f_plan_Sync.V_ok k x.1 x.2.1 H)
/-! ### f_law20_awake: function 17, wayfinder/wayfinderlaw20.awake -/
abbrev f_law20_awake.ps : Sg := []
abbrev f_law20_awake.rs : Sg := [(false, .bool)]
noncomputable def f_law20_awake.c0 : Code := (Go.Proofs.Try.f17.body).getD .skip
noncomputable def f_law20_awake.G : List (Nat × Spec) := [(19, f_plan_Sync.S)]
noncomputable def f_law20_awake.V : Env := { tt := tt, Γ := slk f_law20_awake.G }
noncomputable abbrev f_law20_awake.Q (r : Tup f_law20_awake.rs) : Exit → St → Prop := Qr tt Go.Proofs.Try.f17.results ⟨f_law20_awake.ps, f_law20_awake.rs, .any, none, fun _ _ => True⟩ r
abbrev f_law20_awake.R := Tup f_law20_awake.rs
noncomputable def f_law20_awake.f (k : Nat) : Option f_law20_awake.R :=
  (f_plan_Sync.f k [(3, [((0, 0), (-1, (0, (0, 0))))])] (3 : Int)).bind fun y1 =>
    if ((y1.1.length : Int) == (3 : Int)) = true then
      if (0 : Int) < (y1.1.length : Int) then
        if (((att T4414 y1.1 0).1) == (2 : Int)) = true then
          if ((((((att T4414 y1.1 0).2).2).2).1) == (3 : Int)) = true then
            if (1 : Int) < (y1.1.length : Int) then
              if (((att T4414 y1.1 1).1) == (3 : Int)) = true then
                if (2 : Int) < (y1.1.length : Int) then
                  some ((((att T4414 y1.1 2).1) == (5 : Int)), ())
                else none
              else
                some (false, ())
            else none
          else
            some (false, ())
        else
          some (false, ())
      else none
    else
      some (false, ())
noncomputable def f_law20_awake.S : Spec := ⟨f_law20_awake.ps, f_law20_awake.rs, .any, none, fun x r => ∃ k, f_law20_awake.f k = some r⟩
theorem f_law20_awake.f_ok (hV : EnvOk P f_law20_awake.V) {r : f_law20_awake.R} (k : Nat) (H : f_law20_awake.f k = some r) : W P 0 f_law20_awake.c0 (⟨38, [], []⟩) (f_law20_awake.Q r) := by
  unfold f_law20_awake.f at H
  refine D_seq (by kernel_rfl) ?_
  refine D_reg (cs := []) (τ := ⟨38, [], []⟩) hV 0 [] {live := [], src := []} (by kernel_rfl) (by kernel_rfl) trivial ?_
  refine th_n ?_
  refine D_seq (by kernel_rfl) ?_
  obtain ⟨y1, e2, H⟩ := of_bind H
  refine D_reg (cs := [f_plan_Sync.S.rel ([(3, [((0, 0), (-1, (0, (0, 0))))])], 3, ()) y1]) (τ := ⟨38, [(1, .cv (.one (.sl T4414 y1.1 .any)))], []⟩) hV 0 [(4, {res := some ⟨f_plan_Sync.S.rs, y1⟩})] {live := [1], src := []} (by kernel_rfl) (by kernel_rfl) ⟨⟨k, e2⟩, trivial⟩ ?_
  refine th_n ?_
  refine D_seq (by kernel_rfl) ?_
  rcases of_ite H with ⟨hb3, H⟩ | ⟨hb3, H⟩
  · obtain ⟨n4, H⟩ := of_if H
    rcases of_ite H with ⟨hb5, H⟩ | ⟨hb5, H⟩
    · rcases of_ite H with ⟨hb6, H⟩ | ⟨hb6, H⟩
      · obtain ⟨n7, H⟩ := of_if H
        rcases of_ite H with ⟨hb8, H⟩ | ⟨hb8, H⟩
        · obtain ⟨n9, H⟩ := of_if H
          refine D_reg (cs := [(((y1.1.length : Int) == (3 : Int))) = true, 0 ≤ (0 : Int), (0 : Int) < (y1.1.length : Int), ((((att T4414 y1.1 0).1) == (2 : Int))) = true, 0 ≤ (0 : Int), (0 : Int) < (y1.1.length : Int), (((((((att T4414 y1.1 0).2).2).2).1) == (3 : Int))) = true, 0 ≤ (1 : Int), (1 : Int) < (y1.1.length : Int), ((((att T4414 y1.1 1).1) == (3 : Int))) = true, 0 ≤ (2 : Int), (2 : Int) < (y1.1.length : Int)]) (τ := ⟨38, [(0, .cv (.one (.bool (((att T4414 y1.1 2).1) == (5 : Int)))))], []⟩) hV 0 [(2, {bv := some true}), (9, {bv := some true}), (16, {bv := some true}), (23, {bv := some true})] {live := [0], src := []} (by kernel_rfl) (by kernel_rfl) ⟨hb3, (by decide), n4, hb5, (by decide), n4, hb6, (by decide), n7, hb8, (by decide), n9, trivial⟩ ?_
          refine th_n ?_
          refine D_ret (by kernel_rfl) ?_
          exact lf_r (Eq.trans (by kernel_rfl) H)
        · refine D_reg (cs := [(((y1.1.length : Int) == (3 : Int))) = true, 0 ≤ (0 : Int), (0 : Int) < (y1.1.length : Int), ((((att T4414 y1.1 0).1) == (2 : Int))) = true, 0 ≤ (0 : Int), (0 : Int) < (y1.1.length : Int), (((((((att T4414 y1.1 0).2).2).2).1) == (3 : Int))) = true, 0 ≤ (1 : Int), (1 : Int) < (y1.1.length : Int), ((((att T4414 y1.1 1).1) == (3 : Int))) = false]) (τ := ⟨38, [(0, .cv (.one (.bool false)))], []⟩) hV 0 [(2, {bv := some true}), (9, {bv := some true}), (16, {bv := some true}), (23, {bv := some false})] {live := [0], src := []} (by kernel_rfl) (by kernel_rfl) ⟨hb3, (by decide), n4, hb5, (by decide), n4, hb6, (by decide), n7, hb8, trivial⟩ ?_
          refine th_n ?_
          refine D_ret (by kernel_rfl) ?_
          exact lf_r (Eq.trans (by kernel_rfl) H)
      · refine D_reg (cs := [(((y1.1.length : Int) == (3 : Int))) = true, 0 ≤ (0 : Int), (0 : Int) < (y1.1.length : Int), ((((att T4414 y1.1 0).1) == (2 : Int))) = true, 0 ≤ (0 : Int), (0 : Int) < (y1.1.length : Int), (((((((att T4414 y1.1 0).2).2).2).1) == (3 : Int))) = false]) (τ := ⟨38, [(0, .cv (.one (.bool false)))], []⟩) hV 0 [(2, {bv := some true}), (9, {bv := some true}), (16, {bv := some false})] {live := [0], src := []} (by kernel_rfl) (by kernel_rfl) ⟨hb3, (by decide), n4, hb5, (by decide), n4, hb6, trivial⟩ ?_
        refine th_n ?_
        refine D_ret (by kernel_rfl) ?_
        exact lf_r (Eq.trans (by kernel_rfl) H)
    · refine D_reg (cs := [(((y1.1.length : Int) == (3 : Int))) = true, 0 ≤ (0 : Int), (0 : Int) < (y1.1.length : Int), ((((att T4414 y1.1 0).1) == (2 : Int))) = false]) (τ := ⟨38, [(0, .cv (.one (.bool false)))], []⟩) hV 0 [(2, {bv := some true}), (9, {bv := some false})] {live := [0], src := []} (by kernel_rfl) (by kernel_rfl) ⟨hb3, (by decide), n4, hb5, trivial⟩ ?_
      refine th_n ?_
      refine D_ret (by kernel_rfl) ?_
      exact lf_r (Eq.trans (by kernel_rfl) H)
  · refine D_reg (cs := [(((y1.1.length : Int) == (3 : Int))) = false]) (τ := ⟨38, [(0, .cv (.one (.bool false)))], []⟩) hV 0 [(2, {bv := some false})] {live := [0], src := []} (by kernel_rfl) (by kernel_rfl) ⟨hb3, trivial⟩ ?_
    refine th_n ?_
    refine D_ret (by kernel_rfl) ?_
    exact lf_r (Eq.trans (by kernel_rfl) H)
theorem f_law20_awake.V_ok : EnvOk P f_law20_awake.V := { ck := tt_ck, fits := slk_cons f_plan_Sync.fits (slk_nil), mixed := mixed }
theorem f_law20_awake.fits : Fits P 17 f_law20_awake.S := fits_of f_law20_awake.V_ok Go.Proofs.Try.func17 (by kernel_rfl) (by decide) (by decide) rfl (fun x r ⟨k, H⟩ => f_law20_awake.f_ok f_law20_awake.V_ok k H)
/-! ### f_law09_Few: function 18, wayfinder/wayfinderlaw09.Few -/
abbrev f_law09_Few.ps : Sg := [(false, (.slice T814c))]
abbrev f_law09_Few.rs : Sg := [(false, .bool)]
noncomputable def f_law09_Few.c0 : Code := (Go.Proofs.Try.f18.body).getD .skip
noncomputable def f_law09_Few.G : List (Nat × Spec) := []
noncomputable def f_law09_Few.V : Env := { tt := tt, Γ := slk f_law09_Few.G }
noncomputable abbrev f_law09_Few.Q (r : Tup f_law09_Few.rs) : Exit → St → Prop := Qr tt Go.Proofs.Try.f18.results ⟨f_law09_Few.ps, f_law09_Few.rs, .any, none, fun _ _ => True⟩ r
abbrev f_law09_Few.R := Tup f_law09_Few.rs
noncomputable def f_law09_Few.s1 (p1 : List T814c.T) (p2 : Int) : St := ⟨20, [(0, .cv (.one (.sl T814c p1 .any))), (3, .cv (.one (.int .i64 p2)))], []⟩
noncomputable def f_law09_Few.b1 (L1 : List T814c.T → Int → Option f_law09_Few.R) (k : Nat) (p1 : List T814c.T) (p2 : Int) : Option f_law09_Few.R :=
  if (decide (p2 < (p1.length : Int))) = true then
  if 0 ≤ p2 then
    if p2 < (p1.length : Int) then
      if (decide ((((att T814c p1 p2).2).length : Int) > (60 : Int))) = true then
        some (false, ())
      else
        L1 p1 (IntKind.i64.wrap (p2 + 1))
    else none
  else none
else
  some (true, ())
theorem f_law09_Few.b1_ok (hV : EnvOk P f_law09_Few.V) {r : f_law09_Few.R} (L1 : List T814c.T → Int → Option f_law09_Few.R) (m1 : Nat) (hL1 : ∀ (p1 : List T814c.T) (p2 : Int), L1 p1 p2 = some r → WL P 0 (Code.l (Code.l (Code.r (Code.l (Code.r (Code.r f_law09_Few.c0)))))) (blockW 0 (thenW P 0 (Code.r (Code.r (Code.r f_law09_Few.c0))) (f_law09_Few.Q r))) m1 (f_law09_Few.s1 p1 p2)) (k : Nat) (p1 : List T814c.T) (p2 : Int) (H : f_law09_Few.b1 L1 k p1 p2 = some r) : W P 0 (Code.l (Code.l (Code.r (Code.l (Code.r (Code.r f_law09_Few.c0)))))) (f_law09_Few.s1 p1 p2) (roundW P 0 (Code.l (Code.l (Code.r (Code.l (Code.r (Code.r f_law09_Few.c0)))))) (blockW 0 (thenW P 0 (Code.r (Code.r (Code.r f_law09_Few.c0))) (f_law09_Few.Q r))) m1) := by
  unfold f_law09_Few.b1 at H
  refine D_seq (by kernel_rfl) ?_
  refine D_seq (by kernel_rfl) ?_
  refine D_reg (cs := []) (τ := ⟨20, [(0, .cv (.one (.sl T814c p1 .any))), (3, .cv (.one (.int .i64 p2))), (10, .cv (.one (.bool (decide (p2 < (p1.length : Int))))))], []⟩) hV 0 [] {live := [0, 3, 10], src := []} (by kernel_rfl) (by kernel_rfl) trivial ?_
  refine th_n ?_
  refine D_condB (t := 10) (b := (decide (p2 < (p1.length : Int)))) (by kernel_rfl) (by kernel_rfl) (fun hb2 => ?_) (fun hb2 => ?_)
  · rw [if_pos hb2] at H
    refine D_skip (by kernel_rfl) ?_
    refine th_n ?_
    refine D_seq (by kernel_rfl) ?_
    refine D_block (id := 1) (by kernel_rfl) ?_
    refine D_seq (by kernel_rfl) ?_
    obtain ⟨n3, H⟩ := of_if H
    obtain ⟨n4, H⟩ := of_if H
    refine D_reg (cs := [0 ≤ p2, p2 < (p1.length : Int)]) (τ := ⟨20, [(0, .cv (.one (.sl T814c p1 .any))), (3, .cv (.one (.int .i64 p2))), (19, .cv (.one (.bool (decide ((((att T814c p1 p2).2).length : Int) > (60 : Int))))))], []⟩) hV 0 [] {live := [0, 3, 19], src := []} (by kernel_rfl) (by kernel_rfl) ⟨n3, n4, trivial⟩ ?_
    refine th_n ?_
    refine D_condB (t := 19) (b := (decide ((((att T814c p1 p2).2).length : Int) > (60 : Int)))) (by kernel_rfl) (by kernel_rfl) (fun hb5 => ?_) (fun hb5 => ?_)
    · rw [if_pos hb5] at H
      refine D_seq (by kernel_rfl) ?_
      refine D_reg (cs := []) (τ := ⟨20, [(2, .cv (.one (.bool false)))], []⟩) hV 0 [] {live := [2], src := []} (by kernel_rfl) (by kernel_rfl) trivial ?_
      refine th_n ?_
      refine D_ret (by kernel_rfl) ?_
      refine bl_r ?_
      refine th_r ?_
      refine ro_r ?_
      refine bl_r ?_
      refine th_r ?_
      exact lf_r (Eq.trans (by kernel_rfl) H)
    · rw [if_neg (by rw [hb5]; decide)] at H
      refine D_skip (by kernel_rfl) ?_
      refine bl_n ?_
      refine th_n ?_
      refine D_reg (cs := []) (τ := ⟨20, [(0, .cv (.one (.sl T814c p1 .any))), (3, .cv (.one (.int .i64 (IntKind.i64.wrap (p2 + 1)))))], []⟩) hV 0 [] {live := [0, 3], src := []} (by kernel_rfl) (by kernel_rfl) trivial ?_
      refine ro_n (WL_tell (τ := f_law09_Few.s1 p1 (IntKind.i64.wrap (p2 + 1))) {fz := [], gr := 0, ad := [], live := [0, 3], src := []} (by kernel_rfl) (by kernel_rfl) ?_)
      exact hL1 p1 (IntKind.i64.wrap (p2 + 1)) H
  · rw [if_neg (by rw [hb2]; decide)] at H
    refine D_exit (id := 0) (by kernel_rfl) ?_
    refine th_x ?_
    refine ro_x ?_
    refine bl_h ?_
    refine th_n ?_
    refine D_seq (by kernel_rfl) ?_
    refine D_reg (cs := []) (τ := ⟨20, [(2, .cv (.one (.bool true)))], []⟩) hV 0 [] {live := [2], src := []} (by kernel_rfl) (by kernel_rfl) trivial ?_
    refine th_n ?_
    refine D_ret (by kernel_rfl) ?_
    exact lf_r (Eq.trans (by kernel_rfl) H)
noncomputable def f_law09_Few.l1 (k : Nat) : Nat → List T814c.T → Int → Option f_law09_Few.R
  | 0, _, _ => none
  | m + 1, p1, p2 => f_law09_Few.b1 (f_law09_Few.l1 k m) k p1 p2
theorem f_law09_Few.l1_ok (hV : EnvOk P f_law09_Few.V) {r : f_law09_Few.R} (k : Nat) : ∀ (m1 : Nat) (p1 : List T814c.T) (p2 : Int), f_law09_Few.l1 k m1 p1 p2 = some r → WL P 0 (Code.l (Code.l (Code.r (Code.l (Code.r (Code.r f_law09_Few.c0)))))) (blockW 0 (thenW P 0 (Code.r (Code.r (Code.r f_law09_Few.c0))) (f_law09_Few.Q r))) m1 (f_law09_Few.s1 p1 p2)
  | 0, _, _, H => by cases H
  | m1 + 1, p1, p2, H => WL_succ (f_law09_Few.b1_ok hV (f_law09_Few.l1 k m1) m1 (fun p1 p2 H => f_law09_Few.l1_ok hV k m1 p1 p2 H) k p1 p2 H)
noncomputable def f_law09_Few.f (k : Nat) (a1 : List T814c.T) : Option f_law09_Few.R :=
  if (decide ((a1.length : Int) > (20 : Int))) = true then
    some (false, ())
  else
    f_law09_Few.l1 k k a1 0
noncomputable def f_law09_Few.S : Spec := ⟨f_law09_Few.ps, f_law09_Few.rs, .any, none, fun x r => ∃ k, f_law09_Few.f k x.1 = some r⟩
theorem f_law09_Few.f_ok (hV : EnvOk P f_law09_Few.V) {r : f_law09_Few.R} (k : Nat) (a1 : List T814c.T) (H : f_law09_Few.f k a1 = some r) : W P 0 f_law09_Few.c0 (⟨20, [(0, .cv (.one (.sl T814c a1 .any)))], []⟩) (f_law09_Few.Q r) := by
  unfold f_law09_Few.f at H
  refine D_seq (by kernel_rfl) ?_
  refine D_reg (cs := []) (τ := ⟨20, [(0, .cv (.one (.sl T814c a1 .any)))], []⟩) hV 0 [] {live := [0], src := []} (by kernel_rfl) (by kernel_rfl) trivial ?_
  refine th_n ?_
  refine D_seq (by kernel_rfl) ?_
  refine D_seq (by kernel_rfl) ?_
  refine D_reg (cs := []) (τ := ⟨20, [(0, .cv (.one (.sl T814c a1 .any))), (6, .cv (.one (.bool (decide ((a1.length : Int) > (20 : Int))))))], []⟩) hV 0 [] {live := [0, 6], src := []} (by kernel_rfl) (by kernel_rfl) trivial ?_
  refine th_n ?_
  refine D_condB (t := 6) (b := (decide ((a1.length : Int) > (20 : Int)))) (by kernel_rfl) (by kernel_rfl) (fun hb1 => ?_) (fun hb1 => ?_)
  · rw [if_pos hb1] at H
    refine D_seq (by kernel_rfl) ?_
    refine D_reg (cs := []) (τ := ⟨20, [(2, .cv (.one (.bool false)))], []⟩) hV 0 [] {live := [2], src := []} (by kernel_rfl) (by kernel_rfl) trivial ?_
    refine th_n ?_
    refine D_ret (by kernel_rfl) ?_
    refine th_r ?_
    exact lf_r (Eq.trans (by kernel_rfl) H)
  · rw [if_neg (by rw [hb1]; decide)] at H
    refine D_skip (by kernel_rfl) ?_
    refine th_n ?_
    refine D_seq (by kernel_rfl) ?_
    refine D_seq (by kernel_rfl) ?_
    refine D_reg (cs := []) (τ := ⟨20, [(0, .cv (.one (.sl T814c a1 .any))), (3, .cv (.one (.int .i64 0)))], []⟩) hV 0 [] {live := [0, 3], src := []} (by kernel_rfl) (by kernel_rfl) trivial ?_
    refine th_n ?_
    refine D_block (id := 0) (by kernel_rfl) ?_
    refine W_tell (τ := f_law09_Few.s1 a1 0) {fz := [], gr := 0, ad := [], live := [0, 3], src := []} (by kernel_rfl) (by kernel_rfl) ?_
    exact D_loop (by kernel_rfl) k (f_law09_Few.l1_ok hV k k a1 0 H)
theorem f_law09_Few.V_ok : EnvOk P f_law09_Few.V := { ck := tt_ck, fits := slk_nil, mixed := mixed }
theorem f_law09_Few.fits : Fits P 18 f_law09_Few.S := fits_of f_law09_Few.V_ok Go.Proofs.Try.func18 (by kernel_rfl) (by decide) (by decide) rfl (fun x r ⟨k, H⟩ => f_law09_Few.f_ok f_law09_Few.V_ok k x.1 H)
end Go.Proofs.Ytkobhleoebgbhaa.V
