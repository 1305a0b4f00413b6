/- Functions of the program, as Lean functions, and that the code answers so. Printed by vgen.py. -/
import Derived.Test.YtkobhleoebgbhaaVBase
namespace Go.Proofs.Ytkobhleoebgbhaa.V
open Go Go.RowKit
set_option linter.unusedVariables false
set_option linter.unusedSimpArgs false
set_option maxRecDepth 100000
/-! ### f_slices_Clone_Rule: function 56, slices.Clone[[]wayfinder/api.Rule,wayfinder/api.Rule] -/
abbrev f_slices_Clone_Rule.ps : Sg := [(false, (.slice T1383))]
abbrev f_slices_Clone_Rule.rs : Sg := [(false, (.slice T1383))]
noncomputable def f_slices_Clone_Rule.c0 : Code := (Go.Proofs.Try.f56.body).getD .skip
noncomputable def f_slices_Clone_Rule.G : List (Nat × Spec) := []
noncomputable def f_slices_Clone_Rule.V : Env := { tt := tt, Γ := slk f_slices_Clone_Rule.G }
noncomputable abbrev f_slices_Clone_Rule.Q (r : Tup f_slices_Clone_Rule.rs) : Exit → St → Prop := Qr tt Go.Proofs.Try.f56.results ⟨f_slices_Clone_Rule.ps, f_slices_Clone_Rule.rs, .any, none, fun _ _ => True⟩ r
abbrev f_slices_Clone_Rule.R := Tup f_slices_Clone_Rule.rs
noncomputable def f_slices_Clone_Rule.f (k : Nat) (a1 : List T1383.T) : Option f_slices_Clone_Rule.R :=
  if (0 + a1.length) * 48 ≤ 140737488355328 then
    if 0 = 0 ∨ 0 < a1.length then
      some (([] ++ a1), ())
    else none
  else none
noncomputable def f_slices_Clone_Rule.S : Spec := ⟨f_slices_Clone_Rule.ps, f_slices_Clone_Rule.rs, .any, none, fun x r => ∃ k, f_slices_Clone_Rule.f k x.1 = some r⟩
theorem f_slices_Clone_Rule.f_ok (hV : EnvOk P f_slices_Clone_Rule.V) {r : f_slices_Clone_Rule.R} (k : Nat) (a1 : List T1383.T) (H : f_slices_Clone_Rule.f k a1 = some r) : W P 0 f_slices_Clone_Rule.c0 (⟨8, [(0, .cv (.one (.sl T1383 a1 .any)))], []⟩) (f_slices_Clone_Rule.Q r) := by
  unfold f_slices_Clone_Rule.f at H
  refine D_seq (by kernel_rfl) ?_
  refine D_reg (cs := []) (τ := ⟨8, [(0, .cv (.one (.sl T1383 a1 .any)))], []⟩) hV 0 [] {live := [0], src := []} (by kernel_rfl) (by kernel_rfl) trivial ?_
  refine th_n ?_
  refine D_seq (by kernel_rfl) ?_
  refine D_seq (by kernel_rfl) ?_
  refine D_nil (t := 0) (e := T1383) (xs := a1) (τ1 := ⟨8, [(0, .cv (.one (.sl T1383 a1 .nl)))], []⟩) (τ2 := ⟨8, [(0, .cv (.one (.sl T1383 a1 .nn)))], []⟩) (by kernel_rfl) (by kernel_rfl) (by kernel_rfl) (fun hx1 => ?_) ?_
  · subst hx1
    replace H := Eq.trans (by kernel_rfl : (some ([], ()) : Option f_slices_Clone_Rule.R) = _) H
    refine D_reg (cs := []) (τ := ⟨8, [(0, .cv (.one (.sl T1383 [] .nl))), (4, .cv (.one (.bool true)))], []⟩) hV 0 [] {live := [0, 4], src := []} (by kernel_rfl) (by kernel_rfl) trivial ?_
    refine th_n ?_
    refine D_condT (t := 4) (by kernel_rfl) (by kernel_rfl) ?_
    refine D_seq (by kernel_rfl) ?_
    refine D_reg (cs := []) (τ := ⟨8, [(2, .cv (.one (.nils)))], []⟩) hV 0 [] {live := [2], src := []} (by kernel_rfl) (by kernel_rfl) trivial ?_
    refine th_n ?_
    refine D_ret (by kernel_rfl) ?_
    refine th_r ?_
    exact lf_r (Eq.trans (by kernel_rfl) H)
  · refine D_reg (cs := []) (τ := ⟨8, [(0, .cv (.one (.sl T1383 a1 .nn))), (4, .cv (.one (.bool false)))], []⟩) hV 0 [] {live := [0, 4], src := []} (by kernel_rfl) (by kernel_rfl) trivial ?_
    refine th_n ?_
    refine D_condF (t := 4) (by kernel_rfl) (by kernel_rfl) ?_
    refine D_skip (by kernel_rfl) ?_
    refine th_n ?_
    refine D_seq (by kernel_rfl) ?_
    obtain ⟨n2, H⟩ := of_if H
    obtain ⟨n3, H⟩ := of_if H
    refine D_reg (cs := [(0 + a1.length) * 48 ≤ 140737488355328, 0 = 0 ∨ 0 < a1.length]) (τ := ⟨8, [(2, .cv (.one (.own 0)))], [(.buf 39 T1383 ([] ++ a1), [])]⟩) hV 1 [(2, {sb := 0})] {live := [2], src := [some 0]} (by kernel_rfl) (by kernel_rfl) ⟨n2, n3, trivial⟩ ?_
    refine th_n ?_
    refine D_ret (by kernel_rfl) ?_
    exact lf_r (Eq.trans (by kernel_rfl) H)
theorem f_slices_Clone_Rule.V_ok : EnvOk P f_slices_Clone_Rule.V := { ck := tt_ck, fits := slk_nil, mixed := mixed }
theorem f_slices_Clone_Rule.fits : Fits P 56 f_slices_Clone_Rule.S := fits_of f_slices_Clone_Rule.V_ok Go.Proofs.Try.func56 (by kernel_rfl) (by decide) (by decide) rfl (fun x r ⟨k, H⟩ => f_slices_Clone_Rule.f_ok f_slices_Clone_Rule.V_ok k x.1 H)
/-! ### f_table_own: function 44, wayfinder/table.own -/
abbrev f_table_own.ps : Sg := [(false, (.slice T814c))]
abbrev f_table_own.rs : Sg := [(false, (.slice T814c))]
noncomputable def f_table_own.c0 : Code := (Go.Proofs.Try.f44.body).getD .skip
noncomputable def f_table_own.G : List (Nat × Spec) := [(56, f_slices_Clone_Rule.S)]
noncomputable def f_table_own.V : Env := { tt := tt, Γ := slk f_table_own.G }
noncomputable abbrev f_table_own.Q (r : Tup f_table_own.rs) : Exit → St → Prop := Qr tt Go.Proofs.Try.f44.results ⟨f_table_own.ps, f_table_own.rs, .any, none, fun _ _ => True⟩ r
abbrev f_table_own.R := Tup f_table_own.rs
noncomputable def f_table_own.s1 (p1 : List T814c.T) (p2 : Int) (p3 : Int) (p4 : List T814c.T) : St := ⟨23, [(3, .cv (.one (.own 0))), (6, .cv (.one (.sl T814c p1 .any))), (7, .cv (.one (.int .i64 p2))), (8, .cv (.one (.int .i64 p3)))], [(.buf 49 T814c p4, [])]⟩
noncomputable def f_table_own.b1 (L1 : List T814c.T → Int → Int → List T814c.T → Option f_table_own.R) (k : Nat) (p1 : List T814c.T) (p2 : Int) (p3 : Int) (p4 : List T814c.T) : Option f_table_own.R :=
  if (decide (p3 < p2)) = true then
  if 0 ≤ p3 then
    if p3 < (p1.length : Int) then
      (f_slices_Clone_Rule.f k ((att T814c p1 p3).2)).bind fun y4 =>
        if (p4.length + 1) * 32 ≤ 140737488355328 then
          L1 p1 p2 (IntKind.i64.wrap (p3 + 1)) (p4 ++ [((att T814c p1 p3).1, y4.1)])
        else none
    else none
  else none
else
  some (p4, ())
theorem f_table_own.b1_ok (hV : EnvOk P f_table_own.V) {r : f_table_own.R} (L1 : List T814c.T → Int → Int → List T814c.T → Option f_table_own.R) (m1 : Nat) (hL1 : ∀ (p1 : List T814c.T) (p2 : Int) (p3 : Int) (p4 : List T814c.T), L1 p1 p2 p3 p4 = some r → WL P 0 (Code.l (Code.l (Code.r (Code.l (Code.r (Code.r f_table_own.c0)))))) (blockW 0 (thenW P 0 (Code.r (Code.r (Code.r f_table_own.c0))) (f_table_own.Q r))) m1 (f_table_own.s1 p1 p2 p3 p4)) (k : Nat) (p1 : List T814c.T) (p2 : Int) (p3 : Int) (p4 : List T814c.T) (H : f_table_own.b1 L1 k p1 p2 p3 p4 = some r) : W P 0 (Code.l (Code.l (Code.r (Code.l (Code.r (Code.r f_table_own.c0)))))) (f_table_own.s1 p1 p2 p3 p4) (roundW P 0 (Code.l (Code.l (Code.r (Code.l (Code.r (Code.r f_table_own.c0)))))) (blockW 0 (thenW P 0 (Code.r (Code.r (Code.r f_table_own.c0))) (f_table_own.Q r))) m1) := by
  unfold f_table_own.b1 at H
  refine D_seq (by kernel_rfl) ?_
  refine D_reg (cs := []) (τ := ⟨23, [(3, .cv (.one (.own 0))), (6, .cv (.one (.sl T814c p1 .any))), (7, .cv (.one (.int .i64 p2))), (8, .cv (.one (.int .i64 p3))), (9, .cv (.one (.bool (decide (p3 < p2)))))], [(.buf 49 T814c p4, [])]⟩) hV 0 [] {live := [3, 6, 7, 8, 9], src := [some 0]} (by kernel_rfl) (by kernel_rfl) trivial ?_
  refine th_n ?_
  refine D_seq (by kernel_rfl) ?_
  refine D_condB (t := 9) (b := (decide (p3 < p2))) (by kernel_rfl) (by kernel_rfl) (fun hb1 => ?_) (fun hb1 => ?_)
  · rw [if_pos hb1] at H
    refine D_skip (by kernel_rfl) ?_
    refine th_n ?_
    refine D_seq (by kernel_rfl) ?_
    refine D_block (id := 1) (by kernel_rfl) ?_
    refine D_seq (by kernel_rfl) ?_
    obtain ⟨n2, H⟩ := of_if H
    obtain ⟨n3, H⟩ := of_if H
    refine D_reg (cs := [0 ≤ p3, p3 < (p1.length : Int)]) (τ := ⟨23, [(3, .cv (.one (.own 0))), (5, .cv (.one (.ptr 1 0))), (6, .cv (.one (.sl T814c p1 .any))), (7, .cv (.one (.int .i64 p2))), (8, .cv (.one (.int .i64 p3)))], [(.buf 49 T814c p4, []), (.box 2, [.int .i64 ((att T814c p1 p3).1), .sl T1383 ((att T814c p1 p3).2) .any])]⟩) hV 1 [(2, {sb := 1})] {live := [3, 5, 6, 7, 8], src := [some 0, some 1]} (by kernel_rfl) (by kernel_rfl) ⟨n2, n3, trivial⟩ ?_
    refine th_n ?_
    obtain ⟨y4, e5, H⟩ := of_bind H
    obtain ⟨n6, H⟩ := of_if H
    refine D_reg (cs := [f_slices_Clone_Rule.S.rel ((att T814c p1 p3).2, ()) y4, (p4.length + 1) * 32 ≤ 140737488355328]) (τ := ⟨23, [(3, .cv (.one (.own 0))), (6, .cv (.one (.sl T814c p1 .any))), (7, .cv (.one (.int .i64 p2))), (8, .cv (.one (.int .i64 p3)))], [(.buf 49 T814c (p4 ++ [((att T814c p1 p3).1, y4.1)]), [])]⟩) hV 1 [(5, {res := some ⟨f_slices_Clone_Rule.S.rs, y4⟩}), (8, {sb := 2})] {live := [3, 6, 7, 8], src := [some 2]} (by kernel_rfl) (by kernel_rfl) ⟨⟨k, e5⟩, n6, trivial⟩ ?_
    refine bl_n ?_
    refine th_n ?_
    refine D_reg (cs := []) (τ := ⟨23, [(3, .cv (.one (.own 0))), (6, .cv (.one (.sl T814c p1 .any))), (7, .cv (.one (.int .i64 p2))), (8, .cv (.one (.int .i64 (IntKind.i64.wrap (p3 + 1)))))], [(.buf 49 T814c (p4 ++ [((att T814c p1 p3).1, y4.1)]), [])]⟩) hV 0 [] {live := [3, 6, 7, 8], src := [some 0]} (by kernel_rfl) (by kernel_rfl) trivial ?_
    refine ro_n (WL_tell (τ := f_table_own.s1 p1 p2 (IntKind.i64.wrap (p3 + 1)) (p4 ++ [((att T814c p1 p3).1, y4.1)])) {fz := [], gr := 0, ad := [], live := [3, 6, 7, 8], src := [some 0]} (by kernel_rfl) (by kernel_rfl) ?_)
    exact hL1 p1 p2 (IntKind.i64.wrap (p3 + 1)) (p4 ++ [((att T814c p1 p3).1, y4.1)]) H
  · rw [if_neg (by rw [hb1]; decide)] at H
    refine D_exit (id := 0) (by kernel_rfl) ?_
    refine th_x ?_
    refine ro_x ?_
    refine bl_h ?_
    refine th_n ?_
    refine D_seq (by kernel_rfl) ?_
    refine D_reg (cs := []) (τ := ⟨23, [(2, .cv (.one (.own 0)))], [(.buf 49 T814c p4, [])]⟩) hV 0 [] {live := [2], src := [some 0]} (by kernel_rfl) (by kernel_rfl) trivial ?_
    refine th_n ?_
    refine D_ret (by kernel_rfl) ?_
    exact lf_r (Eq.trans (by kernel_rfl) H)
noncomputable def f_table_own.l1 (k : Nat) : Nat → List T814c.T → Int → Int → List T814c.T → Option f_table_own.R
  | 0, _, _, _, _ => none
  | m + 1, p1, p2, p3, p4 => f_table_own.b1 (f_table_own.l1 k m) k p1 p2 p3 p4
theorem f_table_own.l1_ok (hV : EnvOk P f_table_own.V) {r : f_table_own.R} (k : Nat) : ∀ (m1 : Nat) (p1 : List T814c.T) (p2 : Int) (p3 : Int) (p4 : List T814c.T), f_table_own.l1 k m1 p1 p2 p3 p4 = some r → WL P 0 (Code.l (Code.l (Code.r (Code.l (Code.r (Code.r f_table_own.c0)))))) (blockW 0 (thenW P 0 (Code.r (Code.r (Code.r f_table_own.c0))) (f_table_own.Q r))) m1 (f_table_own.s1 p1 p2 p3 p4)
  | 0, _, _, _, _, H => by cases H
  | m1 + 1, p1, p2, p3, p4, H => WL_succ (f_table_own.b1_ok hV (f_table_own.l1 k m1) m1 (fun p1 p2 p3 p4 H => f_table_own.l1_ok hV k m1 p1 p2 p3 p4 H) k p1 p2 p3 p4 H)
noncomputable def f_table_own.f (k : Nat) (a1 : List T814c.T) : Option f_table_own.R :=
  f_table_own.l1 k k a1 (a1.length : Int) 0 []
noncomputable def f_table_own.S : Spec := ⟨f_table_own.ps, f_table_own.rs, .any, none, fun x r => ∃ k, f_table_own.f k x.1 = some r⟩
theorem f_table_own.f_ok (hV : EnvOk P f_table_own.V) {r : f_table_own.R} (k : Nat) (a1 : List T814c.T) (H : f_table_own.f k a1 = some r) : W P 0 f_table_own.c0 (⟨23, [(0, .cv (.one (.sl T814c a1 .any)))], []⟩) (f_table_own.Q r) := by
  unfold f_table_own.f at H
  refine D_seq (by kernel_rfl) ?_
  refine D_reg (cs := []) (τ := ⟨23, [(0, .cv (.one (.sl T814c a1 .any)))], []⟩) hV 0 [] {live := [0], src := []} (by kernel_rfl) (by kernel_rfl) trivial ?_
  refine th_n ?_
  refine D_seq (by kernel_rfl) ?_
  refine D_reg (cs := []) (τ := ⟨23, [(0, .cv (.one (.sl T814c a1 .any))), (3, .cv (.one (.nils)))], []⟩) hV 0 [] {live := [0, 3], src := []} (by kernel_rfl) (by kernel_rfl) trivial ?_
  refine th_n ?_
  refine D_seq (by kernel_rfl) ?_
  refine D_seq (by kernel_rfl) ?_
  refine D_reg (cs := []) (τ := ⟨23, [(3, .cv (.one (.nils))), (6, .cv (.one (.sl T814c a1 .any))), (7, .cv (.one (.int .i64 (a1.length : Int)))), (8, .cv (.one (.int .i64 0)))], []⟩) hV 0 [] {live := [3, 6, 7, 8], src := []} (by kernel_rfl) (by kernel_rfl) trivial ?_
  refine th_n ?_
  refine D_block (id := 0) (by kernel_rfl) ?_
  refine W_tell (τ := f_table_own.s1 a1 (a1.length : Int) 0 []) {fz := [], gr := 1, ad := [.ownT 3 0 49 T814c], live := [3, 6, 7, 8], src := [some 0]} (by kernel_rfl) (by kernel_rfl) ?_
  exact D_loop (by kernel_rfl) k (f_table_own.l1_ok hV k k a1 (a1.length : Int) 0 [] H)
theorem f_table_own.V_ok : EnvOk P f_table_own.V := { ck := tt_ck, fits := slk_cons f_slices_Clone_Rule.fits (slk_nil), mixed := mixed }
theorem f_table_own.fits : Fits P 44 f_table_own.S := fits_of f_table_own.V_ok Go.Proofs.Try.func44 (by kernel_rfl) (by decide) (by decide) rfl (fun x r ⟨k, H⟩ => f_table_own.f_ok f_table_own.V_ok k x.1 H)
/-! ### f_slices_Clone_Ruleo: function 56, slices.Clone[[]wayfinder/api.Rule,wayfinder/api.Rule], whose answer is then the caller's own -/
abbrev f_slices_Clone_Ruleo.ps : Sg := [(false, (.slice T1383))]
abbrev f_slices_Clone_Ruleo.rs : Sg := [(false, .slice T1383)]
noncomputable def f_slices_Clone_Ruleo.c0 : Code := (Go.Proofs.Try.f56.body).getD .skip
noncomputable def f_slices_Clone_Ruleo.G : List (Nat × Spec) := []
noncomputable def f_slices_Clone_Ruleo.V : Env := { tt := tt, Γ := slk f_slices_Clone_Ruleo.G }
abbrev f_slices_Clone_Ruleo.R := Tup f_slices_Clone_Ruleo.rs
noncomputable abbrev f_slices_Clone_Ruleo.Q (r : f_slices_Clone_Ruleo.R) : Exit → St → Prop := QrO Go.Proofs.Try.f56.results 39 T1383 r
noncomputable def f_slices_Clone_Ruleo.f (k : Nat) (a1 : List T1383.T) : Option f_slices_Clone_Ruleo.R :=
  if (0 + a1.length) * 48 ≤ 140737488355328 then
    if 0 = 0 ∨ 0 < a1.length then
      some (([] ++ a1), ())
    else none
  else none
noncomputable def f_slices_Clone_Ruleo.S : Spec := ⟨f_slices_Clone_Ruleo.ps, f_slices_Clone_Ruleo.rs, .any, some 39, fun x r => ∃ k, f_slices_Clone_Ruleo.f k x.1 = some r⟩
theorem f_slices_Clone_Ruleo.f_ok (hV : EnvOk P f_slices_Clone_Ruleo.V) {r : f_slices_Clone_Ruleo.R} (k : Nat) (a1 : List T1383.T) (H : f_slices_Clone_Ruleo.f k a1 = some r) : W P 0 f_slices_Clone_Ruleo.c0 (⟨8, [(0, .cv (.one (.sl T1383 a1 .any)))], []⟩) (f_slices_Clone_Ruleo.Q r) := by
  unfold f_slices_Clone_Ruleo.f at H
  refine D_seq (by kernel_rfl) ?_
  refine D_reg (cs := []) (τ := ⟨8, [(0, .cv (.one (.sl T1383 a1 .any)))], []⟩) hV 0 [] {live := [0], src := []} (by kernel_rfl) (by kernel_rfl) trivial ?_
  refine th_n ?_
  refine D_seq (by kernel_rfl) ?_
  refine D_seq (by kernel_rfl) ?_
  refine D_nil (t := 0) (e := T1383) (xs := a1) (τ1 := ⟨8, [(0, .cv (.one (.sl T1383 a1 .nl)))], []⟩) (τ2 := ⟨8, [(0, .cv (.one (.sl T1383 a1 .nn)))], []⟩) (by kernel_rfl) (by kernel_rfl) (by kernel_rfl) (fun hx1 => ?_) ?_
  · subst hx1
    replace H := Eq.trans (by kernel_rfl : (some ([], ()) : Option f_slices_Clone_Ruleo.R) = _) H
    refine D_reg (cs := []) (τ := ⟨8, [(0, .cv (.one (.sl T1383 [] .nl))), (4, .cv (.one (.bool true)))], []⟩) hV 0 [] {live := [0, 4], src := []} (by kernel_rfl) (by kernel_rfl) trivial ?_
    refine th_n ?_
    refine D_condT (t := 4) (by kernel_rfl) (by kernel_rfl) ?_
    refine D_seq (by kernel_rfl) ?_
    refine D_reg (cs := []) (τ := ⟨8, [(2, .cv (.one (.nils)))], []⟩) hV 0 [] {live := [2], src := []} (by kernel_rfl) (by kernel_rfl) trivial ?_
    refine th_n ?_
    refine W_tell (τ := ⟨8, [(2, .cv (.one (.own 0)))], [(.buf 39 T1383 [], [])]⟩) {gr := 1, ad := [.ownT 2 0 39 T1383], live := [2], src := [some 0]} (by kernel_rfl) (by kernel_rfl) ?_
    refine D_ret (by kernel_rfl) ?_
    refine th_r ?_
    obtain rfl := Option.some.inj H
    exact lfO_r 2 0 (by kernel_rfl) (by kernel_rfl) (by kernel_rfl)
  · refine D_reg (cs := []) (τ := ⟨8, [(0, .cv (.one (.sl T1383 a1 .nn))), (4, .cv (.one (.bool false)))], []⟩) hV 0 [] {live := [0, 4], src := []} (by kernel_rfl) (by kernel_rfl) trivial ?_
    refine th_n ?_
    refine D_condF (t := 4) (by kernel_rfl) (by kernel_rfl) ?_
    refine D_skip (by kernel_rfl) ?_
    refine th_n ?_
    refine D_seq (by kernel_rfl) ?_
    obtain ⟨n2, H⟩ := of_if H
    obtain ⟨n3, H⟩ := of_if H
    refine D_reg (cs := [(0 + a1.length) * 48 ≤ 140737488355328, 0 = 0 ∨ 0 < a1.length]) (τ := ⟨8, [(2, .cv (.one (.own 0)))], [(.buf 39 T1383 ([] ++ a1), [])]⟩) hV 1 [(2, {sb := 0})] {live := [2], src := [some 0]} (by kernel_rfl) (by kernel_rfl) ⟨n2, n3, trivial⟩ ?_
    refine th_n ?_
    refine D_ret (by kernel_rfl) ?_
    obtain rfl := Option.some.inj H
    exact lfO_r 2 0 (by kernel_rfl) (by kernel_rfl) (by kernel_rfl)
theorem f_slices_Clone_Ruleo.V_ok : EnvOk P f_slices_Clone_Ruleo.V := { ck := tt_ck, fits := slk_nil, mixed := mixed }
theorem f_slices_Clone_Ruleo.fits : Fits P 56 f_slices_Clone_Ruleo.S := fits_ofO f_slices_Clone_Ruleo.V_ok Go.Proofs.Try.func56 (by kernel_rfl) (by decide) (by decide) (fun x r ⟨k, H⟩ => f_slices_Clone_Ruleo.f_ok f_slices_Clone_Ruleo.V_ok k x.1 H)
/-! ### L44: function 44, wayfinder/table.own, where it is called -/
noncomputable def L44.c0 : Code := (Go.Proofs.Try.f44.body).getD .skip
noncomputable def L44.G : List (Nat × Spec) := [(56, f_slices_Clone_Rule.S)]
noncomputable def L44.V : Env := { tt := tt, Γ := slk L44.G }
theorem L44.V_ok : EnvOk P L44.V := { ck := tt_ck, fits := slk_cons f_slices_Clone_Rule.fits (slk_nil), mixed := mixed }
noncomputable def L44.VL : Env := { tt := tt, Γ := slk [(56, f_slices_Clone_Ruleo.S)] }
theorem L44.VL_ok : EnvOk P L44.VL := { ck := tt_ck, fits := slk_cons f_slices_Clone_Ruleo.fits (slk_nil), mixed := mixed }
abbrev L44.R := (List (Int × List T1383.T)) × (Nat) × (List T1383.T) × Unit
noncomputable def L44.s0 (p1 : List T814c.T) : St := ⟨23, [(0, .cv (.one (.sl T814c p1 .any)))], []⟩
noncomputable def L44.out (r : L44.R) : St := ⟨23, [(2, .cv (.one (.own 0)))], [(.lnk 49 (.int .i64) T1383 r.1 1 r.2.1, []), (.buf 39 T1383 r.2.2.1, [])]⟩
abbrev L44.Q (r : L44.R) := CallQ 0 (L44.out r)
noncomputable def L44.s1 (b : Bool) (p1 : List T814c.T) (p2 : Int) (p3 : Int) (p4 : List T814c.T) (c1 : List T814c.T) (c2 : Int) (c3 : Int) (c4 : List (Int × List T1383.T)) (c5 : Nat) (c6 : List T1383.T) : St := match b with
  | false => ⟨23, [(3, .cv (.one (.own 0))), (6, .cv (.one (.sl T814c p1 .any))), (7, .cv (.one (.int .i64 p2))), (8, .cv (.one (.int .i64 p3)))], [(.buf 49 T814c p4, [])]⟩
  | true => ⟨23, [(3, .cv (.one (.own 0))), (6, .cv (.one (.sl T814c c1 .any))), (7, .cv (.one (.int .i64 c2))), (8, .cv (.one (.int .i64 c3)))], [(.lnk 49 (.int .i64) T1383 c4 1 c5, []), (.buf 39 T1383 c6, [])]⟩
noncomputable def L44.s2 (p1 : List T814c.T) (p2 : Int) (p3 : Int) (p4 : List (Int × List T1383.T)) (p5 : Nat) (p6 : List T1383.T) : St := ⟨23, [(3, .cv (.one (.own 0))), (6, .cv (.one (.sl T814c p1 .any))), (7, .cv (.one (.int .i64 p2))), (8, .cv (.one (.int .i64 p3)))], [(.lnk 49 (.int .i64) T1383 p4 1 p5, []), (.buf 39 T1383 p6, [])]⟩
noncomputable def L44.j2 (L1 : Bool → List T814c.T → Int → Int → List T814c.T → List T814c.T → Int → Int → List (Int × List T1383.T) → Nat → List T1383.T → Option L44.R) (q k : Nat) (p1 : List T814c.T) (p2 : Int) (p3 : Int) (p4 : List (Int × List T1383.T)) (p5 : Nat) (p6 : List T1383.T) : Option L44.R :=
  L1 true [] 0 0 [] p1 p2 (IntKind.i64.wrap (p3 + 1)) p4 p5 p6
theorem L44.j2_ok (hV : EnvOk P L44.V) {r : L44.R} (L1 : Bool → List T814c.T → Int → Int → List T814c.T → List T814c.T → Int → Int → List (Int × List T1383.T) → Nat → List T1383.T → Option L44.R) (m1 : Nat) (hL1 : ∀ (b : Bool) (p1 : List T814c.T) (p2 : Int) (p3 : Int) (p4 : List T814c.T) (c1 : List T814c.T) (c2 : Int) (c3 : Int) (c4 : List (Int × List T1383.T)) (c5 : Nat) (c6 : List T1383.T), L1 b p1 p2 p3 p4 c1 c2 c3 c4 c5 c6 = some r → WL P 0 (Code.l (Code.l (Code.r (Code.l (Code.r (Code.r L44.c0)))))) (blockW 0 (thenW P 0 (Code.r (Code.r (Code.r L44.c0))) (L44.Q r))) m1 (L44.s1 b p1 p2 p3 p4 c1 c2 c3 c4 c5 c6)) (q k : Nat) (p1 : List T814c.T) (p2 : Int) (p3 : Int) (p4 : List (Int × List T1383.T)) (p5 : Nat) (p6 : List T1383.T) (H : L44.j2 L1 q k p1 p2 p3 p4 p5 p6 = some r) : W P 0 (Code.r (Code.r (Code.r (Code.l (Code.l (Code.r (Code.l (Code.r (Code.r L44.c0))))))))) (L44.s2 p1 p2 p3 p4 p5 p6) (roundW P 0 (Code.l (Code.l (Code.r (Code.l (Code.r (Code.r L44.c0)))))) (blockW 0 (thenW P 0 (Code.r (Code.r (Code.r L44.c0))) (L44.Q r))) m1) := by
  unfold L44.j2 at H
  refine D_reg (cs := []) (τ := ⟨23, [(3, .cv (.one (.own 0))), (6, .cv (.one (.sl T814c p1 .any))), (7, .cv (.one (.int .i64 p2))), (8, .cv (.one (.int .i64 (IntKind.i64.wrap (p3 + 1)))))], [(.lnk 49 (.int .i64) T1383 p4 1 p5, []), (.buf 39 T1383 p6, [])]⟩) hV 0 [] {live := [3, 6, 7, 8], src := [some 0, some 1]} (by kernel_rfl) (by kernel_rfl) trivial ?_
  refine ro_n (WL_tell (τ := L44.s1 true [] 0 0 [] p1 p2 (IntKind.i64.wrap (p3 + 1)) p4 p5 p6) {fz := [], gr := 0, ad := [], live := [3, 6, 7, 8], src := [some 0, some 1]} (by kernel_rfl) (by kernel_rfl) ?_)
  exact hL1 true [] 0 0 [] p1 p2 (IntKind.i64.wrap (p3 + 1)) p4 p5 p6 H
noncomputable def L44.b1 (L1 : Bool → List T814c.T → Int → Int → List T814c.T → List T814c.T → Int → Int → List (Int × List T1383.T) → Nat → List T1383.T → Option L44.R) (q k : Nat) (b : Bool) (p1 : List T814c.T) (p2 : Int) (p3 : Int) (p4 : List T814c.T) (c1 : List T814c.T) (c2 : Int) (c3 : Int) (c4 : List (Int × List T1383.T)) (c5 : Nat) (c6 : List T1383.T) : Option L44.R := match b with
  | false =>
    if (decide (p3 < p2)) = true then
      if 0 ≤ p3 then
        if p3 < (p1.length : Int) then
          if p4.length = q then
            (f_slices_Clone_Ruleo.f k ((att T814c p1 p3).2)).bind fun y5 =>
              if (p4.length + 1) * 32 ≤ 140737488355328 then
                L44.j2 L1 q k p1 p2 p3 (p4 ++ [((att T814c p1 p3).1, ([] : List T1383.T))]) (p4.length) y5.1
              else none
          else
            (f_slices_Clone_Rule.f k ((att T814c p1 p3).2)).bind fun y8 =>
              if (p4.length + 1) * 32 ≤ 140737488355328 then
                L1 false p1 p2 (IntKind.i64.wrap (p3 + 1)) (p4 ++ [((att T814c p1 p3).1, y8.1)]) [] 0 0 [] 0 []
              else none
        else none
      else none
    else
      none
  | true =>
    if (decide (c3 < c2)) = true then
      if 0 ≤ c3 then
        if c3 < (c1.length : Int) then
          (f_slices_Clone_Rule.f k ((att T814c c1 c3).2)).bind fun y14 =>
            if (c4.length + 1) * 32 ≤ 140737488355328 then
              L44.j2 L1 q k c1 c2 c3 (c4 ++ [((att T814c c1 c3).1, y14.1)]) c5 c6
            else none
        else none
      else none
    else
      some (c4, (c5, (c6, ())))
theorem L44.b1_ok (hV : EnvOk P L44.V) {r : L44.R} (L1 : Bool → List T814c.T → Int → Int → List T814c.T → List T814c.T → Int → Int → List (Int × List T1383.T) → Nat → List T1383.T → Option L44.R) (m1 : Nat) (hL1 : ∀ (b : Bool) (p1 : List T814c.T) (p2 : Int) (p3 : Int) (p4 : List T814c.T) (c1 : List T814c.T) (c2 : Int) (c3 : Int) (c4 : List (Int × List T1383.T)) (c5 : Nat) (c6 : List T1383.T), L1 b p1 p2 p3 p4 c1 c2 c3 c4 c5 c6 = some r → WL P 0 (Code.l (Code.l (Code.r (Code.l (Code.r (Code.r L44.c0)))))) (blockW 0 (thenW P 0 (Code.r (Code.r (Code.r L44.c0))) (L44.Q r))) m1 (L44.s1 b p1 p2 p3 p4 c1 c2 c3 c4 c5 c6)) (q k : Nat) (b : Bool) (p1 : List T814c.T) (p2 : Int) (p3 : Int) (p4 : List T814c.T) (c1 : List T814c.T) (c2 : Int) (c3 : Int) (c4 : List (Int × List T1383.T)) (c5 : Nat) (c6 : List T1383.T) (H : L44.b1 L1 q k b p1 p2 p3 p4 c1 c2 c3 c4 c5 c6 = some r) : W P 0 (Code.l (Code.l (Code.r (Code.l (Code.r (Code.r L44.c0)))))) (L44.s1 b p1 p2 p3 p4 c1 c2 c3 c4 c5 c6) (roundW P 0 (Code.l (Code.l (Code.r (Code.l (Code.r (Code.r L44.c0)))))) (blockW 0 (thenW P 0 (Code.r (Code.r (Code.r L44.c0))) (L44.Q r))) m1) := by
  unfold L44.b1 at H
  cases b with
  | false =>
    dsimp only at H
    refine D_seq (by kernel_rfl) ?_
    refine D_reg (cs := []) (τ := ⟨23, [(3, .cv (.one (.own 0))), (6, .cv (.one (.sl T814c p1 .any))), (7, .cv (.one (.int .i64 p2))), (8, .cv (.one (.int .i64 p3))), (9, .cv (.one (.bool (decide (p3 < p2)))))], [(.buf 49 T814c p4, [])]⟩) hV 0 [] {live := [3, 6, 7, 8, 9], src := [some 0]} (by kernel_rfl) (by kernel_rfl) trivial ?_
    refine th_n ?_
    refine D_seq (by kernel_rfl) ?_
    refine D_condB (t := 9) (b := (decide (p3 < p2))) (by kernel_rfl) (by kernel_rfl) (fun hb1 => ?_) (fun hb1 => ?_)
    · rw [if_pos hb1] at H
      refine D_skip (by kernel_rfl) ?_
      refine th_n ?_
      refine D_seq (by kernel_rfl) ?_
      refine D_block (id := 1) (by kernel_rfl) ?_
      refine D_seq (by kernel_rfl) ?_
      obtain ⟨n2, H⟩ := of_if H
      obtain ⟨n3, H⟩ := of_if H
      refine D_reg (cs := [0 ≤ p3, p3 < (p1.length : Int)]) (τ := ⟨23, [(3, .cv (.one (.own 0))), (5, .cv (.one (.ptr 1 0))), (6, .cv (.one (.sl T814c p1 .any))), (7, .cv (.one (.int .i64 p2))), (8, .cv (.one (.int .i64 p3)))], [(.buf 49 T814c p4, []), (.box 2, [.int .i64 ((att T814c p1 p3).1), .sl T1383 ((att T814c p1 p3).2) .any])]⟩) hV 1 [(2, {sb := 1})] {live := [3, 5, 6, 7, 8], src := [some 0, some 1]} (by kernel_rfl) (by kernel_rfl) ⟨n2, n3, trivial⟩ ?_
      refine th_n ?_
      rcases of_ifx H with ⟨hb4, H⟩ | ⟨hb4, H⟩
      · obtain ⟨y5, e6, H⟩ := of_bind H
        obtain ⟨n7, H⟩ := of_if H
        refine D_reg (cs := [f_slices_Clone_Ruleo.S.rel ((att T814c p1 p3).2, ()) y5, (p4.length + 1) * 32 ≤ 140737488355328]) (τ := ⟨23, [(3, .cv (.one (.own 0))), (6, .cv (.one (.sl T814c p1 .any))), (7, .cv (.one (.int .i64 p2))), (8, .cv (.one (.int .i64 p3)))], [(.lnk 49 (.int .i64) T1383 (p4 ++ [((att T814c p1 p3).1, ([] : List T1383.T))]) 1 (p4.length), []), (.buf 39 T1383 y5.1, [])]⟩) L44.VL_ok 2 [(5, {sb := 2, res := some ⟨f_slices_Clone_Ruleo.S.rs, y5⟩}), (7, {lk := true}), (8, {sb := 3, lk := true})] {live := [3, 6, 7, 8], src := [some 3, some 2]} (by kernel_rfl) (by kernel_rfl) ⟨⟨k, e6⟩, n7, trivial⟩ ?_
        refine bl_n ?_
        refine th_n ?_
        refine W_tell (τ := L44.s2 p1 p2 p3 (p4 ++ [((att T814c p1 p3).1, ([] : List T1383.T))]) (p4.length) y5.1) {fz := [], gr := 0, ad := [], live := [3, 6, 7, 8], src := [some 0, some 1]} (by kernel_rfl) (by kernel_rfl) ?_
        exact L44.j2_ok hV L1 m1 hL1 q k p1 p2 p3 (p4 ++ [((att T814c p1 p3).1, ([] : List T1383.T))]) (p4.length) y5.1 H
      · obtain ⟨y8, e9, H⟩ := of_bind H
        obtain ⟨n10, H⟩ := of_if H
        refine D_reg (cs := [f_slices_Clone_Rule.S.rel ((att T814c p1 p3).2, ()) y8, (p4.length + 1) * 32 ≤ 140737488355328]) (τ := ⟨23, [(3, .cv (.one (.own 0))), (6, .cv (.one (.sl T814c p1 .any))), (7, .cv (.one (.int .i64 p2))), (8, .cv (.one (.int .i64 p3)))], [(.buf 49 T814c (p4 ++ [((att T814c p1 p3).1, y8.1)]), [])]⟩) hV 1 [(5, {res := some ⟨f_slices_Clone_Rule.S.rs, y8⟩}), (8, {sb := 2})] {live := [3, 6, 7, 8], src := [some 2]} (by kernel_rfl) (by kernel_rfl) ⟨⟨k, e9⟩, n10, trivial⟩ ?_
        refine bl_n ?_
        refine th_n ?_
        refine D_reg (cs := []) (τ := ⟨23, [(3, .cv (.one (.own 0))), (6, .cv (.one (.sl T814c p1 .any))), (7, .cv (.one (.int .i64 p2))), (8, .cv (.one (.int .i64 (IntKind.i64.wrap (p3 + 1)))))], [(.buf 49 T814c (p4 ++ [((att T814c p1 p3).1, y8.1)]), [])]⟩) hV 0 [] {live := [3, 6, 7, 8], src := [some 0]} (by kernel_rfl) (by kernel_rfl) trivial ?_
        refine ro_n (WL_tell (τ := L44.s1 false p1 p2 (IntKind.i64.wrap (p3 + 1)) (p4 ++ [((att T814c p1 p3).1, y8.1)]) [] 0 0 [] 0 []) {fz := [], gr := 0, ad := [], live := [3, 6, 7, 8], src := [some 0]} (by kernel_rfl) (by kernel_rfl) ?_)
        exact hL1 false p1 p2 (IntKind.i64.wrap (p3 + 1)) (p4 ++ [((att T814c p1 p3).1, y8.1)]) [] 0 0 [] 0 [] H
    · rw [if_neg (by rw [hb1]; decide)] at H
      refine D_exit (id := 0) (by kernel_rfl) ?_
      refine th_x ?_
      refine ro_x ?_
      refine bl_h ?_
      refine th_n ?_
      refine D_seq (by kernel_rfl) ?_
      refine D_reg (cs := []) (τ := ⟨23, [(2, .cv (.one (.own 0)))], [(.buf 49 T814c p4, [])]⟩) hV 0 [] {live := [2], src := [some 0]} (by kernel_rfl) (by kernel_rfl) trivial ?_
      refine th_n ?_
      refine D_ret (by kernel_rfl) ?_
      cases H
  | true =>
    dsimp only at H
    refine D_seq (by kernel_rfl) ?_
    refine D_reg (cs := []) (τ := ⟨23, [(3, .cv (.one (.own 0))), (6, .cv (.one (.sl T814c c1 .any))), (7, .cv (.one (.int .i64 c2))), (8, .cv (.one (.int .i64 c3))), (9, .cv (.one (.bool (decide (c3 < c2)))))], [(.lnk 49 (.int .i64) T1383 c4 1 c5, []), (.buf 39 T1383 c6, [])]⟩) hV 0 [] {live := [3, 6, 7, 8, 9], src := [some 0, some 1]} (by kernel_rfl) (by kernel_rfl) trivial ?_
    refine th_n ?_
    refine D_seq (by kernel_rfl) ?_
    refine D_condB (t := 9) (b := (decide (c3 < c2))) (by kernel_rfl) (by kernel_rfl) (fun hb11 => ?_) (fun hb11 => ?_)
    · rw [if_pos hb11] at H
      refine D_skip (by kernel_rfl) ?_
      refine th_n ?_
      refine D_seq (by kernel_rfl) ?_
      refine D_block (id := 1) (by kernel_rfl) ?_
      refine D_seq (by kernel_rfl) ?_
      obtain ⟨n12, H⟩ := of_if H
      obtain ⟨n13, H⟩ := of_if H
      refine D_reg (cs := [0 ≤ c3, c3 < (c1.length : Int)]) (τ := ⟨23, [(3, .cv (.one (.own 0))), (5, .cv (.one (.ptr 1 0))), (6, .cv (.one (.sl T814c c1 .any))), (7, .cv (.one (.int .i64 c2))), (8, .cv (.one (.int .i64 c3)))], [(.lnk 49 (.int .i64) T1383 c4 2 c5, []), (.box 2, [.int .i64 ((att T814c c1 c3).1), .sl T1383 ((att T814c c1 c3).2) .any]), (.buf 39 T1383 c6, [])]⟩) hV 1 [(2, {sb := 2})] {live := [3, 5, 6, 7, 8], src := [some 0, some 2, some 1]} (by kernel_rfl) (by kernel_rfl) ⟨n12, n13, trivial⟩ ?_
      refine th_n ?_
      obtain ⟨y14, e15, H⟩ := of_bind H
      obtain ⟨n16, H⟩ := of_if H
      refine D_reg (cs := [f_slices_Clone_Rule.S.rel ((att T814c c1 c3).2, ()) y14, 1 = 1, (c4.length + 1) * 32 ≤ 140737488355328]) (τ := ⟨23, [(3, .cv (.one (.own 0))), (6, .cv (.one (.sl T814c c1 .any))), (7, .cv (.one (.int .i64 c2))), (8, .cv (.one (.int .i64 c3)))], [(.lnk 49 (.int .i64) T1383 (c4 ++ [((att T814c c1 c3).1, y14.1)]) 1 c5, []), (.buf 39 T1383 c6, [])]⟩) hV 1 [(5, {res := some ⟨f_slices_Clone_Rule.S.rs, y14⟩}), (8, {sb := 3, lk := true})] {live := [3, 6, 7, 8], src := [some 3, some 2]} (by kernel_rfl) (by kernel_rfl) ⟨⟨k, e15⟩, (by decide), n16, trivial⟩ ?_
      refine bl_n ?_
      refine th_n ?_
      refine W_tell (τ := L44.s2 c1 c2 c3 (c4 ++ [((att T814c c1 c3).1, y14.1)]) c5 c6) {fz := [], gr := 0, ad := [], live := [3, 6, 7, 8], src := [some 0, some 1]} (by kernel_rfl) (by kernel_rfl) ?_
      exact L44.j2_ok hV L1 m1 hL1 q k c1 c2 c3 (c4 ++ [((att T814c c1 c3).1, y14.1)]) c5 c6 H
    · rw [if_neg (by rw [hb11]; decide)] at H
      refine D_exit (id := 0) (by kernel_rfl) ?_
      refine th_x ?_
      refine ro_x ?_
      refine bl_h ?_
      refine th_n ?_
      refine D_seq (by kernel_rfl) ?_
      refine D_reg (cs := []) (τ := ⟨23, [(2, .cv (.one (.own 0)))], [(.lnk 49 (.int .i64) T1383 c4 1 c5, []), (.buf 39 T1383 c6, [])]⟩) hV 0 [] {live := [2], src := [some 0, some 1]} (by kernel_rfl) (by kernel_rfl) trivial ?_
      refine th_n ?_
      refine D_ret (by kernel_rfl) ?_
      obtain rfl := Option.some.inj H
      exact cq_r {fz := [], gr := 0, ad := [], live := [2], src := [some 0, some 1]} (by kernel_rfl) (by kernel_rfl)
noncomputable def L44.l1 (q k : Nat) : Nat → Bool → List T814c.T → Int → Int → List T814c.T → List T814c.T → Int → Int → List (Int × List T1383.T) → Nat → List T1383.T → Option L44.R
  | 0, _, _, _, _, _, _, _, _, _, _, _ => none
  | m + 1, b, p1, p2, p3, p4, c1, c2, c3, c4, c5, c6 => L44.b1 (L44.l1 q k m) q k b p1 p2 p3 p4 c1 c2 c3 c4 c5 c6
theorem L44.l1_ok (hV : EnvOk P L44.V) {r : L44.R} (q k : Nat) : ∀ (m1 : Nat) (b : Bool) (p1 : List T814c.T) (p2 : Int) (p3 : Int) (p4 : List T814c.T) (c1 : List T814c.T) (c2 : Int) (c3 : Int) (c4 : List (Int × List T1383.T)) (c5 : Nat) (c6 : List T1383.T), L44.l1 q k m1 b p1 p2 p3 p4 c1 c2 c3 c4 c5 c6 = some r → WL P 0 (Code.l (Code.l (Code.r (Code.l (Code.r (Code.r L44.c0)))))) (blockW 0 (thenW P 0 (Code.r (Code.r (Code.r L44.c0))) (L44.Q r))) m1 (L44.s1 b p1 p2 p3 p4 c1 c2 c3 c4 c5 c6)
  | 0, _, _, _, _, _, _, _, _, _, _, _, H => by cases H
  | m1 + 1, b, p1, p2, p3, p4, c1, c2, c3, c4, c5, c6, H => WL_succ (L44.b1_ok hV (L44.l1 q k m1) m1 (fun b p1 p2 p3 p4 c1 c2 c3 c4 c5 c6 H => L44.l1_ok hV q k m1 b p1 p2 p3 p4 c1 c2 c3 c4 c5 c6 H) q k b p1 p2 p3 p4 c1 c2 c3 c4 c5 c6 H)
noncomputable def L44.f (q k : Nat) (p1 : List T814c.T) : Option L44.R :=
  L44.l1 q k k false p1 (p1.length : Int) 0 [] [] 0 0 [] 0 []
theorem L44.f_ok (hV : EnvOk P L44.V) {r : L44.R} (q k : Nat) (p1 : List T814c.T) (H : L44.f q k p1 = some r) : W P 0 L44.c0 (⟨23, [(0, .cv (.one (.sl T814c p1 .any)))], []⟩) (L44.Q r) := by
  unfold L44.f at H
  refine D_seq (by kernel_rfl) ?_
  refine D_reg (cs := []) (τ := ⟨23, [(0, .cv (.one (.sl T814c p1 .any)))], []⟩) hV 0 [] {live := [0], src := []} (by kernel_rfl) (by kernel_rfl) trivial ?_
  refine th_n ?_
  refine D_seq (by kernel_rfl) ?_
  refine D_reg (cs := []) (τ := ⟨23, [(0, .cv (.one (.sl T814c p1 .any))), (3, .cv (.one (.nils)))], []⟩) hV 0 [] {live := [0, 3], src := []} (by kernel_rfl) (by kernel_rfl) trivial ?_
  refine th_n ?_
  refine D_seq (by kernel_rfl) ?_
  refine D_seq (by kernel_rfl) ?_
  refine D_reg (cs := []) (τ := ⟨23, [(3, .cv (.one (.nils))), (6, .cv (.one (.sl T814c p1 .any))), (7, .cv (.one (.int .i64 (p1.length : Int)))), (8, .cv (.one (.int .i64 0)))], []⟩) hV 0 [] {live := [3, 6, 7, 8], src := []} (by kernel_rfl) (by kernel_rfl) trivial ?_
  refine th_n ?_
  refine D_block (id := 0) (by kernel_rfl) ?_
  refine W_tell (τ := L44.s1 false p1 (p1.length : Int) 0 [] [] 0 0 [] 0 []) {fz := [], gr := 1, ad := [.ownT 3 0 49 T814c], live := [3, 6, 7, 8], src := [some 0]} (by kernel_rfl) (by kernel_rfl) ?_
  exact D_loop (by kernel_rfl) k (L44.l1_ok hV q k k false p1 (p1.length : Int) 0 [] [] 0 0 [] 0 [] H)
theorem L44.ok {r : L44.R} (q k : Nat) (p1 : List T814c.T) (H : L44.f q k p1 = some r) : W P 0 L44.c0 (L44.s0 p1) (CallQ 0 (L44.out r)) := L44.f_ok L44.V_ok q k p1 H
/-! ### function 44 with one of the slices kept apart -/
section
abbrev L44.E := T814c.T
theorem L44.clone (k : Nat) (y : List T1383.T) (h : y.length * 48 ≤ 140737488355328) : f_slices_Clone_Rule.f k y = some (y, ()) := by
  unfold f_slices_Clone_Rule.f
  rw [if_pos (by omega), if_pos (.inl rfl)]
  rfl
theorem L44.cloneo (k : Nat) (y : List T1383.T) (h : y.length * 48 ≤ 140737488355328) : f_slices_Clone_Ruleo.f k y = some (y, ()) := by
  unfold f_slices_Clone_Ruleo.f
  rw [if_pos (by omega), if_pos (.inl rfl)]
  rfl
theorem L44.wrap {n : Nat} (h : n * 32 ≤ 140737488355328) {j : Nat} (hj : j < n) : IntKind.i64.wrap ((j : Int) + 1) = ((j + 1 : Nat) : Int) := by
  rw [IntKind.wrap_i64]; omega
theorem L44.att_eq (xs : List L44.E) (j : Nat) (h : j < xs.length) : att T814c xs (j : Int) = xs[j] := by
  unfold att
  simp [h]
theorem L44.fit {xs : List L44.E} (h : lnkFit 32 48 xs = true) : (xs.length + 1) * 32 ≤ 140737488355328 ∧ ∀ j (hj : j < xs.length), (xs[j]).2.length * 48 ≤ 140737488355328 := by
  unfold lnkFit at h
  simp only [Bool.and_eq_true, List.all_eq_true] at h
  exact ⟨Nat.le_of_ble_eq_true h.1, fun j hj => Nat.le_of_ble_eq_true (h.2 _ (List.getElem_mem hj))⟩
theorem L44.runC (q k : Nat) (xs : List L44.E) (hf : lnkFit 32 48 xs = true) (i : Nat) (ys : List T1383.T) : ∀ (d j : Nat) (zs : List L44.E), d = xs.length - j → j ≤ xs.length → zs.length = j → ∀ m, d < m →
    L44.l1 q k m true [] 0 0 [] xs (xs.length : Int) (j : Int) zs i ys = some (zs ++ xs.drop j, (i, (ys, ()))) := by
  obtain ⟨f1, f2⟩ := L44.fit hf
  intro d
  induction d with
  | zero =>
    intro j zs hd hj hz m hm
    obtain ⟨m, rfl⟩ : ∃ m', m = m' + 1 := ⟨m - 1, by omega⟩
    obtain rfl : j = xs.length := by omega
    simp only [L44.l1, L44.b1]
    rw [if_neg (by simp), List.drop_length, List.append_nil]
  | succ d ih =>
    intro j zs hd hj hz m hm
    obtain ⟨m, rfl⟩ : ∃ m', m = m' + 1 := ⟨m - 1, by omega⟩
    have hlt : j < xs.length := by omega
    simp only [L44.l1, L44.b1]
    rw [if_pos (by simp; omega), if_pos (by omega), if_pos (by omega), L44.att_eq xs j hlt, L44.clone k _ (f2 j hlt)]
    simp only [Option.bind_some]
    rw [if_pos (by rw [hz]; omega)]
    unfold L44.j2
    rw [L44.wrap (n := xs.length) (by omega) hlt, ih (j + 1) _ (by omega) (by omega) (by simp [hz]) m (by omega), List.append_assoc]
    congr 2
    show zs ++ (xs[j] :: xs.drop (j + 1)) = _
    rw [List.drop_eq_getElem_cons hlt]
theorem L44.runA (k : Nat) (xs : List L44.E) (hf : lnkFit 32 48 xs = true) (q : Nat) (hq : q < xs.length) : ∀ (d j : Nat), d = q - j → j ≤ q → ∀ m, xs.length - j < m →
    L44.l1 q k m false xs (xs.length : Int) (j : Int) (xs.take j) [] 0 0 [] 0 [] = some (xs.take q ++ [((xs[q]).1, [])] ++ xs.drop (q + 1), (q, ((xs[q]).2, ()))) := by
  obtain ⟨f1, f2⟩ := L44.fit hf
  intro d
  induction d with
  | zero =>
    intro j hd hj m hm
    obtain ⟨m, rfl⟩ : ∃ m', m = m' + 1 := ⟨m - 1, by omega⟩
    obtain rfl : j = q := by omega
    have htl : (xs.take j).length = j := by rw [List.length_take]; omega
    simp only [L44.l1, L44.b1]
    rw [if_pos (by simp; omega), if_pos (by omega), if_pos (by omega), if_pos htl, L44.att_eq xs j hq, L44.cloneo k _ (f2 j hq)]
    simp only [Option.bind_some]
    rw [if_pos (by rw [htl]; omega)]
    unfold L44.j2
    rw [htl, L44.wrap (n := xs.length) (by omega) hq]
    exact L44.runC j k xs hf j _ (xs.length - (j + 1)) (j + 1) _ rfl (by omega) (by simp; omega) m (by omega)
  | succ d ih =>
    intro j hd hj m hm
    obtain ⟨m, rfl⟩ : ∃ m', m = m' + 1 := ⟨m - 1, by omega⟩
    have hlt : j < xs.length := by omega
    have htl : (xs.take j).length = j := by rw [List.length_take]; omega
    simp only [L44.l1, L44.b1]
    rw [if_pos (by simp; omega), if_pos (by omega), if_pos (by omega), if_neg (by rw [htl]; omega), L44.att_eq xs j hlt, L44.clone k _ (f2 j hlt)]
    simp only [Option.bind_some]
    rw [if_pos (by rw [htl]; omega), L44.wrap (n := xs.length) (by omega) hlt]
    have hs : xs.take j ++ [((xs[j]).1, (xs[j]).2)] = xs.take (j + 1) := by
      show xs.take j ++ [xs[j]] = _
      rw [List.take_append_getElem hlt]
    rw [hs]
    exact ih (j + 1) (by omega) (by omega) m (by omega)
theorem L44.prim : LnkOk P 44 49 39 (.int .i64) T1383 32 48 where
  enter := enters_of Go.Proofs.Try.func44 (by kernel_rfl : Go.Proofs.Try.f44.body = some ((Go.Proofs.Try.f44.body).getD .skip)) (by decide)
  calls := fun F xs i x v w hF hv hx hfit => by
    obtain ⟨hi, hxi⟩ := List.getElem?_eq_some_iff.1 hx
    have hrun := L44.runA (xs.length + 1) xs hfit i hi i 0 rfl (Nat.zero_le _) (xs.length + 1) (by omega)
    have hl : (xs.take i).length = i := by rw [List.length_take]; omega
    rw [hxi] at hrun
    exact lnk_of (i := i) (ys := x.2) (x := ((x.1, []) : L44.E)) (zs := xs.take i ++ [(x.1, [])] ++ xs.drop (i + 1)) tt_ck Go.Proofs.Try.func44 (by kernel_rfl : Go.Proofs.Try.f44.body = some ((Go.Proofs.Try.f44.body).getD .skip)) (by kernel_rfl) (by decide) (L44.ok i (xs.length + 1) xs hrun) (by rw [List.append_assoc, List.take_append_of_le_length (by omega), List.take_of_length_le (by omega)]) (by rw [List.append_assoc, List.getElem?_append_right (by omega), hl, Nat.sub_self]; rfl) (by rw [List.drop_append_of_le_length (by simp; omega), List.drop_of_length_le (by simp; omega), List.nil_append]) (by simp; omega) hF hv
end

/-! ### f_bits_bound: function 77, wayfinder/bits.bound -/
abbrev f_bits_bound.ps : Sg := [(false, (.int .i64))]
abbrev f_bits_bound.rs : Sg := [(false, (.int .i64))]
noncomputable def f_bits_bound.c0 : Code := (Go.Proofs.Try.f77.body).getD .skip
noncomputable def f_bits_bound.G : List (Nat × Spec) := []
noncomputable def f_bits_bound.V : Env := { tt := tt, Γ := slk f_bits_bound.G }
noncomputable abbrev f_bits_bound.Q (r : Tup f_bits_bound.rs) : Exit → St → Prop := Qr tt Go.Proofs.Try.f77.results ⟨f_bits_bound.ps, f_bits_bound.rs, .any, none, fun _ _ => True⟩ r
abbrev f_bits_bound.R := Tup f_bits_bound.rs
noncomputable def f_bits_bound.f (k : Nat) (a1 : Int) : Option f_bits_bound.R :=
  some ((if 32 < (if 0 > a1 then 0 else a1) then 32 else (if 0 > a1 then 0 else a1)), ())
noncomputable def f_bits_bound.S : Spec := ⟨f_bits_bound.ps, f_bits_bound.rs, .any, none, fun x r => ∃ k, f_bits_bound.f k x.1 = some r⟩
theorem f_bits_bound.f_ok (hV : EnvOk P f_bits_bound.V) {r : f_bits_bound.R} (k : Nat) (a1 : Int) (H : f_bits_bound.f k a1 = some r) : W P 0 f_bits_bound.c0 (⟨6, [(0, .cv (.one (.int .i64 a1)))], []⟩) (f_bits_bound.Q r) := by
  unfold f_bits_bound.f at H
  refine D_seq (by kernel_rfl) ?_
  refine D_reg (cs := []) (τ := ⟨6, [(0, .cv (.one (.int .i64 a1)))], []⟩) hV 0 [] {live := [0], src := []} (by kernel_rfl) (by kernel_rfl) trivial ?_
  refine th_n ?_
  refine D_seq (by kernel_rfl) ?_
  refine D_reg (cs := []) (τ := ⟨6, [(2, .cv (.one (.int .i64 (if 32 < (if 0 > a1 then 0 else a1) then 32 else (if 0 > a1 then 0 else a1)))))], []⟩) hV 0 [] {live := [2], src := []} (by kernel_rfl) (by kernel_rfl) trivial ?_
  refine th_n ?_
  refine D_ret (by kernel_rfl) ?_
  exact lf_r (Eq.trans (by kernel_rfl) H)
theorem f_bits_bound.V_ok : EnvOk P f_bits_bound.V := { ck := tt_ck, fits := slk_nil, mixed := mixed }
theorem f_bits_bound.fits : Fits P 77 f_bits_bound.S := fits_of f_bits_bound.V_ok Go.Proofs.Try.func77 (by kernel_rfl) (by decide) (by decide) rfl (fun x r ⟨k, H⟩ => f_bits_bound.f_ok f_bits_bound.V_ok k x.1 H)
/-! ### f_bits_Mask: function 71, wayfinder/bits.Mask -/
abbrev f_bits_Mask.ps : Sg := [(false, (.int .i64))]
abbrev f_bits_Mask.rs : Sg := [(false, (.int .i64))]
noncomputable def f_bits_Mask.c0 : Code := (Go.Proofs.Try.f71.body).getD .skip
noncomputable def f_bits_Mask.G : List (Nat × Spec) := [(77, f_bits_bound.S)]
noncomputable def f_bits_Mask.V : Env := { tt := tt, Γ := slk f_bits_Mask.G }
noncomputable abbrev f_bits_Mask.Q (r : Tup f_bits_Mask.rs) : Exit → St → Prop := Qr tt Go.Proofs.Try.f71.results ⟨f_bits_Mask.ps, f_bits_Mask.rs, .any, none, fun _ _ => True⟩ r
abbrev f_bits_Mask.R := Tup f_bits_Mask.rs
noncomputable def f_bits_Mask.f (k : Nat) (a1 : Int) : Option f_bits_Mask.R :=
  (f_bits_bound.f k a1).bind fun y1 =>
    if 0 ≤ (IntKind.i64.wrap (32 - y1.1)) then
      some ((IntKind.i64.wrap (IntKind.u32.wrap (IntKind.u64.wrap (4294967295 * (2 ^ (min (IntKind.i64.wrap (32 - y1.1)).toNat (IntKind.u64.bits))))))), ())
    else none
noncomputable def f_bits_Mask.S : Spec := ⟨f_bits_Mask.ps, f_bits_Mask.rs, .any, none, fun x r => ∃ k, f_bits_Mask.f k x.1 = some r⟩
theorem f_bits_Mask.f_ok (hV : EnvOk P f_bits_Mask.V) {r : f_bits_Mask.R} (k : Nat) (a1 : Int) (H : f_bits_Mask.f k a1 = some r) : W P 0 f_bits_Mask.c0 (⟨11, [(0, .cv (.one (.int .i64 a1)))], []⟩) (f_bits_Mask.Q r) := by
  unfold f_bits_Mask.f at H
  refine D_seq (by kernel_rfl) ?_
  refine D_reg (cs := []) (τ := ⟨11, [(0, .cv (.one (.int .i64 a1)))], []⟩) hV 0 [] {live := [0], src := []} (by kernel_rfl) (by kernel_rfl) trivial ?_
  refine th_n ?_
  refine D_seq (by kernel_rfl) ?_
  obtain ⟨y1, e2, H⟩ := of_bind H
  obtain ⟨n3, H⟩ := of_if H
  refine D_reg (cs := [f_bits_bound.S.rel (a1, ()) y1, 0 ≤ (IntKind.i64.wrap (32 - y1.1))]) (τ := ⟨11, [(3, .cv (.one (.int .u64 (IntKind.u64.wrap (4294967295 * (2 ^ (min (IntKind.i64.wrap (32 - y1.1)).toNat (IntKind.u64.bits))))))))], []⟩) hV 0 [(1, {res := some ⟨f_bits_bound.S.rs, y1⟩})] {live := [3], src := []} (by kernel_rfl) (by kernel_rfl) ⟨⟨k, e2⟩, n3, trivial⟩ ?_
  refine th_n ?_
  refine D_seq (by kernel_rfl) ?_
  refine D_reg (cs := []) (τ := ⟨11, [(2, .cv (.one (.int .i64 (IntKind.i64.wrap (IntKind.u32.wrap (IntKind.u64.wrap (4294967295 * (2 ^ (min (IntKind.i64.wrap (32 - y1.1)).toNat (IntKind.u64.bits))))))))))], []⟩) hV 0 [] {live := [2], src := []} (by kernel_rfl) (by kernel_rfl) trivial ?_
  refine th_n ?_
  refine D_ret (by kernel_rfl) ?_
  exact lf_r (Eq.trans (by kernel_rfl) H)
theorem f_bits_Mask.V_ok : EnvOk P f_bits_Mask.V := { ck := tt_ck, fits := slk_cons f_bits_bound.fits (slk_nil), mixed := mixed }
theorem f_bits_Mask.fits : Fits P 71 f_bits_Mask.S := fits_of f_bits_Mask.V_ok Go.Proofs.Try.func71 (by kernel_rfl) (by decide) (by decide) rfl (fun x r ⟨k, H⟩ => f_bits_Mask.f_ok f_bits_Mask.V_ok k x.1 H)
/-! ### f_bits_May: function 57, wayfinder/bits.May -/
abbrev f_bits_May.ps : Sg := [(true, T713d)]
abbrev f_bits_May.rs : Sg := [(false, .bool)]
noncomputable def f_bits_May.c0 : Code := (Go.Proofs.Try.f57.body).getD .skip
noncomputable def f_bits_May.G : List (Nat × Spec) := [(71, f_bits_Mask.S)]
noncomputable def f_bits_May.V : Env := { tt := tt, Γ := slk f_bits_May.G }
noncomputable abbrev f_bits_May.Q (r : Tup f_bits_May.rs) : Exit → St → Prop := Qr tt Go.Proofs.Try.f57.results ⟨f_bits_May.ps, f_bits_May.rs, .any, none, fun _ _ => True⟩ r
abbrev f_bits_May.R := Tup f_bits_May.rs
noncomputable def f_bits_May.f (k : Nat) (a1 : T713d.T) : Option f_bits_May.R :=
  if (decide (a1.2 ≥ (0 : Int))) = true then
    if (decide (a1.2 ≤ (32 : Int))) = true then
      if (decide (a1.1 ≥ (0 : Int))) = true then
        if (decide (a1.1 ≤ (4294967295 : Int))) = true then
          (f_bits_Mask.f k a1.2).bind fun y1 =>
            some (((IntKind.i64.wrap (((BitVec.ofInt IntKind.i64.bits a1.1 &&& ~~~ BitVec.ofInt IntKind.i64.bits y1.1).toNat : Int))) == (0 : Int)), ())
        else
          some (false, ())
      else
        some (false, ())
    else
      some (false, ())
  else
    some (false, ())
noncomputable def f_bits_May.S : Spec := ⟨f_bits_May.ps, f_bits_May.rs, .any, none, fun x r => ∃ k, f_bits_May.f k x.1 = some r⟩
theorem f_bits_May.f_ok (hV : EnvOk P f_bits_May.V) {r : f_bits_May.R} (k : Nat) (a1 : T713d.T) (H : f_bits_May.f k a1 = some r) : W P 0 f_bits_May.c0 (⟨30, [(0, .cv (.agg [.int .i64 a1.1, .int .i64 a1.2]))], []⟩) (f_bits_May.Q r) := by
  unfold f_bits_May.f at H
  refine D_seq (by kernel_rfl) ?_
  refine D_reg (cs := []) (τ := ⟨30, [(1, .cv (.one (.ptr 0 0)))], [(.box 2, [.int .i64 a1.1, .int .i64 a1.2])]⟩) hV 1 [(0, {sb := 0})] {live := [1], src := [some 0]} (by kernel_rfl) (by kernel_rfl) trivial ?_
  refine th_n ?_
  refine D_seq (by kernel_rfl) ?_
  rcases of_ite H with ⟨hb2, H⟩ | ⟨hb2, H⟩
  · rcases of_ite H with ⟨hb3, H⟩ | ⟨hb3, H⟩
    · rcases of_ite H with ⟨hb4, H⟩ | ⟨hb4, H⟩
      · rcases of_ite H with ⟨hb5, H⟩ | ⟨hb5, H⟩
        · obtain ⟨y1, e6, H⟩ := of_bind H
          refine D_reg (cs := [((decide (a1.2 ≥ (0 : Int)))) = true, ((decide (a1.2 ≤ (32 : Int)))) = true, ((decide (a1.1 ≥ (0 : Int)))) = true, ((decide (a1.1 ≤ (4294967295 : Int)))) = true, f_bits_Mask.S.rel (a1.2, ()) y1]) (τ := ⟨30, [(2, .cv (.one (.bool ((IntKind.i64.wrap (((BitVec.ofInt IntKind.i64.bits a1.1 &&& ~~~ BitVec.ofInt IntKind.i64.bits y1.1).toNat : Int))) == (0 : Int)))))], []⟩) hV 0 [(2, {bv := some true}), (7, {bv := some true}), (12, {bv := some true}), (17, {bv := some true}), (23, {res := some ⟨f_bits_Mask.S.rs, y1⟩})] {live := [2], src := []} (by kernel_rfl) (by kernel_rfl) ⟨hb2, hb3, hb4, hb5, ⟨k, e6⟩, trivial⟩ ?_
          refine th_n ?_
          refine D_ret (by kernel_rfl) ?_
          exact lf_r (Eq.trans (by kernel_rfl) H)
        · refine D_reg (cs := [((decide (a1.2 ≥ (0 : Int)))) = true, ((decide (a1.2 ≤ (32 : Int)))) = true, ((decide (a1.1 ≥ (0 : Int)))) = true, ((decide (a1.1 ≤ (4294967295 : Int)))) = false]) (τ := ⟨30, [(2, .cv (.one (.bool false)))], []⟩) hV 0 [(2, {bv := some true}), (7, {bv := some true}), (12, {bv := some true}), (17, {bv := some false})] {live := [2], src := []} (by kernel_rfl) (by kernel_rfl) ⟨hb2, hb3, hb4, hb5, trivial⟩ ?_
          refine th_n ?_
          refine D_ret (by kernel_rfl) ?_
          exact lf_r (Eq.trans (by kernel_rfl) H)
      · refine D_reg (cs := [((decide (a1.2 ≥ (0 : Int)))) = true, ((decide (a1.2 ≤ (32 : Int)))) = true, ((decide (a1.1 ≥ (0 : Int)))) = false]) (τ := ⟨30, [(2, .cv (.one (.bool false)))], []⟩) hV 0 [(2, {bv := some true}), (7, {bv := some true}), (12, {bv := some false})] {live := [2], src := []} (by kernel_rfl) (by kernel_rfl) ⟨hb2, hb3, hb4, trivial⟩ ?_
        refine th_n ?_
        refine D_ret (by kernel_rfl) ?_
        exact lf_r (Eq.trans (by kernel_rfl) H)
    · refine D_reg (cs := [((decide (a1.2 ≥ (0 : Int)))) = true, ((decide (a1.2 ≤ (32 : Int)))) = false]) (τ := ⟨30, [(2, .cv (.one (.bool false)))], []⟩) hV 0 [(2, {bv := some true}), (7, {bv := some false})] {live := [2], src := []} (by kernel_rfl) (by kernel_rfl) ⟨hb2, hb3, trivial⟩ ?_
      refine th_n ?_
      refine D_ret (by kernel_rfl) ?_
      exact lf_r (Eq.trans (by kernel_rfl) H)
  · refine D_reg (cs := [((decide (a1.2 ≥ (0 : Int)))) = false]) (τ := ⟨30, [(2, .cv (.one (.bool false)))], []⟩) hV 0 [(2, {bv := some false})] {live := [2], src := []} (by kernel_rfl) (by kernel_rfl) ⟨hb2, trivial⟩ ?_
    refine th_n ?_
    refine D_ret (by kernel_rfl) ?_
    exact lf_r (Eq.trans (by kernel_rfl) H)
theorem f_bits_May.V_ok : EnvOk P f_bits_May.V := { ck := tt_ck, fits := slk_cons f_bits_Mask.fits (slk_nil), mixed := mixed }
theorem f_bits_May.fits : Fits P 57 f_bits_May.S := fits_of f_bits_May.V_ok Go.Proofs.Try.func57 (by kernel_rfl) (by decide) (by decide) rfl (fun x r ⟨k, H⟩ => f_bits_May.f_ok f_bits_May.V_ok k x.1 H)
/-! ### f_rule_May: function 34, wayfinder/rule.May -/
abbrev f_rule_May.ps : Sg := [(true, T1383)]
abbrev f_rule_May.rs : Sg := [(false, .bool)]
noncomputable def f_rule_May.c0 : Code := (Go.Proofs.Try.f34.body).getD .skip
noncomputable def f_rule_May.G : List (Nat × Spec) := [(57, f_bits_May.S)]
noncomputable def f_rule_May.V : Env := { tt := tt, Γ := slk f_rule_May.G }
noncomputable abbrev f_rule_May.Q (r : Tup f_rule_May.rs) : Exit → St → Prop := Qr tt Go.Proofs.Try.f34.results ⟨f_rule_May.ps, f_rule_May.rs, .any, none, fun _ _ => True⟩ r
abbrev f_rule_May.R := Tup f_rule_May.rs
noncomputable def f_rule_May.s1 (p1 : Bool) (p2 : T1383.T) : St := ⟨52, [(1, .cv (.one (.ptr 0 0))), (3, .cv (.one (.bool p1)))], [(.box 6, [.int .i64 p2.1.1, .int .i64 p2.1.2, .int .i64 p2.2.1, .int .i64 p2.2.2.1, .int .i64 p2.2.2.2.1, .int .i64 p2.2.2.2.2])]⟩
noncomputable def f_rule_May.j1 (k : Nat) (p1 : Bool) (p2 : T1383.T) : Option f_rule_May.R :=
  if p1 = true then
  (f_bits_May.f k p2.1).bind fun y2 =>
    if y2.1 = true then
      if (decide (p2.2.1 ≥ (-1 : Int))) = true then
        if (decide (p2.2.1 ≤ (7 : Int))) = true then
          if (decide (p2.2.2.1 ≥ (0 : Int))) = true then
            some ((decide (p2.2.2.1 ≤ (255 : Int))), ())
          else
            some (false, ())
        else
          some (false, ())
      else
        some (false, ())
    else
      some (false, ())
else
  some (false, ())
theorem f_rule_May.j1_ok (hV : EnvOk P f_rule_May.V) {r : f_rule_May.R} (k : Nat) (p1 : Bool) (p2 : T1383.T) (H : f_rule_May.j1 k p1 p2 = some r) : W P 0 (Code.r (Code.r f_rule_May.c0)) (f_rule_May.s1 p1 p2) (f_rule_May.Q r) := by
  unfold f_rule_May.j1 at H
  refine D_seq (by kernel_rfl) ?_
  rcases of_ite H with ⟨hb3, H⟩ | ⟨hb3, H⟩
  · obtain ⟨y2, e4, H⟩ := of_bind H
    rcases of_ite H with ⟨hb5, H⟩ | ⟨hb5, H⟩
    · rcases of_ite H with ⟨hb6, H⟩ | ⟨hb6, H⟩
      · rcases of_ite H with ⟨hb7, H⟩ | ⟨hb7, H⟩
        · rcases of_ite H with ⟨hb8, H⟩ | ⟨hb8, H⟩
          · refine D_reg (cs := [(p1) = true, f_bits_May.S.rel (p2.1, ()) y2, (y2.1) = true, ((decide (p2.2.1 ≥ (-1 : Int)))) = true, ((decide (p2.2.1 ≤ (7 : Int)))) = true, ((decide (p2.2.2.1 ≥ (0 : Int)))) = true]) (τ := ⟨52, [(2, .cv (.one (.bool (decide (p2.2.2.1 ≤ (255 : Int))))))], []⟩) hV 0 [(0, {bv := some true}), (4, {res := some ⟨f_bits_May.S.rs, y2⟩}), (5, {bv := some true}), (10, {bv := some true}), (15, {bv := some true}), (20, {bv := some true})] {live := [2], src := []} (by kernel_rfl) (by kernel_rfl) ⟨hb3, ⟨k, e4⟩, hb5, hb6, hb7, hb8, trivial⟩ ?_
            refine th_n ?_
            refine D_ret (by kernel_rfl) ?_
            exact lf_r (Eq.trans (by kernel_rfl) H)
          · refine D_reg (cs := [(p1) = true, f_bits_May.S.rel (p2.1, ()) y2, (y2.1) = true, ((decide (p2.2.1 ≥ (-1 : Int)))) = true, ((decide (p2.2.1 ≤ (7 : Int)))) = true, ((decide (p2.2.2.1 ≥ (0 : Int)))) = false]) (τ := ⟨52, [(2, .cv (.one (.bool false)))], []⟩) hV 0 [(0, {bv := some true}), (4, {res := some ⟨f_bits_May.S.rs, y2⟩}), (5, {bv := some true}), (10, {bv := some true}), (15, {bv := some true}), (20, {bv := some false})] {live := [2], src := []} (by kernel_rfl) (by kernel_rfl) ⟨hb3, ⟨k, e4⟩, hb5, hb6, hb7, hb8, trivial⟩ ?_
            refine th_n ?_
            refine D_ret (by kernel_rfl) ?_
            exact lf_r (Eq.trans (by kernel_rfl) H)
        · refine D_reg (cs := [(p1) = true, f_bits_May.S.rel (p2.1, ()) y2, (y2.1) = true, ((decide (p2.2.1 ≥ (-1 : Int)))) = true, ((decide (p2.2.1 ≤ (7 : Int)))) = false]) (τ := ⟨52, [(2, .cv (.one (.bool false)))], []⟩) hV 0 [(0, {bv := some true}), (4, {res := some ⟨f_bits_May.S.rs, y2⟩}), (5, {bv := some true}), (10, {bv := some true}), (15, {bv := some false})] {live := [2], src := []} (by kernel_rfl) (by kernel_rfl) ⟨hb3, ⟨k, e4⟩, hb5, hb6, hb7, trivial⟩ ?_
          refine th_n ?_
          refine D_ret (by kernel_rfl) ?_
          exact lf_r (Eq.trans (by kernel_rfl) H)
      · refine D_reg (cs := [(p1) = true, f_bits_May.S.rel (p2.1, ()) y2, (y2.1) = true, ((decide (p2.2.1 ≥ (-1 : Int)))) = false]) (τ := ⟨52, [(2, .cv (.one (.bool false)))], []⟩) hV 0 [(0, {bv := some true}), (4, {res := some ⟨f_bits_May.S.rs, y2⟩}), (5, {bv := some true}), (10, {bv := some false})] {live := [2], src := []} (by kernel_rfl) (by kernel_rfl) ⟨hb3, ⟨k, e4⟩, hb5, hb6, trivial⟩ ?_
        refine th_n ?_
        refine D_ret (by kernel_rfl) ?_
        exact lf_r (Eq.trans (by kernel_rfl) H)
    · refine D_reg (cs := [(p1) = true, f_bits_May.S.rel (p2.1, ()) y2, (y2.1) = false]) (τ := ⟨52, [(2, .cv (.one (.bool false)))], []⟩) hV 0 [(0, {bv := some true}), (4, {res := some ⟨f_bits_May.S.rs, y2⟩}), (5, {bv := some false})] {live := [2], src := []} (by kernel_rfl) (by kernel_rfl) ⟨hb3, ⟨k, e4⟩, hb5, trivial⟩ ?_
      refine th_n ?_
      refine D_ret (by kernel_rfl) ?_
      exact lf_r (Eq.trans (by kernel_rfl) H)
  · refine D_reg (cs := [(p1) = false]) (τ := ⟨52, [(2, .cv (.one (.bool false)))], []⟩) hV 0 [(0, {bv := some false})] {live := [2], src := []} (by kernel_rfl) (by kernel_rfl) ⟨hb3, trivial⟩ ?_
    refine th_n ?_
    refine D_ret (by kernel_rfl) ?_
    exact lf_r (Eq.trans (by kernel_rfl) H)
noncomputable def f_rule_May.f (k : Nat) (a1 : T1383.T) : Option f_rule_May.R :=
  if ((a1.2.2.2.1 == (0 : Int)) && ((a1.2.2.2.2 == (0 : Int)) && true)) = true then
    f_rule_May.j1 k true a1
  else
    if (a1.2.2.2.1 == (1 : Int)) = true then
      if (decide (a1.2.2.2.2 ≥ (0 : Int))) = true then
        f_rule_May.j1 k (decide (a1.2.2.2.2 ≤ (7 : Int))) a1
      else
        f_rule_May.j1 k false a1
    else
      f_rule_May.j1 k false a1
noncomputable def f_rule_May.S : Spec := ⟨f_rule_May.ps, f_rule_May.rs, .any, none, fun x r => ∃ k, f_rule_May.f k x.1 = some r⟩
theorem f_rule_May.f_ok (hV : EnvOk P f_rule_May.V) {r : f_rule_May.R} (k : Nat) (a1 : T1383.T) (H : f_rule_May.f k a1 = some r) : W P 0 f_rule_May.c0 (⟨52, [(0, .cv (.agg [.int .i64 a1.1.1, .int .i64 a1.1.2, .int .i64 a1.2.1, .int .i64 a1.2.2.1, .int .i64 a1.2.2.2.1, .int .i64 a1.2.2.2.2]))], []⟩) (f_rule_May.Q r) := by
  unfold f_rule_May.f at H
  refine D_seq (by kernel_rfl) ?_
  refine D_reg (cs := []) (τ := ⟨52, [(1, .cv (.one (.ptr 0 0)))], [(.box 6, [.int .i64 a1.1.1, .int .i64 a1.1.2, .int .i64 a1.2.1, .int .i64 a1.2.2.1, .int .i64 a1.2.2.2.1, .int .i64 a1.2.2.2.2])]⟩) hV 1 [(0, {sb := 0})] {live := [1], src := [some 0]} (by kernel_rfl) (by kernel_rfl) trivial ?_
  refine th_n ?_
  refine D_seq (by kernel_rfl) ?_
  rcases of_ite H with ⟨hb1, H⟩ | ⟨hb1, H⟩
  · refine D_reg (cs := [(((a1.2.2.2.1 == (0 : Int)) && ((a1.2.2.2.2 == (0 : Int)) && true))) = true]) (τ := ⟨52, [(1, .cv (.one (.ptr 0 0))), (3, .cv (.one (.bool true)))], [(.box 6, [.int .i64 a1.1.1, .int .i64 a1.1.2, .int .i64 a1.2.1, .int .i64 a1.2.2.1, .int .i64 a1.2.2.2.1, .int .i64 a1.2.2.2.2])]⟩) hV 0 [(3, {bv := some true})] {live := [1, 3], src := [some 0]} (by kernel_rfl) (by kernel_rfl) ⟨hb1, trivial⟩ ?_
    refine th_n ?_
    refine W_tell (τ := f_rule_May.s1 true a1) {fz := [], gr := 0, ad := [], live := [1, 3], src := [some 0]} (by kernel_rfl) (by kernel_rfl) ?_
    exact f_rule_May.j1_ok hV k true a1 H
  · rcases of_ite H with ⟨hb9, H⟩ | ⟨hb9, H⟩
    · rcases of_ite H with ⟨hb10, H⟩ | ⟨hb10, H⟩
      · refine D_reg (cs := [(((a1.2.2.2.1 == (0 : Int)) && ((a1.2.2.2.2 == (0 : Int)) && true))) = false, ((a1.2.2.2.1 == (1 : Int))) = true, ((decide (a1.2.2.2.2 ≥ (0 : Int)))) = true]) (τ := ⟨52, [(1, .cv (.one (.ptr 0 0))), (3, .cv (.one (.bool (decide (a1.2.2.2.2 ≤ (7 : Int))))))], [(.box 6, [.int .i64 a1.1.1, .int .i64 a1.1.2, .int .i64 a1.2.1, .int .i64 a1.2.2.1, .int .i64 a1.2.2.2.1, .int .i64 a1.2.2.2.2])]⟩) hV 0 [(3, {bv := some false}), (8, {bv := some true}), (14, {bv := some true})] {live := [1, 3], src := [some 0]} (by kernel_rfl) (by kernel_rfl) ⟨hb1, hb9, hb10, trivial⟩ ?_
        refine th_n ?_
        refine W_tell (τ := f_rule_May.s1 (decide (a1.2.2.2.2 ≤ (7 : Int))) a1) {fz := [], gr := 0, ad := [], live := [1, 3], src := [some 0]} (by kernel_rfl) (by kernel_rfl) ?_
        exact f_rule_May.j1_ok hV k (decide (a1.2.2.2.2 ≤ (7 : Int))) a1 H
      · refine D_reg (cs := [(((a1.2.2.2.1 == (0 : Int)) && ((a1.2.2.2.2 == (0 : Int)) && true))) = false, ((a1.2.2.2.1 == (1 : Int))) = true, ((decide (a1.2.2.2.2 ≥ (0 : Int)))) = false]) (τ := ⟨52, [(1, .cv (.one (.ptr 0 0))), (3, .cv (.one (.bool false)))], [(.box 6, [.int .i64 a1.1.1, .int .i64 a1.1.2, .int .i64 a1.2.1, .int .i64 a1.2.2.1, .int .i64 a1.2.2.2.1, .int .i64 a1.2.2.2.2])]⟩) hV 0 [(3, {bv := some false}), (8, {bv := some true}), (14, {bv := some false})] {live := [1, 3], src := [some 0]} (by kernel_rfl) (by kernel_rfl) ⟨hb1, hb9, hb10, trivial⟩ ?_
        refine th_n ?_
        refine W_tell (τ := f_rule_May.s1 false a1) {fz := [], gr := 0, ad := [], live := [1, 3], src := [some 0]} (by kernel_rfl) (by kernel_rfl) ?_
        exact f_rule_May.j1_ok hV k false a1 H
    · refine D_reg (cs := [(((a1.2.2.2.1 == (0 : Int)) && ((a1.2.2.2.2 == (0 : Int)) && true))) = false, ((a1.2.2.2.1 == (1 : Int))) = false]) (τ := ⟨52, [(1, .cv (.one (.ptr 0 0))), (3, .cv (.one (.bool false)))], [(.box 6, [.int .i64 a1.1.1, .int .i64 a1.1.2, .int .i64 a1.2.1, .int .i64 a1.2.2.1, .int .i64 a1.2.2.2.1, .int .i64 a1.2.2.2.2])]⟩) hV 0 [(3, {bv := some false}), (8, {bv := some false})] {live := [1, 3], src := [some 0]} (by kernel_rfl) (by kernel_rfl) ⟨hb1, hb9, trivial⟩ ?_
      refine th_n ?_
      refine W_tell (τ := f_rule_May.s1 false a1) {fz := [], gr := 0, ad := [], live := [1, 3], src := [some 0]} (by kernel_rfl) (by kernel_rfl) ?_
      exact f_rule_May.j1_ok hV k false a1 H
theorem f_rule_May.V_ok : EnvOk P f_rule_May.V := { ck := tt_ck, fits := slk_cons f_bits_May.fits (slk_nil), mixed := mixed }
theorem f_rule_May.fits : Fits P 34 f_rule_May.S := fits_of f_rule_May.V_ok Go.Proofs.Try.func34 (by kernel_rfl) (by decide) (by decide) rfl (fun x r ⟨k, H⟩ => f_rule_May.f_ok f_rule_May.V_ok k x.1 H)
/-! ### i_table_at_1_8ee: function 61, wayfinder/table.at$1, where it is called -/
noncomputable def i_table_at_1_8ee.c0 : Code := (Go.Proofs.Try.f61.body).getD .skip
noncomputable def i_table_at_1_8ee.G : List (Nat × Spec) := []
noncomputable def i_table_at_1_8ee.V : Env := { tt := tt, Γ := slk i_table_at_1_8ee.G }
theorem i_table_at_1_8ee.V_ok : EnvOk P i_table_at_1_8ee.V := { ck := tt_ck, fits := slk_nil, mixed := mixed }
abbrev i_table_at_1_8ee.R := (Bool) × (Int) × Unit
noncomputable def i_table_at_1_8ee.s0 (p1 : T814c.T) (p2 : Int) : St := ⟨8, [(0, .cv (.agg [.int .i64 p1.1, .sl T1383 p1.2 .any])), (1, .cv (.one (.ptr 0 0)))], [(.box 1, [.int .i64 p2])]⟩
noncomputable def i_table_at_1_8ee.out (r : i_table_at_1_8ee.R) : St := ⟨8, [(3, .cv (.one (.bool r.1)))], [(.box 1, [.int .i64 r.2.1])]⟩
abbrev i_table_at_1_8ee.Q (r : i_table_at_1_8ee.R) := CallQ 1 (i_table_at_1_8ee.out r)
noncomputable def i_table_at_1_8ee.f (k : Nat) (p1 : T814c.T) (p2 : Int) : Option i_table_at_1_8ee.R :=
  some ((p1.1 == p2), (p2, ()))
theorem i_table_at_1_8ee.f_ok (hV : EnvOk P i_table_at_1_8ee.V) {r : i_table_at_1_8ee.R} (k : Nat) (p1 : T814c.T) (p2 : Int) (H : i_table_at_1_8ee.f k p1 p2 = some r) : W P 1 i_table_at_1_8ee.c0 (⟨8, [(0, .cv (.agg [.int .i64 p1.1, .sl T1383 p1.2 .any])), (1, .cv (.one (.ptr 0 0)))], [(.box 1, [.int .i64 p2])]⟩) (i_table_at_1_8ee.Q r) := by
  unfold i_table_at_1_8ee.f at H
  refine D_seq (by kernel_rfl) ?_
  refine D_reg (cs := []) (τ := ⟨8, [(1, .cv (.one (.ptr 0 0))), (2, .cv (.one (.ptr 1 0)))], [(.box 1, [.int .i64 p2]), (.box 2, [.int .i64 p1.1, .sl T1383 p1.2 .any])]⟩) hV 1 [(0, {sb := 1})] {live := [1, 2], src := [some 0, some 1]} (by kernel_rfl) (by kernel_rfl) trivial ?_
  refine th_n ?_
  refine D_seq (by kernel_rfl) ?_
  refine D_reg (cs := []) (τ := ⟨8, [(3, .cv (.one (.bool (p1.1 == p2))))], [(.box 1, [.int .i64 p2])]⟩) hV 0 [] {live := [3], src := [some 0]} (by kernel_rfl) (by kernel_rfl) trivial ?_
  refine th_n ?_
  refine D_ret (by kernel_rfl) ?_
  obtain rfl := Option.some.inj H
  exact cq_r {fz := [], gr := 0, ad := [], live := [3], src := [some 0]} (by kernel_rfl) (by kernel_rfl)
theorem i_table_at_1_8ee.ok {r : i_table_at_1_8ee.R} (k : Nat) (p1 : T814c.T) (p2 : Int) (H : i_table_at_1_8ee.f k p1 p2 = some r) : W P 1 i_table_at_1_8ee.c0 (i_table_at_1_8ee.s0 p1 p2) (CallQ 1 (i_table_at_1_8ee.out r)) := i_table_at_1_8ee.f_ok i_table_at_1_8ee.V_ok k p1 p2 H
/-! ### i_slices_IndexFunc_Ver_aa5: function 67, slices.IndexFunc[[]wayfinder/api.Ver,wayfinder/api.Ver], where it is called -/
noncomputable def i_slices_IndexFunc_Ver_aa5.c0 : Code := (Go.Proofs.Try.f67.body).getD .skip
noncomputable def i_slices_IndexFunc_Ver_aa5.G : List (Nat × Spec) := []
noncomputable def i_slices_IndexFunc_Ver_aa5.V : Env := { tt := tt, Γ := slk i_slices_IndexFunc_Ver_aa5.G }
theorem i_slices_IndexFunc_Ver_aa5.V_ok : EnvOk P i_slices_IndexFunc_Ver_aa5.V := { ck := tt_ck, fits := slk_nil, mixed := mixed }
abbrev i_slices_IndexFunc_Ver_aa5.R := (Int) × (Int) × Unit
noncomputable def i_slices_IndexFunc_Ver_aa5.s0 (p1 : List T814c.T) (p2 : Int) : St := ⟨19, [(0, .cv (.one (.sl T814c p1 .any))), (1, .cv (.one (.fn 61 [] [(0, 0)])))], [(.box 1, [.int .i64 p2])]⟩
noncomputable def i_slices_IndexFunc_Ver_aa5.out (r : i_slices_IndexFunc_Ver_aa5.R) : St := ⟨19, [(4, .cv (.one (.int .i64 r.1)))], [(.box 1, [.int .i64 r.2.1])]⟩
abbrev i_slices_IndexFunc_Ver_aa5.Q (r : i_slices_IndexFunc_Ver_aa5.R) := CallQ 1 (i_slices_IndexFunc_Ver_aa5.out r)
noncomputable def i_slices_IndexFunc_Ver_aa5.s1 (p1 : List T814c.T) (p2 : Int) (p3 : Int) (p4 : Int) : St := ⟨19, [(0, .cv (.one (.sl T814c p1 .any))), (1, .cv (.one (.fn 61 [] [(0, 0)]))), (7, .cv (.one (.int .i64 p2))), (8, .cv (.one (.int .i64 p3)))], [(.box 1, [.int .i64 p4])]⟩
noncomputable def i_slices_IndexFunc_Ver_aa5.b1 (L1 : List T814c.T → Int → Int → Int → Option i_slices_IndexFunc_Ver_aa5.R) (k : Nat) (p1 : List T814c.T) (p2 : Int) (p3 : Int) (p4 : Int) : Option i_slices_IndexFunc_Ver_aa5.R :=
  if (decide (p3 < p2)) = true then
  if 0 ≤ p3 then
    if p3 < (p1.length : Int) then
      (i_table_at_1_8ee.f k (att T814c p1 p3) p4).bind fun y4 =>
        if y4.1 = true then
          some (p3, (y4.2.1, ()))
        else
          L1 p1 p2 (IntKind.i64.wrap (p3 + 1)) y4.2.1
    else none
  else none
else
  some ((-1), (p4, ()))
theorem i_slices_IndexFunc_Ver_aa5.b1_ok (hV : EnvOk P i_slices_IndexFunc_Ver_aa5.V) {r : i_slices_IndexFunc_Ver_aa5.R} (L1 : List T814c.T → Int → Int → Int → Option i_slices_IndexFunc_Ver_aa5.R) (m1 : Nat) (hL1 : ∀ (p1 : List T814c.T) (p2 : Int) (p3 : Int) (p4 : Int), L1 p1 p2 p3 p4 = some r → WL P 1 (Code.l (Code.l (Code.r (Code.l (Code.r i_slices_IndexFunc_Ver_aa5.c0))))) (blockW 0 (thenW P 1 (Code.r (Code.r i_slices_IndexFunc_Ver_aa5.c0)) (i_slices_IndexFunc_Ver_aa5.Q r))) m1 (i_slices_IndexFunc_Ver_aa5.s1 p1 p2 p3 p4)) (k : Nat) (p1 : List T814c.T) (p2 : Int) (p3 : Int) (p4 : Int) (H : i_slices_IndexFunc_Ver_aa5.b1 L1 k p1 p2 p3 p4 = some r) : W P 1 (Code.l (Code.l (Code.r (Code.l (Code.r i_slices_IndexFunc_Ver_aa5.c0))))) (i_slices_IndexFunc_Ver_aa5.s1 p1 p2 p3 p4) (roundW P 1 (Code.l (Code.l (Code.r (Code.l (Code.r i_slices_IndexFunc_Ver_aa5.c0))))) (blockW 0 (thenW P 1 (Code.r (Code.r i_slices_IndexFunc_Ver_aa5.c0)) (i_slices_IndexFunc_Ver_aa5.Q r))) m1) := by
  unfold i_slices_IndexFunc_Ver_aa5.b1 at H
  refine D_seq (by kernel_rfl) ?_
  refine D_reg (cs := []) (τ := ⟨19, [(0, .cv (.one (.sl T814c p1 .any))), (1, .cv (.one (.fn 61 [] [(0, 0)]))), (7, .cv (.one (.int .i64 p2))), (8, .cv (.one (.int .i64 p3))), (9, .cv (.one (.bool (decide (p3 < p2)))))], [(.box 1, [.int .i64 p4])]⟩) hV 0 [] {live := [0, 1, 7, 8, 9], src := [some 0]} (by kernel_rfl) (by kernel_rfl) trivial ?_
  refine th_n ?_
  refine D_seq (by kernel_rfl) ?_
  refine D_condB (t := 9) (b := (decide (p3 < p2))) (by kernel_rfl) (by kernel_rfl) (fun hb1 => ?_) (fun hb1 => ?_)
  · rw [if_pos hb1] at H
    refine D_skip (by kernel_rfl) ?_
    refine th_n ?_
    refine D_seq (by kernel_rfl) ?_
    refine D_block (id := 1) (by kernel_rfl) ?_
    refine D_seq (by kernel_rfl) ?_
    refine D_reg (cs := []) (τ := ⟨19, [(0, .cv (.one (.sl T814c p1 .any))), (1, .cv (.one (.fn 61 [] [(0, 0)]))), (5, .cv (.one (.int .i64 p3))), (7, .cv (.one (.int .i64 p2))), (8, .cv (.one (.int .i64 p3)))], [(.box 1, [.int .i64 p4])]⟩) hV 0 [] {live := [0, 1, 5, 7, 8], src := [some 0]} (by kernel_rfl) (by kernel_rfl) trivial ?_
    refine th_n ?_
    refine D_seq (by kernel_rfl) ?_
    refine D_regI [0, 1, 2, 3, 4, 5] (by kernel_rfl) (by kernel_rfl) ?_
    obtain ⟨n2, H⟩ := of_if H
    obtain ⟨n3, H⟩ := of_if H
    refine D_ev (cs := [0 ≤ p3, p3 < (p1.length : Int)]) (τ := ⟨19, [(0, .cv (.one (.sl T814c p1 .any))), (1, .cv (.one (.fn 61 [] [(0, 0)]))), (5, .cv (.one (.int .i64 p3))), (7, .cv (.one (.int .i64 p2))), (8, .cv (.one (.int .i64 p3))), (11, .cv (.one (.fn 61 [] [(0, 0)]))), (12, .cv (.one (.sl T814c p1 .any))), (13, .cv (.one (.int .i64 p3))), (14, .cv (.one (.rptr T814c (att T814c p1 p3) 0))), (15, .cv (.agg [.int .i64 ((att T814c p1 p3).1), .sl T1383 ((att T814c p1 p3).2) .any]))], [(.box 1, [.int .i64 p4])]⟩) hV 0 [] [0, 1, 2, 3, 4] [5] rfl (by kernel_rfl) ⟨n2, n3, trivial⟩ ?_
    obtain ⟨y4, e5, H⟩ := of_bind H
    refine D_call (f := 61) (N := 1) (cvs := [.agg [.int .i64 ((att T814c p1 p3).1), .sl T1383 ((att T814c p1 p3).2) .any], .one (.ptr 0 0)]) (σ0 := i_table_at_1_8ee.s0 (att T814c p1 p3) p4) (τ := i_table_at_1_8ee.out y4) (σ2 := ⟨19, [(0, .cv (.one (.sl T814c p1 .any))), (1, .cv (.one (.fn 61 [] [(0, 0)]))), (5, .cv (.one (.int .i64 p3))), (7, .cv (.one (.int .i64 p2))), (8, .cv (.one (.int .i64 p3))), (11, .cv (.one (.fn 61 [] [(0, 0)]))), (12, .cv (.one (.sl T814c p1 .any))), (13, .cv (.one (.int .i64 p3))), (14, .cv (.one (.rptr T814c (att T814c p1 p3) 0))), (15, .cv (.agg [.int .i64 ((att T814c p1 p3).1), .sl T1383 ((att T814c p1 p3).2) .any])), (16, .cv (.one (.bool y4.1)))], [(.box 1, [.int .i64 y4.2.1])]⟩) hV 5 (by kernel_rfl) Go.Proofs.Try.func61 (by kernel_rfl) (by decide) (by kernel_rfl) (by kernel_rfl) (by kernel_rfl) (i_table_at_1_8ee.ok k (att T814c p1 p3) p4 e5) (by kernel_rfl) ?_
    refine WO_tell (τ := ⟨19, [(0, .cv (.one (.sl T814c p1 .any))), (1, .cv (.one (.fn 61 [] [(0, 0)]))), (5, .cv (.one (.int .i64 p3))), (7, .cv (.one (.int .i64 p2))), (8, .cv (.one (.int .i64 p3))), (16, .cv (.one (.bool y4.1)))], [(.box 1, [.int .i64 y4.2.1])]⟩) {live := [0, 1, 5, 7, 8, 16], src := [some 0]} (by kernel_rfl) (by kernel_rfl) ?_
    refine WO_nil ?_
    refine th_n ?_
    refine D_condB (t := 16) (b := y4.1) (by kernel_rfl) (by kernel_rfl) (fun hb6 => ?_) (fun hb6 => ?_)
    · rw [if_pos hb6] at H
      refine D_seq (by kernel_rfl) ?_
      refine D_reg (cs := []) (τ := ⟨19, [(4, .cv (.one (.int .i64 p3)))], [(.box 1, [.int .i64 y4.2.1])]⟩) hV 0 [] {live := [4], src := [some 0]} (by kernel_rfl) (by kernel_rfl) trivial ?_
      refine th_n ?_
      refine D_ret (by kernel_rfl) ?_
      refine bl_r ?_
      refine th_r ?_
      refine ro_r ?_
      refine bl_r ?_
      refine th_r ?_
      obtain rfl := Option.some.inj H
      exact cq_r {fz := [], gr := 0, ad := [], live := [4], src := [some 0]} (by kernel_rfl) (by kernel_rfl)
    · rw [if_neg (by rw [hb6]; decide)] at H
      refine D_skip (by kernel_rfl) ?_
      refine bl_n ?_
      refine th_n ?_
      refine D_reg (cs := []) (τ := ⟨19, [(0, .cv (.one (.sl T814c p1 .any))), (1, .cv (.one (.fn 61 [] [(0, 0)]))), (7, .cv (.one (.int .i64 p2))), (8, .cv (.one (.int .i64 (IntKind.i64.wrap (p3 + 1)))))], [(.box 1, [.int .i64 y4.2.1])]⟩) hV 0 [] {live := [0, 1, 7, 8], src := [some 0]} (by kernel_rfl) (by kernel_rfl) trivial ?_
      refine ro_n (WL_tell (τ := i_slices_IndexFunc_Ver_aa5.s1 p1 p2 (IntKind.i64.wrap (p3 + 1)) y4.2.1) {fz := [], gr := 0, ad := [], live := [0, 1, 7, 8], src := [some 0]} (by kernel_rfl) (by kernel_rfl) ?_)
      exact hL1 p1 p2 (IntKind.i64.wrap (p3 + 1)) y4.2.1 H
  · rw [if_neg (by rw [hb1]; decide)] at H
    refine D_exit (id := 0) (by kernel_rfl) ?_
    refine th_x ?_
    refine ro_x ?_
    refine bl_h ?_
    refine th_n ?_
    refine D_seq (by kernel_rfl) ?_
    refine D_reg (cs := []) (τ := ⟨19, [(4, .cv (.one (.int .i64 (-1))))], [(.box 1, [.int .i64 p4])]⟩) hV 0 [] {live := [4], src := [some 0]} (by kernel_rfl) (by kernel_rfl) trivial ?_
    refine th_n ?_
    refine D_ret (by kernel_rfl) ?_
    obtain rfl := Option.some.inj H
    exact cq_r {fz := [], gr := 0, ad := [], live := [4], src := [some 0]} (by kernel_rfl) (by kernel_rfl)
noncomputable def i_slices_IndexFunc_Ver_aa5.l1 (k : Nat) : Nat → List T814c.T → Int → Int → Int → Option i_slices_IndexFunc_Ver_aa5.R
  | 0, _, _, _, _ => none
  | m + 1, p1, p2, p3, p4 => i_slices_IndexFunc_Ver_aa5.b1 (i_slices_IndexFunc_Ver_aa5.l1 k m) k p1 p2 p3 p4
theorem i_slices_IndexFunc_Ver_aa5.l1_ok (hV : EnvOk P i_slices_IndexFunc_Ver_aa5.V) {r : i_slices_IndexFunc_Ver_aa5.R} (k : Nat) : ∀ (m1 : Nat) (p1 : List T814c.T) (p2 : Int) (p3 : Int) (p4 : Int), i_slices_IndexFunc_Ver_aa5.l1 k m1 p1 p2 p3 p4 = some r → WL P 1 (Code.l (Code.l (Code.r (Code.l (Code.r i_slices_IndexFunc_Ver_aa5.c0))))) (blockW 0 (thenW P 1 (Code.r (Code.r i_slices_IndexFunc_Ver_aa5.c0)) (i_slices_IndexFunc_Ver_aa5.Q r))) m1 (i_slices_IndexFunc_Ver_aa5.s1 p1 p2 p3 p4)
  | 0, _, _, _, _, H => by cases H
  | m1 + 1, p1, p2, p3, p4, H => WL_succ (i_slices_IndexFunc_Ver_aa5.b1_ok hV (i_slices_IndexFunc_Ver_aa5.l1 k m1) m1 (fun p1 p2 p3 p4 H => i_slices_IndexFunc_Ver_aa5.l1_ok hV k m1 p1 p2 p3 p4 H) k p1 p2 p3 p4 H)
noncomputable def i_slices_IndexFunc_Ver_aa5.f (k : Nat) (p1 : List T814c.T) (p2 : Int) : Option i_slices_IndexFunc_Ver_aa5.R :=
  i_slices_IndexFunc_Ver_aa5.l1 k k p1 (p1.length : Int) 0 p2
theorem i_slices_IndexFunc_Ver_aa5.f_ok (hV : EnvOk P i_slices_IndexFunc_Ver_aa5.V) {r : i_slices_IndexFunc_Ver_aa5.R} (k : Nat) (p1 : List T814c.T) (p2 : Int) (H : i_slices_IndexFunc_Ver_aa5.f k p1 p2 = some r) : W P 1 i_slices_IndexFunc_Ver_aa5.c0 (⟨19, [(0, .cv (.one (.sl T814c p1 .any))), (1, .cv (.one (.fn 61 [] [(0, 0)])))], [(.box 1, [.int .i64 p2])]⟩) (i_slices_IndexFunc_Ver_aa5.Q r) := by
  unfold i_slices_IndexFunc_Ver_aa5.f at H
  refine D_seq (by kernel_rfl) ?_
  refine D_reg (cs := []) (τ := ⟨19, [(0, .cv (.one (.sl T814c p1 .any))), (1, .cv (.one (.fn 61 [] [(0, 0)])))], [(.box 1, [.int .i64 p2])]⟩) hV 0 [] {live := [0, 1], src := [some 0]} (by kernel_rfl) (by kernel_rfl) trivial ?_
  refine th_n ?_
  refine D_seq (by kernel_rfl) ?_
  refine D_seq (by kernel_rfl) ?_
  refine D_reg (cs := []) (τ := ⟨19, [(0, .cv (.one (.sl T814c p1 .any))), (1, .cv (.one (.fn 61 [] [(0, 0)]))), (7, .cv (.one (.int .i64 (p1.length : Int)))), (8, .cv (.one (.int .i64 0)))], [(.box 1, [.int .i64 p2])]⟩) hV 0 [] {live := [0, 1, 7, 8], src := [some 0]} (by kernel_rfl) (by kernel_rfl) trivial ?_
  refine th_n ?_
  refine D_block (id := 0) (by kernel_rfl) ?_
  refine W_tell (τ := i_slices_IndexFunc_Ver_aa5.s1 p1 (p1.length : Int) 0 p2) {fz := [], gr := 0, ad := [], live := [0, 1, 7, 8], src := [some 0]} (by kernel_rfl) (by kernel_rfl) ?_
  exact D_loop (by kernel_rfl) k (i_slices_IndexFunc_Ver_aa5.l1_ok hV k k p1 (p1.length : Int) 0 p2 H)
theorem i_slices_IndexFunc_Ver_aa5.ok {r : i_slices_IndexFunc_Ver_aa5.R} (k : Nat) (p1 : List T814c.T) (p2 : Int) (H : i_slices_IndexFunc_Ver_aa5.f k p1 p2 = some r) : W P 1 i_slices_IndexFunc_Ver_aa5.c0 (i_slices_IndexFunc_Ver_aa5.s0 p1 p2) (CallQ 1 (i_slices_IndexFunc_Ver_aa5.out r)) := i_slices_IndexFunc_Ver_aa5.f_ok i_slices_IndexFunc_Ver_aa5.V_ok k p1 p2 H
/-! ### i_table_first_Ver_aa5: function 48, wayfinder/table.first[wayfinder/api.Ver], where it is called -/
noncomputable def i_table_first_Ver_aa5.c0 : Code := (Go.Proofs.Try.f48.body).getD .skip
noncomputable def i_table_first_Ver_aa5.G : List (Nat × Spec) := []
noncomputable def i_table_first_Ver_aa5.V : Env := { tt := tt, Γ := slk i_table_first_Ver_aa5.G }
theorem i_table_first_Ver_aa5.V_ok : EnvOk P i_table_first_Ver_aa5.V := { ck := tt_ck, fits := slk_nil, mixed := mixed }
abbrev i_table_first_Ver_aa5.R := (Int) × (Int) × Unit
noncomputable def i_table_first_Ver_aa5.s0 (p1 : List T814c.T) (p2 : Int) : St := ⟨14, [(0, .cv (.one (.sl T814c p1 .any))), (1, .cv (.one (.fn 61 [] [(0, 0)])))], [(.box 1, [.int .i64 p2])]⟩
noncomputable def i_table_first_Ver_aa5.out (r : i_table_first_Ver_aa5.R) : St := ⟨14, [(4, .cv (.one (.int .i64 r.1)))], [(.box 1, [.int .i64 r.2.1])]⟩
abbrev i_table_first_Ver_aa5.Q (r : i_table_first_Ver_aa5.R) := CallQ 1 (i_table_first_Ver_aa5.out r)
noncomputable def i_table_first_Ver_aa5.f (k : Nat) (p1 : List T814c.T) (p2 : Int) : Option i_table_first_Ver_aa5.R :=
  (i_slices_IndexFunc_Ver_aa5.f k p1 p2).bind fun y1 =>
    if (decide (y1.1 ≥ (0 : Int))) = true then
      some (y1.1, (y1.2.1, ()))
    else
      some ((p1.length : Int), (y1.2.1, ()))
theorem i_table_first_Ver_aa5.f_ok (hV : EnvOk P i_table_first_Ver_aa5.V) {r : i_table_first_Ver_aa5.R} (k : Nat) (p1 : List T814c.T) (p2 : Int) (H : i_table_first_Ver_aa5.f k p1 p2 = some r) : W P 1 i_table_first_Ver_aa5.c0 (⟨14, [(0, .cv (.one (.sl T814c p1 .any))), (1, .cv (.one (.fn 61 [] [(0, 0)])))], [(.box 1, [.int .i64 p2])]⟩) (i_table_first_Ver_aa5.Q r) := by
  unfold i_table_first_Ver_aa5.f at H
  refine D_seq (by kernel_rfl) ?_
  refine D_reg (cs := []) (τ := ⟨14, [(0, .cv (.one (.sl T814c p1 .any))), (1, .cv (.one (.fn 61 [] [(0, 0)])))], [(.box 1, [.int .i64 p2])]⟩) hV 0 [] {live := [0, 1], src := [some 0]} (by kernel_rfl) (by kernel_rfl) trivial ?_
  refine th_n ?_
  refine D_seq (by kernel_rfl) ?_
  refine D_seq (by kernel_rfl) ?_
  refine D_regI [0, 1, 2, 3] (by kernel_rfl) (by kernel_rfl) ?_
  refine D_ev (cs := []) (τ := ⟨14, [(0, .cv (.one (.sl T814c p1 .any))), (1, .cv (.one (.fn 61 [] [(0, 0)]))), (6, .cv (.one (.sl T814c p1 .any))), (7, .cv (.one (.fn 61 [] [(0, 0)])))], [(.box 1, [.int .i64 p2])]⟩) hV 0 [] [0, 1] [2, 3] rfl (by kernel_rfl) trivial ?_
  obtain ⟨y1, e2, H⟩ := of_bind H
  refine D_call (f := 67) (N := 1) (cvs := [.one (.sl T814c p1 .any), .one (.fn 61 [] [(0, 0)])]) (σ0 := i_slices_IndexFunc_Ver_aa5.s0 p1 p2) (τ := i_slices_IndexFunc_Ver_aa5.out y1) (σ2 := ⟨14, [(0, .cv (.one (.sl T814c p1 .any))), (1, .cv (.one (.fn 61 [] [(0, 0)]))), (6, .cv (.one (.sl T814c p1 .any))), (7, .cv (.one (.fn 61 [] [(0, 0)]))), (8, .cv (.one (.int .i64 y1.1)))], [(.box 1, [.int .i64 y1.2.1])]⟩) hV 2 (by kernel_rfl) Go.Proofs.Try.func67 (by kernel_rfl) (by decide) (by kernel_rfl) (by kernel_rfl) (by kernel_rfl) (i_slices_IndexFunc_Ver_aa5.ok k p1 p2 e2) (by kernel_rfl) ?_
  refine D_ev (cs := []) (τ := ⟨14, [(0, .cv (.one (.sl T814c p1 .any))), (1, .cv (.one (.fn 61 [] [(0, 0)]))), (5, .cv (.one (.int .i64 y1.1))), (6, .cv (.one (.sl T814c p1 .any))), (7, .cv (.one (.fn 61 [] [(0, 0)]))), (8, .cv (.one (.int .i64 y1.1)))], [(.box 1, [.int .i64 y1.2.1])]⟩) hV 0 [] [3] [] rfl (by kernel_rfl) trivial ?_
  refine WO_tell (τ := ⟨14, [(0, .cv (.one (.sl T814c p1 .any))), (5, .cv (.one (.int .i64 y1.1)))], [(.box 1, [.int .i64 y1.2.1])]⟩) {live := [0, 5], src := [some 0]} (by kernel_rfl) (by kernel_rfl) ?_
  refine WO_nil ?_
  refine th_n ?_
  refine D_seq (by kernel_rfl) ?_
  refine D_reg (cs := []) (τ := ⟨14, [(0, .cv (.one (.sl T814c p1 .any))), (5, .cv (.one (.int .i64 y1.1))), (10, .cv (.one (.bool (decide (y1.1 ≥ (0 : Int))))))], [(.box 1, [.int .i64 y1.2.1])]⟩) hV 0 [] {live := [0, 5, 10], src := [some 0]} (by kernel_rfl) (by kernel_rfl) trivial ?_
  refine th_n ?_
  refine D_condB (t := 10) (b := (decide (y1.1 ≥ (0 : Int)))) (by kernel_rfl) (by kernel_rfl) (fun hb3 => ?_) (fun hb3 => ?_)
  · rw [if_pos hb3] at H
    refine D_seq (by kernel_rfl) ?_
    refine D_reg (cs := []) (τ := ⟨14, [(4, .cv (.one (.int .i64 y1.1)))], [(.box 1, [.int .i64 y1.2.1])]⟩) hV 0 [] {live := [4], src := [some 0]} (by kernel_rfl) (by kernel_rfl) trivial ?_
    refine th_n ?_
    refine D_ret (by kernel_rfl) ?_
    refine th_r ?_
    obtain rfl := Option.some.inj H
    exact cq_r {fz := [], gr := 0, ad := [], live := [4], src := [some 0]} (by kernel_rfl) (by kernel_rfl)
  · rw [if_neg (by rw [hb3]; decide)] at H
    refine D_skip (by kernel_rfl) ?_
    refine th_n ?_
    refine D_seq (by kernel_rfl) ?_
    refine D_reg (cs := []) (τ := ⟨14, [(4, .cv (.one (.int .i64 (p1.length : Int))))], [(.box 1, [.int .i64 y1.2.1])]⟩) hV 0 [] {live := [4], src := [some 0]} (by kernel_rfl) (by kernel_rfl) trivial ?_
    refine th_n ?_
    refine D_ret (by kernel_rfl) ?_
    obtain rfl := Option.some.inj H
    exact cq_r {fz := [], gr := 0, ad := [], live := [4], src := [some 0]} (by kernel_rfl) (by kernel_rfl)
theorem i_table_first_Ver_aa5.ok {r : i_table_first_Ver_aa5.R} (k : Nat) (p1 : List T814c.T) (p2 : Int) (H : i_table_first_Ver_aa5.f k p1 p2 = some r) : W P 1 i_table_first_Ver_aa5.c0 (i_table_first_Ver_aa5.s0 p1 p2) (CallQ 1 (i_table_first_Ver_aa5.out r)) := i_table_first_Ver_aa5.f_ok i_table_first_Ver_aa5.V_ok k p1 p2 H
/-! ### f_table_at: function 41, wayfinder/table.at -/
abbrev f_table_at.ps : Sg := [(false, (.slice T814c)), (false, (.int .i64))]
abbrev f_table_at.rs : Sg := [(false, (.int .i64))]
noncomputable def f_table_at.c0 : Code := (Go.Proofs.Try.f41.body).getD .skip
noncomputable def f_table_at.G : List (Nat × Spec) := []
noncomputable def f_table_at.V : Env := { tt := tt, Γ := slk f_table_at.G }
noncomputable abbrev f_table_at.Q (r : Tup f_table_at.rs) : Exit → St → Prop := Qr tt Go.Proofs.Try.f41.results ⟨f_table_at.ps, f_table_at.rs, .any, none, fun _ _ => True⟩ r
abbrev f_table_at.R := Tup f_table_at.rs
noncomputable def f_table_at.f (k : Nat) (a1 : List T814c.T) (a2 : Int) : Option f_table_at.R :=
  (i_table_first_Ver_aa5.f k a1 a2).bind fun y1 =>
    some (y1.1, ())
noncomputable def f_table_at.S : Spec := ⟨f_table_at.ps, f_table_at.rs, .any, none, fun x r => ∃ k, f_table_at.f k x.1 x.2.1 = some r⟩
theorem f_table_at.f_ok (hV : EnvOk P f_table_at.V) {r : f_table_at.R} (k : Nat) (a1 : List T814c.T) (a2 : Int) (H : f_table_at.f k a1 a2 = some r) : W P 0 f_table_at.c0 (⟨8, [(0, .cv (.one (.sl T814c a1 .any))), (1, .cv (.one (.int .i64 a2)))], []⟩) (f_table_at.Q r) := by
  unfold f_table_at.f at H
  refine D_seq (by kernel_rfl) ?_
  refine D_reg (cs := []) (τ := ⟨8, [(0, .cv (.one (.sl T814c a1 .any))), (3, .cv (.one (.ptr 0 0)))], [(.box 1, [.int .i64 a2])]⟩) hV 1 [(0, {sb := 0})] {live := [0, 3], src := [some 0]} (by kernel_rfl) (by kernel_rfl) trivial ?_
  refine th_n ?_
  refine D_seq (by kernel_rfl) ?_
  refine D_regI [0, 1, 2, 3] (by kernel_rfl) (by kernel_rfl) ?_
  refine D_ev (cs := []) (τ := ⟨8, [(0, .cv (.one (.sl T814c a1 .any))), (3, .cv (.one (.ptr 0 0))), (5, .cv (.one (.sl T814c a1 .any))), (6, .cv (.one (.fn 61 [] [(0, 0)])))], [(.box 1, [.int .i64 a2])]⟩) hV 0 [] [0, 1] [2, 3] rfl (by kernel_rfl) trivial ?_
  obtain ⟨y1, e2, H⟩ := of_bind H
  refine D_call (f := 48) (N := 1) (cvs := [.one (.sl T814c a1 .any), .one (.fn 61 [] [(0, 0)])]) (σ0 := i_table_first_Ver_aa5.s0 a1 a2) (τ := i_table_first_Ver_aa5.out y1) (σ2 := ⟨8, [(0, .cv (.one (.sl T814c a1 .any))), (3, .cv (.one (.ptr 0 0))), (5, .cv (.one (.sl T814c a1 .any))), (6, .cv (.one (.fn 61 [] [(0, 0)]))), (7, .cv (.one (.int .i64 y1.1)))], [(.box 1, [.int .i64 y1.2.1])]⟩) hV 2 (by kernel_rfl) Go.Proofs.Try.func48 (by kernel_rfl) (by decide) (by kernel_rfl) (by kernel_rfl) (by kernel_rfl) (i_table_first_Ver_aa5.ok k a1 a2 e2) (by kernel_rfl) ?_
  refine D_ev (cs := []) (τ := ⟨8, [(0, .cv (.one (.sl T814c a1 .any))), (3, .cv (.one (.ptr 0 0))), (4, .cv (.one (.int .i64 y1.1))), (5, .cv (.one (.sl T814c a1 .any))), (6, .cv (.one (.fn 61 [] [(0, 0)]))), (7, .cv (.one (.int .i64 y1.1)))], [(.box 1, [.int .i64 y1.2.1])]⟩) hV 0 [] [3] [] rfl (by kernel_rfl) trivial ?_
  refine WO_tell (τ := ⟨8, [(4, .cv (.one (.int .i64 y1.1)))], []⟩) {live := [4], src := []} (by kernel_rfl) (by kernel_rfl) ?_
  refine WO_nil ?_
  refine th_n ?_
  refine D_ret (by kernel_rfl) ?_
  exact lf_r (Eq.trans (by kernel_rfl) H)
theorem f_table_at.V_ok : EnvOk P f_table_at.V := { ck := tt_ck, fits := slk_nil, mixed := mixed }
theorem f_table_at.fits : Fits P 41 f_table_at.S := fits_of f_table_at.V_ok Go.Proofs.Try.func41 (by kernel_rfl) (by decide) (by decide) rfl (fun x r ⟨k, H⟩ => f_table_at.f_ok f_table_at.V_ok k x.1 x.2.1 H)
/-! ### f_rule_Alike: function 47, wayfinder/rule.Alike -/
abbrev f_rule_Alike.ps : Sg := [(true, T1383), (true, T1383)]
abbrev f_rule_Alike.rs : Sg := [(false, .bool)]
noncomputable def f_rule_Alike.c0 : Code := (Go.Proofs.Try.f47.body).getD .skip
noncomputable def f_rule_Alike.G : List (Nat × Spec) := []
noncomputable def f_rule_Alike.V : Env := { tt := tt, Γ := slk f_rule_Alike.G }
noncomputable abbrev f_rule_Alike.Q (r : Tup f_rule_Alike.rs) : Exit → St → Prop := Qr tt Go.Proofs.Try.f47.results ⟨f_rule_Alike.ps, f_rule_Alike.rs, .any, none, fun _ _ => True⟩ r
abbrev f_rule_Alike.R := Tup f_rule_Alike.rs
noncomputable def f_rule_Alike.f (k : Nat) (a1 : T1383.T) (a2 : T1383.T) : Option f_rule_Alike.R :=
  some (((a1.1.1 == a2.1.1) && ((a1.1.2 == a2.1.2) && ((a1.2.1 == a2.2.1) && ((a1.2.2.1 == a2.2.2.1) && (((0 : Int) == (0 : Int)) && (((0 : Int) == (0 : Int)) && true)))))), ())
noncomputable def f_rule_Alike.S : Spec := ⟨f_rule_Alike.ps, f_rule_Alike.rs, .any, none, fun x r => ∃ k, f_rule_Alike.f k x.1 x.2.1 = some r⟩
theorem f_rule_Alike.f_ok (hV : EnvOk P f_rule_Alike.V) {r : f_rule_Alike.R} (k : Nat) (a1 : T1383.T) (a2 : T1383.T) (H : f_rule_Alike.f k a1 a2 = some r) : W P 0 f_rule_Alike.c0 (⟨12, [(0, .cv (.agg [.int .i64 a1.1.1, .int .i64 a1.1.2, .int .i64 a1.2.1, .int .i64 a1.2.2.1, .int .i64 a1.2.2.2.1, .int .i64 a1.2.2.2.2])), (1, .cv (.agg [.int .i64 a2.1.1, .int .i64 a2.1.2, .int .i64 a2.2.1, .int .i64 a2.2.2.1, .int .i64 a2.2.2.2.1, .int .i64 a2.2.2.2.2]))], []⟩) (f_rule_Alike.Q r) := by
  unfold f_rule_Alike.f at H
  refine D_seq (by kernel_rfl) ?_
  refine D_reg (cs := []) (τ := ⟨12, [(2, .cv (.one (.ptr 0 0))), (3, .cv (.one (.ptr 1 0)))], [(.box 6, [.int .i64 a1.1.1, .int .i64 a1.1.2, .int .i64 a1.2.1, .int .i64 a1.2.2.1, .int .i64 a1.2.2.2.1, .int .i64 a1.2.2.2.2]), (.box 6, [.int .i64 a2.1.1, .int .i64 a2.1.2, .int .i64 a2.2.1, .int .i64 a2.2.2.1, .int .i64 a2.2.2.2.1, .int .i64 a2.2.2.2.2])]⟩) hV 2 [(0, {sb := 0}), (1, {sb := 1})] {live := [2, 3], src := [some 0, some 1]} (by kernel_rfl) (by kernel_rfl) trivial ?_
  refine th_n ?_
  refine D_seq (by kernel_rfl) ?_
  refine D_reg (cs := []) (τ := ⟨12, [(2, .cv (.one (.ptr 0 0))), (3, .cv (.one (.ptr 1 0)))], [(.box 6, [.int .i64 a1.1.1, .int .i64 a1.1.2, .int .i64 a1.2.1, .int .i64 a1.2.2.1, .int .i64 0, .int .i64 0]), (.box 6, [.int .i64 a2.1.1, .int .i64 a2.1.2, .int .i64 a2.2.1, .int .i64 a2.2.2.1, .int .i64 0, .int .i64 0])]⟩) hV 0 [] {live := [2, 3], src := [some 0, some 1]} (by kernel_rfl) (by kernel_rfl) trivial ?_
  refine th_n ?_
  refine D_seq (by kernel_rfl) ?_
  refine D_reg (cs := []) (τ := ⟨12, [(4, .cv (.one (.bool ((a1.1.1 == a2.1.1) && ((a1.1.2 == a2.1.2) && ((a1.2.1 == a2.2.1) && ((a1.2.2.1 == a2.2.2.1) && (((0 : Int) == (0 : Int)) && (((0 : Int) == (0 : Int)) && true)))))))))], []⟩) hV 0 [] {live := [4], src := []} (by kernel_rfl) (by kernel_rfl) trivial ?_
  refine th_n ?_
  refine D_ret (by kernel_rfl) ?_
  exact lf_r (Eq.trans (by kernel_rfl) H)
theorem f_rule_Alike.V_ok : EnvOk P f_rule_Alike.V := { ck := tt_ck, fits := slk_nil, mixed := mixed }
theorem f_rule_Alike.fits : Fits P 47 f_rule_Alike.S := fits_of f_rule_Alike.V_ok Go.Proofs.Try.func47 (by kernel_rfl) (by decide) (by decide) rfl (fun x r ⟨k, H⟩ => f_rule_Alike.f_ok f_rule_Alike.V_ok k x.1 x.2.1 H)
/-! ### f_table_Size: function 32, wayfinder/table.Size -/
abbrev f_table_Size.ps : Sg := [(false, (.slice T814c))]
abbrev f_table_Size.rs : Sg := [(false, (.int .i64))]
noncomputable def f_table_Size.c0 : Code := (Go.Proofs.Try.f32.body).getD .skip
noncomputable def f_table_Size.G : List (Nat × Spec) := []
noncomputable def f_table_Size.V : Env := { tt := tt, Γ := slk f_table_Size.G }
noncomputable abbrev f_table_Size.Q (r : Tup f_table_Size.rs) : Exit → St → Prop := Qr tt Go.Proofs.Try.f32.results ⟨f_table_Size.ps, f_table_Size.rs, .any, none, fun _ _ => True⟩ r
abbrev f_table_Size.R := Tup f_table_Size.rs
noncomputable def f_table_Size.s1 (p1 : Int) (p2 : List T814c.T) (p3 : Int) (p4 : Int) : St := ⟨19, [(3, .cv (.one (.int .i64 p1))), (6, .cv (.one (.sl T814c p2 .any))), (7, .cv (.one (.int .i64 p3))), (8, .cv (.one (.int .i64 p4)))], []⟩
noncomputable def f_table_Size.b1 (L1 : Int → List T814c.T → Int → Int → Option f_table_Size.R) (k : Nat) (p1 : Int) (p2 : List T814c.T) (p3 : Int) (p4 : Int) : Option f_table_Size.R :=
  if (decide (p4 < p3)) = true then
  if 0 ≤ p4 then
    if p4 < (p2.length : Int) then
      L1 (IntKind.i64.wrap (p1 + (((att T814c p2 p4).2).length : Int))) p2 p3 (IntKind.i64.wrap (p4 + 1))
    else none
  else none
else
  some (p1, ())
theorem f_table_Size.b1_ok (hV : EnvOk P f_table_Size.V) {r : f_table_Size.R} (L1 : Int → List T814c.T → Int → Int → Option f_table_Size.R) (m1 : Nat) (hL1 : ∀ (p1 : Int) (p2 : List T814c.T) (p3 : Int) (p4 : Int), L1 p1 p2 p3 p4 = some r → WL P 0 (Code.l (Code.l (Code.r (Code.l (Code.r (Code.r f_table_Size.c0)))))) (blockW 0 (thenW P 0 (Code.r (Code.r (Code.r f_table_Size.c0))) (f_table_Size.Q r))) m1 (f_table_Size.s1 p1 p2 p3 p4)) (k : Nat) (p1 : Int) (p2 : List T814c.T) (p3 : Int) (p4 : Int) (H : f_table_Size.b1 L1 k p1 p2 p3 p4 = some r) : W P 0 (Code.l (Code.l (Code.r (Code.l (Code.r (Code.r f_table_Size.c0)))))) (f_table_Size.s1 p1 p2 p3 p4) (roundW P 0 (Code.l (Code.l (Code.r (Code.l (Code.r (Code.r f_table_Size.c0)))))) (blockW 0 (thenW P 0 (Code.r (Code.r (Code.r f_table_Size.c0))) (f_table_Size.Q r))) m1) := by
  unfold f_table_Size.b1 at H
  refine D_seq (by kernel_rfl) ?_
  refine D_reg (cs := []) (τ := ⟨19, [(3, .cv (.one (.int .i64 p1))), (6, .cv (.one (.sl T814c p2 .any))), (7, .cv (.one (.int .i64 p3))), (8, .cv (.one (.int .i64 p4))), (9, .cv (.one (.bool (decide (p4 < p3)))))], []⟩) hV 0 [] {live := [3, 6, 7, 8, 9], src := []} (by kernel_rfl) (by kernel_rfl) trivial ?_
  refine th_n ?_
  refine D_seq (by kernel_rfl) ?_
  refine D_condB (t := 9) (b := (decide (p4 < p3))) (by kernel_rfl) (by kernel_rfl) (fun hb1 => ?_) (fun hb1 => ?_)
  · rw [if_pos hb1] at H
    refine D_skip (by kernel_rfl) ?_
    refine th_n ?_
    refine D_seq (by kernel_rfl) ?_
    refine D_block (id := 1) (by kernel_rfl) ?_
    refine D_seq (by kernel_rfl) ?_
    obtain ⟨n2, H⟩ := of_if H
    obtain ⟨n3, H⟩ := of_if H
    refine D_reg (cs := [0 ≤ p4, p4 < (p2.length : Int)]) (τ := ⟨19, [(3, .cv (.one (.int .i64 p1))), (5, .cv (.one (.ptr 0 0))), (6, .cv (.one (.sl T814c p2 .any))), (7, .cv (.one (.int .i64 p3))), (8, .cv (.one (.int .i64 p4)))], [(.box 2, [.int .i64 ((att T814c p2 p4).1), .sl T1383 ((att T814c p2 p4).2) .any])]⟩) hV 1 [(2, {sb := 0})] {live := [3, 5, 6, 7, 8], src := [some 0]} (by kernel_rfl) (by kernel_rfl) ⟨n2, n3, trivial⟩ ?_
    refine th_n ?_
    refine D_reg (cs := []) (τ := ⟨19, [(3, .cv (.one (.int .i64 (IntKind.i64.wrap (p1 + (((att T814c p2 p4).2).length : Int)))))), (6, .cv (.one (.sl T814c p2 .any))), (7, .cv (.one (.int .i64 p3))), (8, .cv (.one (.int .i64 p4)))], []⟩) hV 0 [] {live := [3, 6, 7, 8], src := []} (by kernel_rfl) (by kernel_rfl) trivial ?_
    refine bl_n ?_
    refine th_n ?_
    refine D_reg (cs := []) (τ := ⟨19, [(3, .cv (.one (.int .i64 (IntKind.i64.wrap (p1 + (((att T814c p2 p4).2).length : Int)))))), (6, .cv (.one (.sl T814c p2 .any))), (7, .cv (.one (.int .i64 p3))), (8, .cv (.one (.int .i64 (IntKind.i64.wrap (p4 + 1)))))], []⟩) hV 0 [] {live := [3, 6, 7, 8], src := []} (by kernel_rfl) (by kernel_rfl) trivial ?_
    refine ro_n (WL_tell (τ := f_table_Size.s1 (IntKind.i64.wrap (p1 + (((att T814c p2 p4).2).length : Int))) p2 p3 (IntKind.i64.wrap (p4 + 1))) {fz := [], gr := 0, ad := [], live := [3, 6, 7, 8], src := []} (by kernel_rfl) (by kernel_rfl) ?_)
    exact hL1 (IntKind.i64.wrap (p1 + (((att T814c p2 p4).2).length : Int))) p2 p3 (IntKind.i64.wrap (p4 + 1)) H
  · rw [if_neg (by rw [hb1]; decide)] at H
    refine D_exit (id := 0) (by kernel_rfl) ?_
    refine th_x ?_
    refine ro_x ?_
    refine bl_h ?_
    refine th_n ?_
    refine D_seq (by kernel_rfl) ?_
    refine D_reg (cs := []) (τ := ⟨19, [(2, .cv (.one (.int .i64 p1)))], []⟩) hV 0 [] {live := [2], src := []} (by kernel_rfl) (by kernel_rfl) trivial ?_
    refine th_n ?_
    refine D_ret (by kernel_rfl) ?_
    exact lf_r (Eq.trans (by kernel_rfl) H)
noncomputable def f_table_Size.l1 (k : Nat) : Nat → Int → List T814c.T → Int → Int → Option f_table_Size.R
  | 0, _, _, _, _ => none
  | m + 1, p1, p2, p3, p4 => f_table_Size.b1 (f_table_Size.l1 k m) k p1 p2 p3 p4
theorem f_table_Size.l1_ok (hV : EnvOk P f_table_Size.V) {r : f_table_Size.R} (k : Nat) : ∀ (m1 : Nat) (p1 : Int) (p2 : List T814c.T) (p3 : Int) (p4 : Int), f_table_Size.l1 k m1 p1 p2 p3 p4 = some r → WL P 0 (Code.l (Code.l (Code.r (Code.l (Code.r (Code.r f_table_Size.c0)))))) (blockW 0 (thenW P 0 (Code.r (Code.r (Code.r f_table_Size.c0))) (f_table_Size.Q r))) m1 (f_table_Size.s1 p1 p2 p3 p4)
  | 0, _, _, _, _, H => by cases H
  | m1 + 1, p1, p2, p3, p4, H => WL_succ (f_table_Size.b1_ok hV (f_table_Size.l1 k m1) m1 (fun p1 p2 p3 p4 H => f_table_Size.l1_ok hV k m1 p1 p2 p3 p4 H) k p1 p2 p3 p4 H)
noncomputable def f_table_Size.f (k : Nat) (a1 : List T814c.T) : Option f_table_Size.R :=
  f_table_Size.l1 k k 0 a1 (a1.length : Int) 0
noncomputable def f_table_Size.S : Spec := ⟨f_table_Size.ps, f_table_Size.rs, .any, none, fun x r => ∃ k, f_table_Size.f k x.1 = some r⟩
theorem f_table_Size.f_ok (hV : EnvOk P f_table_Size.V) {r : f_table_Size.R} (k : Nat) (a1 : List T814c.T) (H : f_table_Size.f k a1 = some r) : W P 0 f_table_Size.c0 (⟨19, [(0, .cv (.one (.sl T814c a1 .any)))], []⟩) (f_table_Size.Q r) := by
  unfold f_table_Size.f at H
  refine D_seq (by kernel_rfl) ?_
  refine D_reg (cs := []) (τ := ⟨19, [(0, .cv (.one (.sl T814c a1 .any)))], []⟩) hV 0 [] {live := [0], src := []} (by kernel_rfl) (by kernel_rfl) trivial ?_
  refine th_n ?_
  refine D_seq (by kernel_rfl) ?_
  refine D_reg (cs := []) (τ := ⟨19, [(0, .cv (.one (.sl T814c a1 .any))), (3, .cv (.one (.int .i64 0)))], []⟩) hV 0 [] {live := [0, 3], src := []} (by kernel_rfl) (by kernel_rfl) trivial ?_
  refine th_n ?_
  refine D_seq (by kernel_rfl) ?_
  refine D_seq (by kernel_rfl) ?_
  refine D_reg (cs := []) (τ := ⟨19, [(3, .cv (.one (.int .i64 0))), (6, .cv (.one (.sl T814c a1 .any))), (7, .cv (.one (.int .i64 (a1.length : Int)))), (8, .cv (.one (.int .i64 0)))], []⟩) hV 0 [] {live := [3, 6, 7, 8], src := []} (by kernel_rfl) (by kernel_rfl) trivial ?_
  refine th_n ?_
  refine D_block (id := 0) (by kernel_rfl) ?_
  refine W_tell (τ := f_table_Size.s1 0 a1 (a1.length : Int) 0) {fz := [], gr := 0, ad := [], live := [3, 6, 7, 8], src := []} (by kernel_rfl) (by kernel_rfl) ?_
  exact D_loop (by kernel_rfl) k (f_table_Size.l1_ok hV k k 0 a1 (a1.length : Int) 0 H)
theorem f_table_Size.V_ok : EnvOk P f_table_Size.V := { ck := tt_ck, fits := slk_nil, mixed := mixed }
theorem f_table_Size.fits : Fits P 32 f_table_Size.S := fits_of f_table_Size.V_ok Go.Proofs.Try.func32 (by kernel_rfl) (by decide) (by decide) rfl (fun x r ⟨k, H⟩ => f_table_Size.f_ok f_table_Size.V_ok k x.1 H)
/-! ### slices.Insert of one thing: function 50 -/
section
open Go.Shelf Go.Lib
theorem N50.info : (Go.Proofs.Try.prog.info? 49).map (fun i => (i.zero, i.size, i.bytes)) = some (some (.agg #[.int .i64 0, .slice none 0 0]), 2, 32) := by kernel_rfl
set_option maxHeartbeats 4000000 in
set_option maxRecDepth 1000000 in
theorem N50.shift (b n c i vb vc : Nat) (cs vs : List Value) (w : World) (hi : i < n) (hroom : n + 1 ≤ c) (hc63 : c ≤ 9223372036854775807) (hvb : vb ≠ b)
    (hcl : cs.length = n * 2) (hvl : vs.length = 2)
    (hcs : ∀ j v, cs[j]? = some v → w.cell? ⟨b, j, none⟩ = some v) (hsp : ∀ j, j < (n + 1) * 2 → (w.cell? ⟨b, j, none⟩).isSome = true) (hfz : ∀ j, w.frozen? ⟨b, j, none⟩ = false)
    (hvs : ∀ j v, vs[j]? = some v → w.cell? ⟨vb, j, none⟩ = some v) (h1c : ∀ v ∈ cs, v.oneCell' = true) (h1v : ∀ v ∈ vs, v.oneCell' = true)
    (tA tB : TypeId) (kA kB : Nat) (hsa : w.shape? vb = some (tA, kA)) (hsb : w.shape? b = some (tB, kB)) (hkB : kB ≠ 0) (hfa : w.frozen? ⟨vb, 0, none⟩ = false) (hfe : w.frozen? ⟨vb, kA, none⟩ = false) :
    Calls Go.Proofs.Try.prog 50 #[.slice (some ⟨b, 0, none⟩) n c, .int .i64 i, .slice (some ⟨vb, 0, none⟩) 1 vc] w fun e w' =>
      e = .returned (.slice (some ⟨b, 0, none⟩) (n + 1) c) ∧ w' = (w.drew.setCells b ((i + 1) * 2) (cs.drop (i * 2))).setCells b (i * 2) vs := by
  have hz2 : ¬ ((i : Int) = (n : Int)) := by omega
  have hsz : (Go.Proofs.Try.prog.info? 49).map (·.size) = some 2 := by
    obtain ⟨i0, hi0, h0, h1, h2⟩ := info_parts N50.info
    rw [hi0]; simp [h1]
  have hso : ∀ w, (Go.sizeOf 49).run Go.Proofs.Try.prog w = .ok 2 w := fun w => by
    obtain ⟨i0, hi0, h0, h1, h2⟩ := info_parts N50.info
    simp [sizeOf, typeInfo, hi0, h1]
  have hov : ∀ lb cb, (callFunc 68 #[.slice (some ⟨vb, 0, none⟩) 1 vc, .slice (some ⟨b, (i + 1) * 2, none⟩) lb cb]).run Go.Proofs.Try.prog w = .ok (.value (.bool false)) w := fun lb cb => by
    rw [run_callFunc_extern Go.Proofs.Try.func68 (by kernel_rfl) (by kernel_rfl) (by kernel_rfl) (e := Extern.SlicesOverlaps.overlaps #[45, 45] #[4]) (by kernel_rfl),
      Lib.run_overlaps_apart w 45 4 49 Go.Proofs.Try.underlying45 2 hso ⟨vb, 0, none⟩ ⟨b, (i + 1) * 2, none⟩ 1 vc lb cb hvb tA tB kA kB hsa hsb hkB hfa hfe]
    rfl
  have hdl : (cs.drop (i * 2)).length = (n - i) * 2 := by rw [List.length_drop, hcl]; omega
  have hw1 : IntKind.i64.wrap ((i : Int) + 1) = (i : Int) + 1 := by rw [IntKind.wrap_i64]; omega
  have hw2 : IntKind.i64.wrap ((n : Int) + 1) = (n : Int) + 1 := by rw [IntKind.wrap_i64]; omega
  have hb1 : (0 : Int) ≤ (i : Int) + 1 := by omega
  have hin : i ≤ n := by omega
  have htn : ((i : Int) + 1).toNat = i + 1 := by omega
  have htm : ((n : Int) + 1).toNat = n + 1 := by omega
  have hb2 : ¬ (c = i + 1) := by omega
  have hb3 : (i : Int) ≤ (n : Int) + 1 := by omega
  have hb4 : ¬ (c = i) := by omega
  have hb5 : (0 : Int) ≤ (n : Int) + 1 := by omega
  have hb6 : (n : Int) + 1 ≤ (c : Int) := by omega
  have hb7 : (i : Int) + 1 ≤ (n : Int) + 1 := by omega
  have hcp1 : ∀ ty dc sc, (Builtin.copy_ #[45, 45] ty #[.slice (some ⟨b, (i + 1) * 2, none⟩) (n - i) dc, .slice (some ⟨b, i * 2, none⟩) (n + 1 - i) sc]).run Go.Proofs.Try.prog w.drew = .ok (goInt (Nat.min (n + 1 - i) (n - i))) (w.drew.setCells b ((i + 1) * 2) (cs.drop (i * 2))) := fun ty dc sc =>
    run_copy_sz w.drew _ ty 49 b ((i + 1) * 2) (n - i) dc ⟨b, i * 2, none⟩ (n + 1 - i) sc 2 (cs.drop (i * 2)) Go.Proofs.Try.underlying45 hsz (by rw [hdl]; congr 1; simp only [Nat.min_def]; split <;> omega)
      (fun j v hj => by rw [Addr.add_lit]; exact hcs (i * 2 + j) v (by rwa [List.getElem?_drop] at hj))
      (fun j hj => hsp _ (by omega)) (fun j hj => hfz _) (fun v hv => h1c v (List.mem_of_mem_drop hv))
  obtain ⟨W1, hW1⟩ : ∃ W1, W1 = w.drew.setCells b ((i + 1) * 2) (cs.drop (i * 2)) := ⟨_, rfl⟩
  have hsp1 : ∀ k, k < (n + 1) * 2 → (W1.cell? ⟨b, k, none⟩).isSome = true := fun k hk => by
    rw [hW1]
    exact isSome_setCells b (cs.drop (i * 2)) ((i + 1) * 2) w.drew (fun j hj => hsp _ (by rw [hdl] at hj; omega)) k (hsp k hk)
  have hcp2 : ∀ (W : World), (∀ x, W.cell? x = W1.cell? x) → (∀ x, W.frozen? x = W1.frozen? x) → ∀ ty dc, (Builtin.copy_ #[45, 45] ty #[.slice (some ⟨b, i * 2, none⟩) (n + 1 - i) dc, .slice (some ⟨vb, 0, none⟩) 1 vc]).run Go.Proofs.Try.prog W = .ok (goInt (Nat.min 1 (n + 1 - i))) (W.setCells b (i * 2) vs) := fun W hWc hWf ty dc =>
    run_copy_sz W _ ty 49 b (i * 2) (n + 1 - i) dc ⟨vb, 0, none⟩ 1 vc 2 vs Go.Proofs.Try.underlying45 hsz (by rw [hvl]; simp only [Nat.min_def]; split <;> omega)
      (fun j v hj => by
        rw [Addr.add_lit, hWc, hW1, World.cell?_setCells_out b _ _ _ _ (fun h _ => absurd h hvb), Nat.zero_add]
        exact hvs j v hj)
      (fun j hj => by rw [hWc]; exact hsp1 _ (by omega)) (fun j hj => by rw [hWf, hW1, World.frozen?_setCells]; exact hfz _) h1v
  rw [← hW1] at hcp1
  have mixed : Go.Proofs.Try.prog.follows .mixedOrders = true := by kernel_rfl
  clear hso
  go_enter Go.Proofs.Try.func50, Go.Proofs.Try.ntmps50
  go_wp2_with (simp only [hov])
  go_region_law_o (refine step_copy_runI rfl _ _ 45 45 rfl _ _ (by simp [Act.eval, Act.put]) (by simp [Act.eval, Act.put]) (hcp1 _ _ _) ?_)
  go_wp2_with (at_builtin; refine wpList_copy_runI _ rfl _ _ 45 45 rfl _ _ rfl rfl (hcp2 _ (fun _ => rfl) (fun _ => rfl) _ _) ?_)
  go_ret
  first | exact ⟨rfl, rfl⟩ | exact ⟨rfl, by rw [hW1]⟩
set_option maxHeartbeats 4000000 in
set_option maxRecDepth 1000000 in
theorem N50.atEnd (base : Option Addr) (n c vb vc : Nat) (w w1 : World) (r : Value) (hnc : n ≤ c) (hr : ∀ ty, (Builtin.append_ #[45, 45] ty #[.slice base n c, .slice (some ⟨vb, 0, none⟩) 1 vc]).run Go.Proofs.Try.prog w = .ok r w1) :
    Calls Go.Proofs.Try.prog 50 #[.slice base n c, .int .i64 n, .slice (some ⟨vb, 0, none⟩) 1 vc] w fun e w' => e = .returned r ∧ w' = w1 := by
  have mixed : Go.Proofs.Try.prog.follows .mixedOrders = true := by kernel_rfl
  go_enter Go.Proofs.Try.func50, Go.Proofs.Try.ntmps50
  cases base with
  | none =>
    go_wp2_with (at_builtin; refine Lib.wpList_append_run _ rfl _ _ _ _ rfl _ _ rfl rfl _ _ (hr _) ?_)
    all_goals (go_ret; exact ⟨rfl, rfl⟩)
  | some a =>
    obtain ⟨ab, ao, asp⟩ := a
    go_wp2_with (at_builtin; refine Lib.wpList_append_run _ rfl _ _ _ _ rfl _ _ rfl rfl _ _ (hr _) ?_)
    all_goals (go_ret; exact ⟨rfl, rfl⟩)
set_option maxHeartbeats 4000000 in
set_option maxRecDepth 1000000 in
theorem N50.grow (b n c i vb vc : Nat) (cs vs : List Value) (w : World) (hi : i < n) (hnc : n ≤ c) (hroom : c < n + 1) (hbig : (n + 1) * 32 ≤ 140737488355328)
    (hcl : cs.length = n * 2) (hvl : vs.length = 2)
    (hcs : ∀ j v, cs[j]? = some v → w.cell? ⟨b, j, none⟩ = some v)
    (hvs : ∀ j v, vs[j]? = some v → w.cell? ⟨vb, j, none⟩ = some v) (h1c : ∀ v ∈ cs, v.oneCell' = true) (h1v : ∀ v ∈ vs, v.oneCell' = true) :
    Calls Go.Proofs.Try.prog 50 #[.slice (some ⟨b, 0, none⟩) n c, .int .i64 i, .slice (some ⟨vb, 0, none⟩) 1 vc] w fun e w' =>
      e = .returned (.slice (some ⟨w.heap.size, 0, none⟩) (n + 1) (grownCap w (n + 1) c 49)) ∧
      w' = (((w.alloc (.cells ((cs.take (i * 2)).toArray ++ Builtin.zeroCells (Value.cells (.agg #[.int .i64 0, .slice none 0 0])) (n + 1 - i) ++ Builtin.zeroCells (Value.cells (.agg #[.int .i64 0, .slice none 0 0])) (grownCap w (n + 1) c 49 - (n + 1))) 49)).drew.setCells w.heap.size (i * 2) vs).drew).setCells w.heap.size ((i + 1) * 2) (cs.drop (i * 2)) := by
  have mixed : Go.Proofs.Try.prog.follows .mixedOrders = true := by kernel_rfl
  obtain ⟨i0, hi0, hz0, hzs, hzb⟩ := info_parts N50.info
  have hz2 : ¬ ((i : Int) = (n : Int)) := by omega
  have hz3 : (c : Int) < (n : Int) + 1 := by omega
  have hsz : (Go.Proofs.Try.prog.info? 49).map (·.size) = some 2 := by rw [hi0]; simp [hzs]
  have hbw : b < w.heap.size := block_lt_of_cell (hcs 0 _ (List.getElem?_eq_getElem (by omega)))
  have hvw : vb < w.heap.size := block_lt_of_cell (hvs 0 _ (List.getElem?_eq_getElem (by omega)))
  have hkk : (n : Int) + 1 - (i : Int) = ((n + 1 - i : Nat) : Int) := by omega
  have hik : i + (n + 1 - i) = n + 1 := by omega
  have hold : (Builtin.firstCells i0.size i (.slice (some ⟨b, 0, none⟩) i c)).run Go.Proofs.Try.prog w.drew = .ok (cs.take (i * 2)).toArray w.drew := by
    rw [hzs]
    exact run_firstCells_some w.drew 2 i ⟨b, 0, none⟩ i c (cs.take (i * 2)) (by rw [List.length_take]; omega) (fun j v hj => by
      rw [Addr.add_lit]
      rw [List.getElem?_take] at hj
      split at hj
      · rw [Nat.zero_add]; exact hcs j v hj
      · cases hj)
  have hrz : ∀ ty, (Builtin.append_ #[45, 3] ty #[.slice (some ⟨b, 0, none⟩) i c, .int .i64 ((n : Int) + 1 - (i : Int))]).run Go.Proofs.Try.prog w =
      .ok (.slice (some ⟨w.heap.size, 0, none⟩) (n + 1) (grownCap w (n + 1) c 49)) (w.drew.alloc (.cells ((cs.take (i * 2)).toArray ++ Builtin.zeroCells (Value.cells (.agg #[.int .i64 0, .slice none 0 0])) (n + 1 - i) ++ Builtin.zeroCells (Value.cells (.agg #[.int .i64 0, .slice none 0 0])) (grownCap w (n + 1) c 49 - (n + 1))) 49)) := fun ty => by
    have h := Lib.run_append_grow_zeros (P := Go.Proofs.Try.prog) w 45 3 ty 49 i0 _ .i64 .i64 Go.Proofs.Try.underlying45 Go.Proofs.Try.underlying3 hi0 hz0 (some ⟨b, 0, none⟩) i c (cs.take (i * 2)) hold (n + 1 - i) (by omega) (by omega) (by omega) (by omega) (by rw [hzb]; omega) (by rw [hzb, hik]; exact growslice_fits hroom hbig)
    rw [hik] at h
    rw [hkk]
    exact h
  obtain ⟨G, hG⟩ : ∃ G, G = grownCap w (n + 1) c 49 := ⟨_, rfl⟩
  obtain ⟨ROW, hROW⟩ : ∃ ROW : Array Value, ROW = (cs.take (i * 2)).toArray ++ Builtin.zeroCells (Value.cells (.agg #[.int .i64 0, .slice none 0 0])) (n + 1 - i) ++ Builtin.zeroCells (Value.cells (.agg #[.int .i64 0, .slice none 0 0])) (G - (n + 1)) := ⟨_, rfl⟩
  rw [← hG] at hrz ⊢
  rw [← hROW] at hrz ⊢
  have hRl : (n + 1) * 2 ≤ ROW.size := by
    rw [hROW]
    simp [Builtin.zeroCells, Value.cells]
    omega
  obtain ⟨W1, hW1⟩ : ∃ W1, W1 = w.drew.alloc (.cells ROW 49) := ⟨_, rfl⟩
  rw [← hW1] at hrz
  have hN : ∀ j, j < (n + 1) * 2 → (W1.cell? ⟨w.heap.size, j, none⟩).isSome = true := fun j hj => by
    rw [hW1, World.cell?_alloc_at (w := w.drew) ROW _ w.heap.size j rfl, Array.getElem?_eq_getElem (by omega)]; rfl
  have hNf : ∀ j, W1.frozen? ⟨w.heap.size, j, none⟩ = false := fun j => by rw [hW1]; exact World.frozen?_alloc_at (w := w.drew) ROW _ w.heap.size j rfl
  have hOb : ∀ j v, w.cell? ⟨b, j, none⟩ = some v → W1.cell? ⟨b, j, none⟩ = some v := fun j v h => by rw [hW1, World.cell?_alloc_past (w := w.drew) _ b j hbw]; exact h
  have hOv : ∀ j v, w.cell? ⟨vb, j, none⟩ = some v → W1.cell? ⟨vb, j, none⟩ = some v := fun j v h => by rw [hW1, World.cell?_alloc_past (w := w.drew) _ vb j hvw]; exact h
  have hdl : (cs.drop (i * 2)).length = (n - i) * 2 := by rw [List.length_drop, hcl]; omega
  have hcpA : ∀ (W : World), (∀ x, W.cell? x = W1.cell? x) → (∀ x, W.frozen? x = W1.frozen? x) → ∀ ty dc, (Builtin.copy_ #[45, 45] ty #[.slice (some ⟨w.heap.size, i * 2, none⟩) (n + 1 - i) dc, .slice (some ⟨vb, 0, none⟩) 1 vc]).run Go.Proofs.Try.prog W = .ok (goInt (Nat.min 1 (n + 1 - i))) (W.setCells w.heap.size (i * 2) vs) := fun W hWc hWf ty dc =>
    run_copy_sz W _ ty 49 w.heap.size (i * 2) (n + 1 - i) dc ⟨vb, 0, none⟩ 1 vc 2 vs Go.Proofs.Try.underlying45 hsz (by rw [hvl]; simp only [Nat.min_def]; split <;> omega)
      (fun j v hj => by rw [Addr.add_lit, hWc, Nat.zero_add]; exact hOv _ v (hvs j v hj))
      (fun j hj => by rw [hWc]; exact hN _ (by omega)) (fun j hj => by rw [hWf]; exact hNf _) h1v
  have hGn : n + 1 ≤ G := by rw [hG]; exact grownCap_ge w _ _ _
  have hG63 : G ≤ 9223372036854775807 := by
    have := grownCap_le_maxLen w (n + 1) c 49 (by unfold maxLen; omega)
    rw [← hG] at this
    unfold maxLen at this
    omega
  have hGi : ¬ (G = i) := by omega
  have hGim : ¬ (G = i + 1) := by omega
  have hci : ¬ (c = i) := by omega
  have hbN : b ≠ w.heap.size := by omega
  have hcpB : ∀ (W : World), (∀ x, W.cell? x = (W1.setCells w.heap.size (i * 2) vs).cell? x) → (∀ x, W.frozen? x = (W1.setCells w.heap.size (i * 2) vs).frozen? x) → ∀ ty dc sc, (Builtin.copy_ #[45, 45] ty #[.slice (some ⟨w.heap.size, (i + 1) * 2, none⟩) (n - i) dc, .slice (some ⟨b, i * 2, none⟩) (n - i) sc]).run Go.Proofs.Try.prog W = .ok (goInt (Nat.min (n - i) (n - i))) (W.setCells w.heap.size ((i + 1) * 2) (cs.drop (i * 2))) := fun W hWc hWf ty dc sc =>
    run_copy_sz W _ ty 49 w.heap.size ((i + 1) * 2) (n - i) dc ⟨b, i * 2, none⟩ (n - i) sc 2 (cs.drop (i * 2)) Go.Proofs.Try.underlying45 hsz (by rw [hdl]; congr 1; simp only [Nat.min_def]; split <;> omega)
      (fun j v hj => by
        rw [Addr.add_lit, hWc, World.cell?_setCells_out _ _ _ _ _ (fun h _ => absurd h hbN)]
        exact hOb _ v (hcs (i * 2 + j) v (by rwa [List.getElem?_drop] at hj)))
      (fun j hj => by rw [hWc]; exact isSome_setCells w.heap.size vs (i * 2) W1 (fun t ht => hN _ (by omega)) _ (hN _ (by omega)))
      (fun j hj => by rw [hWf, World.frozen?_setCells]; exact hNf _) (fun v hv => h1c v (List.mem_of_mem_drop hv))
  subst hW1
  have hE1 : ∀ x, ((w.alloc (.cells ROW 49)).drew).cell? x = (w.drew.alloc (.cells ROW 49)).cell? x := fun x => rfl
  have hE2 : ∀ x, ((w.alloc (.cells ROW 49)).drew).frozen? x = (w.drew.alloc (.cells ROW 49)).frozen? x := fun x => rfl
  have hF1 : ∀ x, (((w.alloc (.cells ROW 49)).drew.setCells w.heap.size (i * 2) vs).drew).cell? x = ((w.drew.alloc (.cells ROW 49)).setCells w.heap.size (i * 2) vs).cell? x := fun x => rfl
  have hF2 : ∀ x, (((w.alloc (.cells ROW 49)).drew.setCells w.heap.size (i * 2) vs).drew).frozen? x = ((w.drew.alloc (.cells ROW 49)).setCells w.heap.size (i * 2) vs).frozen? x := fun x => rfl
  have hw1 : IntKind.i64.wrap ((i : Int) + 1) = (i : Int) + 1 := by rw [IntKind.wrap_i64]; omega
  have hw2 : IntKind.i64.wrap ((n : Int) + 1) = (n : Int) + 1 := by rw [IntKind.wrap_i64]; omega
  have hw3 : IntKind.i64.wrap ((n : Int) + 1 - (i : Int)) = (n : Int) + 1 - (i : Int) := by rw [IntKind.wrap_i64]; omega
  have hb1 : (0 : Int) ≤ (i : Int) + 1 := by omega
  have hin : i ≤ n := by omega
  have hic : i ≤ c := by omega
  have htn : ((i : Int) + 1).toNat = i + 1 := by omega
  have hb3 : (i : Int) ≤ (n : Int) := by omega
  have hb4 : (i : Int) ≤ (n : Int) + 1 := by omega
  have hb5 : (i : Int) + 1 ≤ (n : Int) + 1 := by omega
  clear hkk hik hold hROW hG hRl
  go_enter Go.Proofs.Try.func50, Go.Proofs.Try.ntmps50
  go_wp2_with (first
    | (at_builtin; refine Lib.wpList_append_run _ rfl _ _ _ _ rfl _ _ rfl rfl _ _ (hrz _) ?_)
    | (at_builtin; refine wpList_copy_runI _ rfl _ _ 45 45 rfl _ _ rfl rfl (hcpA _ hE1 hE2 _ _) ?_)
    | (at_builtin; refine wpList_copy_runI _ rfl _ _ 45 45 rfl _ _ rfl rfl (hcpB _ (fun _ => rfl) (fun _ => rfl) _ _ _) ?_))
  go_region_law_o (refine step_copy_runI rfl _ _ 45 45 rfl (.slice (some ⟨w.heap.size, (i + 1) * 2, none⟩) (n - i) (G - (i + 1))) (.slice (some ⟨b, i * 2, none⟩) (n - i) (c - i)) (by simp [Act.eval, Act.put]) (by simp [Act.eval, Act.put]) (hcpB _ hF1 hF2 3 (G - (i + 1)) (c - i)) ?_)
  go_wp2
  go_ret
  exact ⟨rfl, rfl⟩
end
theorem N50.ok : InsOk Go.Proofs.Try.prog 50 49 2 32 := ins_of (enters_of Go.Proofs.Try.func50 (by kernel_rfl : Go.Proofs.Try.f50.body = some ((Go.Proofs.Try.f50.body).getD .skip)) (by decide)) Go.Proofs.Try.underlying45 N50.info rfl (by decide) (by decide)
  (fun b n c i vb vc cs vs w h1 h2 h3 h4 h5 h6 h7 h8 h9 h10 h11 h12 tA tB kA kB h13 h14 h15 h16 h17 => N50.shift b n c i vb vc cs vs w h1 h2 h3 h4 h5 h6 h7 h8 h9 h10 h11 h12 tA tB kA kB h13 h14 h15 h16 h17) N50.atEnd (fun b n c i vb vc cs vs w h1 h2 h3 h4 h5 h6 h7 h8 h9 h10 => N50.grow b n c i vb vc cs vs w h1 h2 h3 h4 h5 h6 h7 h8 h9 h10)

end Go.Proofs.Ytkobhleoebgbhaa.V
