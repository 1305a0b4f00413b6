/- Functions of the program, as Lean functions, and that the code answers so. Printed by vgen.py. -/
import Derived.Test.YtkobhleoebgbhaaVF0
namespace Go.Proofs.Ytkobhleoebgbhaa.V
open Go Go.RowKit
set_option linter.unusedVariables false
set_option linter.unusedSimpArgs false
set_option maxRecDepth 100000
/-! ### i_table_Put_1_534: function 46, wayfinder/table.Put$1, where it is called -/
noncomputable def i_table_Put_1_534.c0 : Code := (Go.Proofs.Try.f46.body).getD .skip
noncomputable def i_table_Put_1_534.G : List (Nat × Spec) := [(47, f_rule_Alike.S)]
noncomputable def i_table_Put_1_534.V : Env := { tt := tt, Γ := slk i_table_Put_1_534.G }
theorem i_table_Put_1_534.V_ok : EnvOk P i_table_Put_1_534.V := { ck := tt_ck, fits := slk_cons f_rule_Alike.fits (slk_nil), mixed := mixed }
abbrev i_table_Put_1_534.R := (Bool) × (List (Int × List T1383.T)) × (Nat) × (Int) × (T1383.T) × (List T1383.T) × Unit
noncomputable def i_table_Put_1_534.s0 (p1 : T1383.T) (p2 : List (Int × List T1383.T)) (p3 : Nat) (p4 : Int) (p5 : T1383.T) (p6 : List T1383.T) : St := ⟨7, [(0, .cv (.agg [.int .i64 p1.1.1, .int .i64 p1.1.2, .int .i64 p1.2.1, .int .i64 p1.2.2.1, .int .i64 p1.2.2.2.1, .int .i64 p1.2.2.2.2])), (1, .cv (.one (.ptr 2 0)))], [(.lnk 49 (.int .i64) T1383 p2 3 p3, []), (.box 1, [.int .i64 p4]), (.box 6, [.int .i64 p5.1.1, .int .i64 p5.1.2, .int .i64 p5.2.1, .int .i64 p5.2.2.1, .int .i64 p5.2.2.2.1, .int .i64 p5.2.2.2.2]), (.buf 39 T1383 p6, [])]⟩
noncomputable def i_table_Put_1_534.out (r : i_table_Put_1_534.R) : St := ⟨7, [(3, .cv (.one (.bool r.1)))], [(.lnk 49 (.int .i64) T1383 r.2.1 3 r.2.2.1, []), (.box 1, [.int .i64 r.2.2.2.1]), (.box 6, [.int .i64 r.2.2.2.2.1.1.1, .int .i64 r.2.2.2.2.1.1.2, .int .i64 r.2.2.2.2.1.2.1, .int .i64 r.2.2.2.2.1.2.2.1, .int .i64 r.2.2.2.2.1.2.2.2.1, .int .i64 r.2.2.2.2.1.2.2.2.2]), (.buf 39 T1383 r.2.2.2.2.2.1, [])]⟩
abbrev i_table_Put_1_534.Q (r : i_table_Put_1_534.R) := CallQ 4 (i_table_Put_1_534.out r)
noncomputable def i_table_Put_1_534.f (k : Nat) (p1 : T1383.T) (p2 : List (Int × List T1383.T)) (p3 : Nat) (p4 : Int) (p5 : T1383.T) (p6 : List T1383.T) : Option i_table_Put_1_534.R :=
  (f_rule_Alike.f k p1 p5).bind fun y1 =>
    some (y1.1, (p2, (p3, (p4, (p5, (p6, ()))))))
theorem i_table_Put_1_534.f_ok (hV : EnvOk P i_table_Put_1_534.V) {r : i_table_Put_1_534.R} (k : Nat) (p1 : T1383.T) (p2 : List (Int × List T1383.T)) (p3 : Nat) (p4 : Int) (p5 : T1383.T) (p6 : List T1383.T) (H : i_table_Put_1_534.f k p1 p2 p3 p4 p5 p6 = some r) : W P 4 i_table_Put_1_534.c0 (⟨7, [(0, .cv (.agg [.int .i64 p1.1.1, .int .i64 p1.1.2, .int .i64 p1.2.1, .int .i64 p1.2.2.1, .int .i64 p1.2.2.2.1, .int .i64 p1.2.2.2.2])), (1, .cv (.one (.ptr 2 0)))], [(.lnk 49 (.int .i64) T1383 p2 3 p3, []), (.box 1, [.int .i64 p4]), (.box 6, [.int .i64 p5.1.1, .int .i64 p5.1.2, .int .i64 p5.2.1, .int .i64 p5.2.2.1, .int .i64 p5.2.2.2.1, .int .i64 p5.2.2.2.2]), (.buf 39 T1383 p6, [])]⟩) (i_table_Put_1_534.Q r) := by
  unfold i_table_Put_1_534.f at H
  refine D_seq (by kernel_rfl) ?_
  refine D_reg (cs := []) (τ := ⟨7, [(1, .cv (.one (.ptr 2 0))), (2, .cv (.one (.ptr 4 0)))], [(.lnk 49 (.int .i64) T1383 p2 3 p3, []), (.box 1, [.int .i64 p4]), (.box 6, [.int .i64 p5.1.1, .int .i64 p5.1.2, .int .i64 p5.2.1, .int .i64 p5.2.2.1, .int .i64 p5.2.2.2.1, .int .i64 p5.2.2.2.2]), (.buf 39 T1383 p6, []), (.box 6, [.int .i64 p1.1.1, .int .i64 p1.1.2, .int .i64 p1.2.1, .int .i64 p1.2.2.1, .int .i64 p1.2.2.2.1, .int .i64 p1.2.2.2.2])]⟩) hV 1 [(0, {sb := 4})] {live := [1, 2], src := [some 0, some 1, some 2, some 3, some 4]} (by kernel_rfl) (by kernel_rfl) trivial ?_
  refine th_n ?_
  refine D_seq (by kernel_rfl) ?_
  obtain ⟨y1, e2, H⟩ := of_bind H
  refine D_reg (cs := [f_rule_Alike.S.rel (p1, p5, ()) y1]) (τ := ⟨7, [(3, .cv (.one (.bool y1.1)))], [(.lnk 49 (.int .i64) T1383 p2 3 p3, []), (.box 1, [.int .i64 p4]), (.box 6, [.int .i64 p5.1.1, .int .i64 p5.1.2, .int .i64 p5.2.1, .int .i64 p5.2.2.1, .int .i64 p5.2.2.2.1, .int .i64 p5.2.2.2.2]), (.buf 39 T1383 p6, [])]⟩) hV 0 [(2, {res := some ⟨f_rule_Alike.S.rs, y1⟩})] {live := [3], src := [some 0, some 1, some 2, some 3]} (by kernel_rfl) (by kernel_rfl) ⟨⟨k, e2⟩, trivial⟩ ?_
  refine th_n ?_
  refine D_ret (by kernel_rfl) ?_
  obtain rfl := Option.some.inj H
  exact cq_r {fz := [], gr := 0, ad := [], live := [3], src := [some 0, some 1, some 2, some 3]} (by kernel_rfl) (by kernel_rfl)
theorem i_table_Put_1_534.ok {r : i_table_Put_1_534.R} (k : Nat) (p1 : T1383.T) (p2 : List (Int × List T1383.T)) (p3 : Nat) (p4 : Int) (p5 : T1383.T) (p6 : List T1383.T) (H : i_table_Put_1_534.f k p1 p2 p3 p4 p5 p6 = some r) : W P 4 i_table_Put_1_534.c0 (i_table_Put_1_534.s0 p1 p2 p3 p4 p5 p6) (CallQ 4 (i_table_Put_1_534.out r)) := i_table_Put_1_534.f_ok i_table_Put_1_534.V_ok k p1 p2 p3 p4 p5 p6 H
/-! ### i_slices_IndexFunc_Rule_a98: function 66, slices.IndexFunc[[]wayfinder/api.Rule,wayfinder/api.Rule], where it is called -/
noncomputable def i_slices_IndexFunc_Rule_a98.c0 : Code := (Go.Proofs.Try.f66.body).getD .skip
noncomputable def i_slices_IndexFunc_Rule_a98.G : List (Nat × Spec) := []
noncomputable def i_slices_IndexFunc_Rule_a98.V : Env := { tt := tt, Γ := slk i_slices_IndexFunc_Rule_a98.G }
theorem i_slices_IndexFunc_Rule_a98.V_ok : EnvOk P i_slices_IndexFunc_Rule_a98.V := { ck := tt_ck, fits := slk_nil, mixed := mixed }
abbrev i_slices_IndexFunc_Rule_a98.R := (Int) × (List (Int × List T1383.T)) × (Nat) × (Int) × (T1383.T) × (List T1383.T) × Unit
noncomputable def i_slices_IndexFunc_Rule_a98.s0 (p1 : List (Int × List T1383.T)) (p2 : Nat) (p3 : Int) (p4 : T1383.T) (p5 : List T1383.T) : St := ⟨19, [(0, .cv (.one (.own 3))), (1, .cv (.one (.fn 46 [] [(2, 0)])))], [(.lnk 49 (.int .i64) T1383 p1 3 p2, []), (.box 1, [.int .i64 p3]), (.box 6, [.int .i64 p4.1.1, .int .i64 p4.1.2, .int .i64 p4.2.1, .int .i64 p4.2.2.1, .int .i64 p4.2.2.2.1, .int .i64 p4.2.2.2.2]), (.buf 39 T1383 p5, [])]⟩
noncomputable def i_slices_IndexFunc_Rule_a98.out (r : i_slices_IndexFunc_Rule_a98.R) : St := ⟨19, [(4, .cv (.one (.int .i64 r.1)))], [(.lnk 49 (.int .i64) T1383 r.2.1 3 r.2.2.1, []), (.box 1, [.int .i64 r.2.2.2.1]), (.box 6, [.int .i64 r.2.2.2.2.1.1.1, .int .i64 r.2.2.2.2.1.1.2, .int .i64 r.2.2.2.2.1.2.1, .int .i64 r.2.2.2.2.1.2.2.1, .int .i64 r.2.2.2.2.1.2.2.2.1, .int .i64 r.2.2.2.2.1.2.2.2.2]), (.buf 39 T1383 r.2.2.2.2.2.1, [])]⟩
abbrev i_slices_IndexFunc_Rule_a98.Q (r : i_slices_IndexFunc_Rule_a98.R) := CallQ 4 (i_slices_IndexFunc_Rule_a98.out r)
noncomputable def i_slices_IndexFunc_Rule_a98.s1 (p1 : Int) (p2 : Int) (p3 : List (Int × List T1383.T)) (p4 : Nat) (p5 : Int) (p6 : T1383.T) (p7 : List T1383.T) : St := ⟨19, [(0, .cv (.one (.own 3))), (1, .cv (.one (.fn 46 [] [(2, 0)]))), (7, .cv (.one (.int .i64 p1))), (8, .cv (.one (.int .i64 p2)))], [(.lnk 49 (.int .i64) T1383 p3 3 p4, []), (.box 1, [.int .i64 p5]), (.box 6, [.int .i64 p6.1.1, .int .i64 p6.1.2, .int .i64 p6.2.1, .int .i64 p6.2.2.1, .int .i64 p6.2.2.2.1, .int .i64 p6.2.2.2.2]), (.buf 39 T1383 p7, [])]⟩
noncomputable def i_slices_IndexFunc_Rule_a98.b1 (L1 : Int → Int → List (Int × List T1383.T) → Nat → Int → T1383.T → List T1383.T → Option i_slices_IndexFunc_Rule_a98.R) (k : Nat) (p1 : Int) (p2 : Int) (p3 : List (Int × List T1383.T)) (p4 : Nat) (p5 : Int) (p6 : T1383.T) (p7 : List T1383.T) : Option i_slices_IndexFunc_Rule_a98.R :=
  if (decide (p2 < p1)) = true then
  if 0 ≤ p2 then
    if p2 < (p7.length : Int) then
      (i_table_Put_1_534.f k (att T1383 p7 p2) p3 p4 p5 p6 p7).bind fun y4 =>
        if y4.1 = true then
          some (p2, (y4.2.1, (y4.2.2.1, (y4.2.2.2.1, (y4.2.2.2.2.1, (y4.2.2.2.2.2.1, ()))))))
        else
          L1 p1 (IntKind.i64.wrap (p2 + 1)) y4.2.1 y4.2.2.1 y4.2.2.2.1 y4.2.2.2.2.1 y4.2.2.2.2.2.1
    else none
  else none
else
  some ((-1), (p3, (p4, (p5, (p6, (p7, ()))))))
theorem i_slices_IndexFunc_Rule_a98.b1_ok (hV : EnvOk P i_slices_IndexFunc_Rule_a98.V) {r : i_slices_IndexFunc_Rule_a98.R} (L1 : Int → Int → List (Int × List T1383.T) → Nat → Int → T1383.T → List T1383.T → Option i_slices_IndexFunc_Rule_a98.R) (m1 : Nat) (hL1 : ∀ (p1 : Int) (p2 : Int) (p3 : List (Int × List T1383.T)) (p4 : Nat) (p5 : Int) (p6 : T1383.T) (p7 : List T1383.T), L1 p1 p2 p3 p4 p5 p6 p7 = some r → WL P 4 (Code.l (Code.l (Code.r (Code.l (Code.r i_slices_IndexFunc_Rule_a98.c0))))) (blockW 0 (thenW P 4 (Code.r (Code.r i_slices_IndexFunc_Rule_a98.c0)) (i_slices_IndexFunc_Rule_a98.Q r))) m1 (i_slices_IndexFunc_Rule_a98.s1 p1 p2 p3 p4 p5 p6 p7)) (k : Nat) (p1 : Int) (p2 : Int) (p3 : List (Int × List T1383.T)) (p4 : Nat) (p5 : Int) (p6 : T1383.T) (p7 : List T1383.T) (H : i_slices_IndexFunc_Rule_a98.b1 L1 k p1 p2 p3 p4 p5 p6 p7 = some r) : W P 4 (Code.l (Code.l (Code.r (Code.l (Code.r i_slices_IndexFunc_Rule_a98.c0))))) (i_slices_IndexFunc_Rule_a98.s1 p1 p2 p3 p4 p5 p6 p7) (roundW P 4 (Code.l (Code.l (Code.r (Code.l (Code.r i_slices_IndexFunc_Rule_a98.c0))))) (blockW 0 (thenW P 4 (Code.r (Code.r i_slices_IndexFunc_Rule_a98.c0)) (i_slices_IndexFunc_Rule_a98.Q r))) m1) := by
  unfold i_slices_IndexFunc_Rule_a98.b1 at H
  refine D_seq (by kernel_rfl) ?_
  refine D_reg (cs := []) (τ := ⟨19, [(0, .cv (.one (.own 3))), (1, .cv (.one (.fn 46 [] [(2, 0)]))), (7, .cv (.one (.int .i64 p1))), (8, .cv (.one (.int .i64 p2))), (9, .cv (.one (.bool (decide (p2 < p1)))))], [(.lnk 49 (.int .i64) T1383 p3 3 p4, []), (.box 1, [.int .i64 p5]), (.box 6, [.int .i64 p6.1.1, .int .i64 p6.1.2, .int .i64 p6.2.1, .int .i64 p6.2.2.1, .int .i64 p6.2.2.2.1, .int .i64 p6.2.2.2.2]), (.buf 39 T1383 p7, [])]⟩) hV 0 [] {live := [0, 1, 7, 8, 9], src := [some 0, some 1, some 2, some 3]} (by kernel_rfl) (by kernel_rfl) trivial ?_
  refine th_n ?_
  refine D_seq (by kernel_rfl) ?_
  refine D_condB (t := 9) (b := (decide (p2 < p1))) (by kernel_rfl) (by kernel_rfl) (fun hb1 => ?_) (fun hb1 => ?_)
  · rw [if_pos hb1] at H
    refine D_skip (by kernel_rfl) ?_
    refine th_n ?_
    refine D_seq (by kernel_rfl) ?_
    refine D_block (id := 1) (by kernel_rfl) ?_
    refine D_seq (by kernel_rfl) ?_
    refine D_reg (cs := []) (τ := ⟨19, [(0, .cv (.one (.own 3))), (1, .cv (.one (.fn 46 [] [(2, 0)]))), (5, .cv (.one (.int .i64 p2))), (7, .cv (.one (.int .i64 p1))), (8, .cv (.one (.int .i64 p2)))], [(.lnk 49 (.int .i64) T1383 p3 3 p4, []), (.box 1, [.int .i64 p5]), (.box 6, [.int .i64 p6.1.1, .int .i64 p6.1.2, .int .i64 p6.2.1, .int .i64 p6.2.2.1, .int .i64 p6.2.2.2.1, .int .i64 p6.2.2.2.2]), (.buf 39 T1383 p7, [])]⟩) hV 0 [] {live := [0, 1, 5, 7, 8], src := [some 0, some 1, some 2, some 3]} (by kernel_rfl) (by kernel_rfl) trivial ?_
    refine th_n ?_
    refine D_seq (by kernel_rfl) ?_
    refine D_regI [0, 1, 2, 3, 4, 5] (by kernel_rfl) (by kernel_rfl) ?_
    obtain ⟨n2, H⟩ := of_if H
    obtain ⟨n3, H⟩ := of_if H
    refine D_ev (cs := [0 ≤ p2, p2 < (p7.length : Int)]) (τ := ⟨19, [(0, .cv (.one (.own 3))), (1, .cv (.one (.fn 46 [] [(2, 0)]))), (5, .cv (.one (.int .i64 p2))), (7, .cv (.one (.int .i64 p1))), (8, .cv (.one (.int .i64 p2))), (11, .cv (.one (.fn 46 [] [(2, 0)]))), (12, .cv (.one (.own 3))), (13, .cv (.one (.int .i64 p2))), (14, .cv (.one (.eptr 3 T1383 p2 0))), (15, .cv (.agg [.int .i64 (((att T1383 p7 p2).1).1), .int .i64 (((att T1383 p7 p2).1).2), .int .i64 (((att T1383 p7 p2).2).1), .int .i64 ((((att T1383 p7 p2).2).2).1), .int .i64 (((((att T1383 p7 p2).2).2).2).1), .int .i64 (((((att T1383 p7 p2).2).2).2).2)]))], [(.lnk 49 (.int .i64) T1383 p3 3 p4, []), (.box 1, [.int .i64 p5]), (.box 6, [.int .i64 p6.1.1, .int .i64 p6.1.2, .int .i64 p6.2.1, .int .i64 p6.2.2.1, .int .i64 p6.2.2.2.1, .int .i64 p6.2.2.2.2]), (.buf 39 T1383 p7, [])]⟩) hV 0 [] [0, 1, 2, 3, 4] [5] rfl (by kernel_rfl) ⟨n2, n3, trivial⟩ ?_
    obtain ⟨y4, e5, H⟩ := of_bind H
    refine D_call (f := 46) (N := 4) (cvs := [.agg [.int .i64 (((att T1383 p7 p2).1).1), .int .i64 (((att T1383 p7 p2).1).2), .int .i64 (((att T1383 p7 p2).2).1), .int .i64 ((((att T1383 p7 p2).2).2).1), .int .i64 (((((att T1383 p7 p2).2).2).2).1), .int .i64 (((((att T1383 p7 p2).2).2).2).2)], .one (.ptr 2 0)]) (σ0 := i_table_Put_1_534.s0 (att T1383 p7 p2) p3 p4 p5 p6 p7) (τ := i_table_Put_1_534.out y4) (σ2 := ⟨19, [(0, .cv (.one (.own 3))), (1, .cv (.one (.fn 46 [] [(2, 0)]))), (5, .cv (.one (.int .i64 p2))), (7, .cv (.one (.int .i64 p1))), (8, .cv (.one (.int .i64 p2))), (11, .cv (.one (.fn 46 [] [(2, 0)]))), (12, .cv (.one (.own 3))), (13, .cv (.one (.int .i64 p2))), (14, .cv (.one (.eptr 3 T1383 p2 0))), (15, .cv (.agg [.int .i64 (((att T1383 p7 p2).1).1), .int .i64 (((att T1383 p7 p2).1).2), .int .i64 (((att T1383 p7 p2).2).1), .int .i64 ((((att T1383 p7 p2).2).2).1), .int .i64 (((((att T1383 p7 p2).2).2).2).1), .int .i64 (((((att T1383 p7 p2).2).2).2).2)])), (16, .cv (.one (.bool y4.1)))], [(.lnk 49 (.int .i64) T1383 y4.2.1 3 y4.2.2.1, []), (.box 1, [.int .i64 y4.2.2.2.1]), (.box 6, [.int .i64 y4.2.2.2.2.1.1.1, .int .i64 y4.2.2.2.2.1.1.2, .int .i64 y4.2.2.2.2.1.2.1, .int .i64 y4.2.2.2.2.1.2.2.1, .int .i64 y4.2.2.2.2.1.2.2.2.1, .int .i64 y4.2.2.2.2.1.2.2.2.2]), (.buf 39 T1383 y4.2.2.2.2.2.1, [])]⟩) hV 5 (by kernel_rfl) Go.Proofs.Try.func46 (by kernel_rfl) (by decide) (by kernel_rfl) (by kernel_rfl) (by kernel_rfl) (i_table_Put_1_534.ok k (att T1383 p7 p2) p3 p4 p5 p6 p7 e5) (by kernel_rfl) ?_
    refine WO_tell (τ := ⟨19, [(0, .cv (.one (.own 3))), (1, .cv (.one (.fn 46 [] [(2, 0)]))), (5, .cv (.one (.int .i64 p2))), (7, .cv (.one (.int .i64 p1))), (8, .cv (.one (.int .i64 p2))), (16, .cv (.one (.bool y4.1)))], [(.lnk 49 (.int .i64) T1383 y4.2.1 3 y4.2.2.1, []), (.box 1, [.int .i64 y4.2.2.2.1]), (.box 6, [.int .i64 y4.2.2.2.2.1.1.1, .int .i64 y4.2.2.2.2.1.1.2, .int .i64 y4.2.2.2.2.1.2.1, .int .i64 y4.2.2.2.2.1.2.2.1, .int .i64 y4.2.2.2.2.1.2.2.2.1, .int .i64 y4.2.2.2.2.1.2.2.2.2]), (.buf 39 T1383 y4.2.2.2.2.2.1, [])]⟩) {live := [0, 1, 5, 7, 8, 16], src := [some 0, some 1, some 2, some 3]} (by kernel_rfl) (by kernel_rfl) ?_
    refine WO_nil ?_
    refine th_n ?_
    refine D_condB (t := 16) (b := y4.1) (by kernel_rfl) (by kernel_rfl) (fun hb6 => ?_) (fun hb6 => ?_)
    · rw [if_pos hb6] at H
      refine D_seq (by kernel_rfl) ?_
      refine D_reg (cs := []) (τ := ⟨19, [(4, .cv (.one (.int .i64 p2)))], [(.lnk 49 (.int .i64) T1383 y4.2.1 3 y4.2.2.1, []), (.box 1, [.int .i64 y4.2.2.2.1]), (.box 6, [.int .i64 y4.2.2.2.2.1.1.1, .int .i64 y4.2.2.2.2.1.1.2, .int .i64 y4.2.2.2.2.1.2.1, .int .i64 y4.2.2.2.2.1.2.2.1, .int .i64 y4.2.2.2.2.1.2.2.2.1, .int .i64 y4.2.2.2.2.1.2.2.2.2]), (.buf 39 T1383 y4.2.2.2.2.2.1, [])]⟩) hV 0 [] {live := [4], src := [some 0, some 1, some 2, some 3]} (by kernel_rfl) (by kernel_rfl) trivial ?_
      refine th_n ?_
      refine D_ret (by kernel_rfl) ?_
      refine bl_r ?_
      refine th_r ?_
      refine ro_r ?_
      refine bl_r ?_
      refine th_r ?_
      obtain rfl := Option.some.inj H
      exact cq_r {fz := [], gr := 0, ad := [], live := [4], src := [some 0, some 1, some 2, some 3]} (by kernel_rfl) (by kernel_rfl)
    · rw [if_neg (by rw [hb6]; decide)] at H
      refine D_skip (by kernel_rfl) ?_
      refine bl_n ?_
      refine th_n ?_
      refine D_reg (cs := []) (τ := ⟨19, [(0, .cv (.one (.own 3))), (1, .cv (.one (.fn 46 [] [(2, 0)]))), (7, .cv (.one (.int .i64 p1))), (8, .cv (.one (.int .i64 (IntKind.i64.wrap (p2 + 1)))))], [(.lnk 49 (.int .i64) T1383 y4.2.1 3 y4.2.2.1, []), (.box 1, [.int .i64 y4.2.2.2.1]), (.box 6, [.int .i64 y4.2.2.2.2.1.1.1, .int .i64 y4.2.2.2.2.1.1.2, .int .i64 y4.2.2.2.2.1.2.1, .int .i64 y4.2.2.2.2.1.2.2.1, .int .i64 y4.2.2.2.2.1.2.2.2.1, .int .i64 y4.2.2.2.2.1.2.2.2.2]), (.buf 39 T1383 y4.2.2.2.2.2.1, [])]⟩) hV 0 [] {live := [0, 1, 7, 8], src := [some 0, some 1, some 2, some 3]} (by kernel_rfl) (by kernel_rfl) trivial ?_
      refine ro_n (WL_tell (τ := i_slices_IndexFunc_Rule_a98.s1 p1 (IntKind.i64.wrap (p2 + 1)) y4.2.1 y4.2.2.1 y4.2.2.2.1 y4.2.2.2.2.1 y4.2.2.2.2.2.1) {fz := [], gr := 0, ad := [], live := [0, 1, 7, 8], src := [some 0, some 1, some 2, some 3]} (by kernel_rfl) (by kernel_rfl) ?_)
      exact hL1 p1 (IntKind.i64.wrap (p2 + 1)) y4.2.1 y4.2.2.1 y4.2.2.2.1 y4.2.2.2.2.1 y4.2.2.2.2.2.1 H
  · rw [if_neg (by rw [hb1]; decide)] at H
    refine D_exit (id := 0) (by kernel_rfl) ?_
    refine th_x ?_
    refine ro_x ?_
    refine bl_h ?_
    refine th_n ?_
    refine D_seq (by kernel_rfl) ?_
    refine D_reg (cs := []) (τ := ⟨19, [(4, .cv (.one (.int .i64 (-1))))], [(.lnk 49 (.int .i64) T1383 p3 3 p4, []), (.box 1, [.int .i64 p5]), (.box 6, [.int .i64 p6.1.1, .int .i64 p6.1.2, .int .i64 p6.2.1, .int .i64 p6.2.2.1, .int .i64 p6.2.2.2.1, .int .i64 p6.2.2.2.2]), (.buf 39 T1383 p7, [])]⟩) hV 0 [] {live := [4], src := [some 0, some 1, some 2, some 3]} (by kernel_rfl) (by kernel_rfl) trivial ?_
    refine th_n ?_
    refine D_ret (by kernel_rfl) ?_
    obtain rfl := Option.some.inj H
    exact cq_r {fz := [], gr := 0, ad := [], live := [4], src := [some 0, some 1, some 2, some 3]} (by kernel_rfl) (by kernel_rfl)
noncomputable def i_slices_IndexFunc_Rule_a98.l1 (k : Nat) : Nat → Int → Int → List (Int × List T1383.T) → Nat → Int → T1383.T → List T1383.T → Option i_slices_IndexFunc_Rule_a98.R
  | 0, _, _, _, _, _, _, _ => none
  | m + 1, p1, p2, p3, p4, p5, p6, p7 => i_slices_IndexFunc_Rule_a98.b1 (i_slices_IndexFunc_Rule_a98.l1 k m) k p1 p2 p3 p4 p5 p6 p7
theorem i_slices_IndexFunc_Rule_a98.l1_ok (hV : EnvOk P i_slices_IndexFunc_Rule_a98.V) {r : i_slices_IndexFunc_Rule_a98.R} (k : Nat) : ∀ (m1 : Nat) (p1 : Int) (p2 : Int) (p3 : List (Int × List T1383.T)) (p4 : Nat) (p5 : Int) (p6 : T1383.T) (p7 : List T1383.T), i_slices_IndexFunc_Rule_a98.l1 k m1 p1 p2 p3 p4 p5 p6 p7 = some r → WL P 4 (Code.l (Code.l (Code.r (Code.l (Code.r i_slices_IndexFunc_Rule_a98.c0))))) (blockW 0 (thenW P 4 (Code.r (Code.r i_slices_IndexFunc_Rule_a98.c0)) (i_slices_IndexFunc_Rule_a98.Q r))) m1 (i_slices_IndexFunc_Rule_a98.s1 p1 p2 p3 p4 p5 p6 p7)
  | 0, _, _, _, _, _, _, _, H => by cases H
  | m1 + 1, p1, p2, p3, p4, p5, p6, p7, H => WL_succ (i_slices_IndexFunc_Rule_a98.b1_ok hV (i_slices_IndexFunc_Rule_a98.l1 k m1) m1 (fun p1 p2 p3 p4 p5 p6 p7 H => i_slices_IndexFunc_Rule_a98.l1_ok hV k m1 p1 p2 p3 p4 p5 p6 p7 H) k p1 p2 p3 p4 p5 p6 p7 H)
noncomputable def i_slices_IndexFunc_Rule_a98.f (k : Nat) (p1 : List (Int × List T1383.T)) (p2 : Nat) (p3 : Int) (p4 : T1383.T) (p5 : List T1383.T) : Option i_slices_IndexFunc_Rule_a98.R :=
  i_slices_IndexFunc_Rule_a98.l1 k k (p5.length : Int) 0 p1 p2 p3 p4 p5
theorem i_slices_IndexFunc_Rule_a98.f_ok (hV : EnvOk P i_slices_IndexFunc_Rule_a98.V) {r : i_slices_IndexFunc_Rule_a98.R} (k : Nat) (p1 : List (Int × List T1383.T)) (p2 : Nat) (p3 : Int) (p4 : T1383.T) (p5 : List T1383.T) (H : i_slices_IndexFunc_Rule_a98.f k p1 p2 p3 p4 p5 = some r) : W P 4 i_slices_IndexFunc_Rule_a98.c0 (⟨19, [(0, .cv (.one (.own 3))), (1, .cv (.one (.fn 46 [] [(2, 0)])))], [(.lnk 49 (.int .i64) T1383 p1 3 p2, []), (.box 1, [.int .i64 p3]), (.box 6, [.int .i64 p4.1.1, .int .i64 p4.1.2, .int .i64 p4.2.1, .int .i64 p4.2.2.1, .int .i64 p4.2.2.2.1, .int .i64 p4.2.2.2.2]), (.buf 39 T1383 p5, [])]⟩) (i_slices_IndexFunc_Rule_a98.Q r) := by
  unfold i_slices_IndexFunc_Rule_a98.f at H
  refine D_seq (by kernel_rfl) ?_
  refine D_reg (cs := []) (τ := ⟨19, [(0, .cv (.one (.own 3))), (1, .cv (.one (.fn 46 [] [(2, 0)])))], [(.lnk 49 (.int .i64) T1383 p1 3 p2, []), (.box 1, [.int .i64 p3]), (.box 6, [.int .i64 p4.1.1, .int .i64 p4.1.2, .int .i64 p4.2.1, .int .i64 p4.2.2.1, .int .i64 p4.2.2.2.1, .int .i64 p4.2.2.2.2]), (.buf 39 T1383 p5, [])]⟩) hV 0 [] {live := [0, 1], src := [some 0, some 1, some 2, some 3]} (by kernel_rfl) (by kernel_rfl) trivial ?_
  refine th_n ?_
  refine D_seq (by kernel_rfl) ?_
  refine D_seq (by kernel_rfl) ?_
  refine D_reg (cs := []) (τ := ⟨19, [(0, .cv (.one (.own 3))), (1, .cv (.one (.fn 46 [] [(2, 0)]))), (7, .cv (.one (.int .i64 (p5.length : Int)))), (8, .cv (.one (.int .i64 0)))], [(.lnk 49 (.int .i64) T1383 p1 3 p2, []), (.box 1, [.int .i64 p3]), (.box 6, [.int .i64 p4.1.1, .int .i64 p4.1.2, .int .i64 p4.2.1, .int .i64 p4.2.2.1, .int .i64 p4.2.2.2.1, .int .i64 p4.2.2.2.2]), (.buf 39 T1383 p5, [])]⟩) hV 0 [] {live := [0, 1, 7, 8], src := [some 0, some 1, some 2, some 3]} (by kernel_rfl) (by kernel_rfl) trivial ?_
  refine th_n ?_
  refine D_block (id := 0) (by kernel_rfl) ?_
  refine W_tell (τ := i_slices_IndexFunc_Rule_a98.s1 (p5.length : Int) 0 p1 p2 p3 p4 p5) {fz := [], gr := 0, ad := [], live := [0, 1, 7, 8], src := [some 0, some 1, some 2, some 3]} (by kernel_rfl) (by kernel_rfl) ?_
  exact D_loop (by kernel_rfl) k (i_slices_IndexFunc_Rule_a98.l1_ok hV k k (p5.length : Int) 0 p1 p2 p3 p4 p5 H)
theorem i_slices_IndexFunc_Rule_a98.ok {r : i_slices_IndexFunc_Rule_a98.R} (k : Nat) (p1 : List (Int × List T1383.T)) (p2 : Nat) (p3 : Int) (p4 : T1383.T) (p5 : List T1383.T) (H : i_slices_IndexFunc_Rule_a98.f k p1 p2 p3 p4 p5 = some r) : W P 4 i_slices_IndexFunc_Rule_a98.c0 (i_slices_IndexFunc_Rule_a98.s0 p1 p2 p3 p4 p5) (CallQ 4 (i_slices_IndexFunc_Rule_a98.out r)) := i_slices_IndexFunc_Rule_a98.f_ok i_slices_IndexFunc_Rule_a98.V_ok k p1 p2 p3 p4 p5 H
/-! ### i_table_first_Rule_a98: function 45, wayfinder/table.first[wayfinder/api.Rule], where it is called -/
noncomputable def i_table_first_Rule_a98.c0 : Code := (Go.Proofs.Try.f45.body).getD .skip
noncomputable def i_table_first_Rule_a98.G : List (Nat × Spec) := []
noncomputable def i_table_first_Rule_a98.V : Env := { tt := tt, Γ := slk i_table_first_Rule_a98.G }
theorem i_table_first_Rule_a98.V_ok : EnvOk P i_table_first_Rule_a98.V := { ck := tt_ck, fits := slk_nil, mixed := mixed }
abbrev i_table_first_Rule_a98.R := (Int) × (List (Int × List T1383.T)) × (Nat) × (Int) × (T1383.T) × (List T1383.T) × Unit
noncomputable def i_table_first_Rule_a98.s0 (p1 : List (Int × List T1383.T)) (p2 : Nat) (p3 : Int) (p4 : T1383.T) (p5 : List T1383.T) : St := ⟨14, [(0, .cv (.one (.own 3))), (1, .cv (.one (.fn 46 [] [(2, 0)])))], [(.lnk 49 (.int .i64) T1383 p1 3 p2, []), (.box 1, [.int .i64 p3]), (.box 6, [.int .i64 p4.1.1, .int .i64 p4.1.2, .int .i64 p4.2.1, .int .i64 p4.2.2.1, .int .i64 p4.2.2.2.1, .int .i64 p4.2.2.2.2]), (.buf 39 T1383 p5, [])]⟩
noncomputable def i_table_first_Rule_a98.out (r : i_table_first_Rule_a98.R) : St := ⟨14, [(4, .cv (.one (.int .i64 r.1)))], [(.lnk 49 (.int .i64) T1383 r.2.1 3 r.2.2.1, []), (.box 1, [.int .i64 r.2.2.2.1]), (.box 6, [.int .i64 r.2.2.2.2.1.1.1, .int .i64 r.2.2.2.2.1.1.2, .int .i64 r.2.2.2.2.1.2.1, .int .i64 r.2.2.2.2.1.2.2.1, .int .i64 r.2.2.2.2.1.2.2.2.1, .int .i64 r.2.2.2.2.1.2.2.2.2]), (.buf 39 T1383 r.2.2.2.2.2.1, [])]⟩
abbrev i_table_first_Rule_a98.Q (r : i_table_first_Rule_a98.R) := CallQ 4 (i_table_first_Rule_a98.out r)
noncomputable def i_table_first_Rule_a98.f (k : Nat) (p1 : List (Int × List T1383.T)) (p2 : Nat) (p3 : Int) (p4 : T1383.T) (p5 : List T1383.T) : Option i_table_first_Rule_a98.R :=
  (i_slices_IndexFunc_Rule_a98.f k p1 p2 p3 p4 p5).bind fun y1 =>
    if (decide (y1.1 ≥ (0 : Int))) = true then
      some (y1.1, (y1.2.1, (y1.2.2.1, (y1.2.2.2.1, (y1.2.2.2.2.1, (y1.2.2.2.2.2.1, ()))))))
    else
      some ((y1.2.2.2.2.2.1.length : Int), (y1.2.1, (y1.2.2.1, (y1.2.2.2.1, (y1.2.2.2.2.1, (y1.2.2.2.2.2.1, ()))))))
theorem i_table_first_Rule_a98.f_ok (hV : EnvOk P i_table_first_Rule_a98.V) {r : i_table_first_Rule_a98.R} (k : Nat) (p1 : List (Int × List T1383.T)) (p2 : Nat) (p3 : Int) (p4 : T1383.T) (p5 : List T1383.T) (H : i_table_first_Rule_a98.f k p1 p2 p3 p4 p5 = some r) : W P 4 i_table_first_Rule_a98.c0 (⟨14, [(0, .cv (.one (.own 3))), (1, .cv (.one (.fn 46 [] [(2, 0)])))], [(.lnk 49 (.int .i64) T1383 p1 3 p2, []), (.box 1, [.int .i64 p3]), (.box 6, [.int .i64 p4.1.1, .int .i64 p4.1.2, .int .i64 p4.2.1, .int .i64 p4.2.2.1, .int .i64 p4.2.2.2.1, .int .i64 p4.2.2.2.2]), (.buf 39 T1383 p5, [])]⟩) (i_table_first_Rule_a98.Q r) := by
  unfold i_table_first_Rule_a98.f at H
  refine D_seq (by kernel_rfl) ?_
  refine D_reg (cs := []) (τ := ⟨14, [(0, .cv (.one (.own 3))), (1, .cv (.one (.fn 46 [] [(2, 0)])))], [(.lnk 49 (.int .i64) T1383 p1 3 p2, []), (.box 1, [.int .i64 p3]), (.box 6, [.int .i64 p4.1.1, .int .i64 p4.1.2, .int .i64 p4.2.1, .int .i64 p4.2.2.1, .int .i64 p4.2.2.2.1, .int .i64 p4.2.2.2.2]), (.buf 39 T1383 p5, [])]⟩) hV 0 [] {live := [0, 1], src := [some 0, some 1, some 2, some 3]} (by kernel_rfl) (by kernel_rfl) trivial ?_
  refine th_n ?_
  refine D_seq (by kernel_rfl) ?_
  refine D_seq (by kernel_rfl) ?_
  refine D_regI [0, 1, 2, 3] (by kernel_rfl) (by kernel_rfl) ?_
  refine D_ev (cs := []) (τ := ⟨14, [(0, .cv (.one (.own 3))), (1, .cv (.one (.fn 46 [] [(2, 0)]))), (6, .cv (.one (.own 3))), (7, .cv (.one (.fn 46 [] [(2, 0)])))], [(.lnk 49 (.int .i64) T1383 p1 3 p2, []), (.box 1, [.int .i64 p3]), (.box 6, [.int .i64 p4.1.1, .int .i64 p4.1.2, .int .i64 p4.2.1, .int .i64 p4.2.2.1, .int .i64 p4.2.2.2.1, .int .i64 p4.2.2.2.2]), (.buf 39 T1383 p5, [])]⟩) hV 0 [] [0, 1] [2, 3] rfl (by kernel_rfl) trivial ?_
  obtain ⟨y1, e2, H⟩ := of_bind H
  refine D_call (f := 66) (N := 4) (cvs := [.one (.own 3), .one (.fn 46 [] [(2, 0)])]) (σ0 := i_slices_IndexFunc_Rule_a98.s0 p1 p2 p3 p4 p5) (τ := i_slices_IndexFunc_Rule_a98.out y1) (σ2 := ⟨14, [(0, .cv (.one (.own 3))), (1, .cv (.one (.fn 46 [] [(2, 0)]))), (6, .cv (.one (.own 3))), (7, .cv (.one (.fn 46 [] [(2, 0)]))), (8, .cv (.one (.int .i64 y1.1)))], [(.lnk 49 (.int .i64) T1383 y1.2.1 3 y1.2.2.1, []), (.box 1, [.int .i64 y1.2.2.2.1]), (.box 6, [.int .i64 y1.2.2.2.2.1.1.1, .int .i64 y1.2.2.2.2.1.1.2, .int .i64 y1.2.2.2.2.1.2.1, .int .i64 y1.2.2.2.2.1.2.2.1, .int .i64 y1.2.2.2.2.1.2.2.2.1, .int .i64 y1.2.2.2.2.1.2.2.2.2]), (.buf 39 T1383 y1.2.2.2.2.2.1, [])]⟩) hV 2 (by kernel_rfl) Go.Proofs.Try.func66 (by kernel_rfl) (by decide) (by kernel_rfl) (by kernel_rfl) (by kernel_rfl) (i_slices_IndexFunc_Rule_a98.ok k p1 p2 p3 p4 p5 e2) (by kernel_rfl) ?_
  refine D_ev (cs := []) (τ := ⟨14, [(0, .cv (.one (.own 3))), (1, .cv (.one (.fn 46 [] [(2, 0)]))), (5, .cv (.one (.int .i64 y1.1))), (6, .cv (.one (.own 3))), (7, .cv (.one (.fn 46 [] [(2, 0)]))), (8, .cv (.one (.int .i64 y1.1)))], [(.lnk 49 (.int .i64) T1383 y1.2.1 3 y1.2.2.1, []), (.box 1, [.int .i64 y1.2.2.2.1]), (.box 6, [.int .i64 y1.2.2.2.2.1.1.1, .int .i64 y1.2.2.2.2.1.1.2, .int .i64 y1.2.2.2.2.1.2.1, .int .i64 y1.2.2.2.2.1.2.2.1, .int .i64 y1.2.2.2.2.1.2.2.2.1, .int .i64 y1.2.2.2.2.1.2.2.2.2]), (.buf 39 T1383 y1.2.2.2.2.2.1, [])]⟩) hV 0 [] [3] [] rfl (by kernel_rfl) trivial ?_
  refine WO_tell (τ := ⟨14, [(0, .cv (.one (.own 3))), (5, .cv (.one (.int .i64 y1.1)))], [(.lnk 49 (.int .i64) T1383 y1.2.1 3 y1.2.2.1, []), (.box 1, [.int .i64 y1.2.2.2.1]), (.box 6, [.int .i64 y1.2.2.2.2.1.1.1, .int .i64 y1.2.2.2.2.1.1.2, .int .i64 y1.2.2.2.2.1.2.1, .int .i64 y1.2.2.2.2.1.2.2.1, .int .i64 y1.2.2.2.2.1.2.2.2.1, .int .i64 y1.2.2.2.2.1.2.2.2.2]), (.buf 39 T1383 y1.2.2.2.2.2.1, [])]⟩) {live := [0, 5], src := [some 0, some 1, some 2, some 3]} (by kernel_rfl) (by kernel_rfl) ?_
  refine WO_nil ?_
  refine th_n ?_
  refine D_seq (by kernel_rfl) ?_
  refine D_reg (cs := []) (τ := ⟨14, [(0, .cv (.one (.own 3))), (5, .cv (.one (.int .i64 y1.1))), (10, .cv (.one (.bool (decide (y1.1 ≥ (0 : Int))))))], [(.lnk 49 (.int .i64) T1383 y1.2.1 3 y1.2.2.1, []), (.box 1, [.int .i64 y1.2.2.2.1]), (.box 6, [.int .i64 y1.2.2.2.2.1.1.1, .int .i64 y1.2.2.2.2.1.1.2, .int .i64 y1.2.2.2.2.1.2.1, .int .i64 y1.2.2.2.2.1.2.2.1, .int .i64 y1.2.2.2.2.1.2.2.2.1, .int .i64 y1.2.2.2.2.1.2.2.2.2]), (.buf 39 T1383 y1.2.2.2.2.2.1, [])]⟩) hV 0 [] {live := [0, 5, 10], src := [some 0, some 1, some 2, some 3]} (by kernel_rfl) (by kernel_rfl) trivial ?_
  refine th_n ?_
  refine D_condB (t := 10) (b := (decide (y1.1 ≥ (0 : Int)))) (by kernel_rfl) (by kernel_rfl) (fun hb3 => ?_) (fun hb3 => ?_)
  · rw [if_pos hb3] at H
    refine D_seq (by kernel_rfl) ?_
    refine D_reg (cs := []) (τ := ⟨14, [(4, .cv (.one (.int .i64 y1.1)))], [(.lnk 49 (.int .i64) T1383 y1.2.1 3 y1.2.2.1, []), (.box 1, [.int .i64 y1.2.2.2.1]), (.box 6, [.int .i64 y1.2.2.2.2.1.1.1, .int .i64 y1.2.2.2.2.1.1.2, .int .i64 y1.2.2.2.2.1.2.1, .int .i64 y1.2.2.2.2.1.2.2.1, .int .i64 y1.2.2.2.2.1.2.2.2.1, .int .i64 y1.2.2.2.2.1.2.2.2.2]), (.buf 39 T1383 y1.2.2.2.2.2.1, [])]⟩) hV 0 [] {live := [4], src := [some 0, some 1, some 2, some 3]} (by kernel_rfl) (by kernel_rfl) trivial ?_
    refine th_n ?_
    refine D_ret (by kernel_rfl) ?_
    refine th_r ?_
    obtain rfl := Option.some.inj H
    exact cq_r {fz := [], gr := 0, ad := [], live := [4], src := [some 0, some 1, some 2, some 3]} (by kernel_rfl) (by kernel_rfl)
  · rw [if_neg (by rw [hb3]; decide)] at H
    refine D_skip (by kernel_rfl) ?_
    refine th_n ?_
    refine D_seq (by kernel_rfl) ?_
    refine D_reg (cs := []) (τ := ⟨14, [(4, .cv (.one (.int .i64 (y1.2.2.2.2.2.1.length : Int))))], [(.lnk 49 (.int .i64) T1383 y1.2.1 3 y1.2.2.1, []), (.box 1, [.int .i64 y1.2.2.2.1]), (.box 6, [.int .i64 y1.2.2.2.2.1.1.1, .int .i64 y1.2.2.2.2.1.1.2, .int .i64 y1.2.2.2.2.1.2.1, .int .i64 y1.2.2.2.2.1.2.2.1, .int .i64 y1.2.2.2.2.1.2.2.2.1, .int .i64 y1.2.2.2.2.1.2.2.2.2]), (.buf 39 T1383 y1.2.2.2.2.2.1, [])]⟩) hV 0 [] {live := [4], src := [some 0, some 1, some 2, some 3]} (by kernel_rfl) (by kernel_rfl) trivial ?_
    refine th_n ?_
    refine D_ret (by kernel_rfl) ?_
    obtain rfl := Option.some.inj H
    exact cq_r {fz := [], gr := 0, ad := [], live := [4], src := [some 0, some 1, some 2, some 3]} (by kernel_rfl) (by kernel_rfl)
theorem i_table_first_Rule_a98.ok {r : i_table_first_Rule_a98.R} (k : Nat) (p1 : List (Int × List T1383.T)) (p2 : Nat) (p3 : Int) (p4 : T1383.T) (p5 : List T1383.T) (H : i_table_first_Rule_a98.f k p1 p2 p3 p4 p5 = some r) : W P 4 i_table_first_Rule_a98.c0 (i_table_first_Rule_a98.s0 p1 p2 p3 p4 p5) (CallQ 4 (i_table_first_Rule_a98.out r)) := i_table_first_Rule_a98.f_ok i_table_first_Rule_a98.V_ok k p1 p2 p3 p4 p5 H
/-! ### i_table_own_6f4: function 44, wayfinder/table.own, where it is called -/
noncomputable def i_table_own_6f4.c0 : Code := (Go.Proofs.Try.f44.body).getD .skip
noncomputable def i_table_own_6f4.G : List (Nat × Spec) := [(56, f_slices_Clone_Rule.S)]
noncomputable def i_table_own_6f4.V : Env := { tt := tt, Γ := slk i_table_own_6f4.G }
theorem i_table_own_6f4.V_ok : EnvOk P i_table_own_6f4.V := { ck := tt_ck, fits := slk_cons f_slices_Clone_Rule.fits (slk_nil), mixed := mixed }
abbrev i_table_own_6f4.R := (Int) × (T1383.T) × (List T814c.T) × Unit
noncomputable def i_table_own_6f4.s0 (p1 : List T814c.T) (p2 : Int) (p3 : T1383.T) : St := ⟨23, [(0, .cv (.one (.sl T814c p1 .any)))], [(.box 1, [.int .i64 p2]), (.box 6, [.int .i64 p3.1.1, .int .i64 p3.1.2, .int .i64 p3.2.1, .int .i64 p3.2.2.1, .int .i64 p3.2.2.2.1, .int .i64 p3.2.2.2.2])]⟩
noncomputable def i_table_own_6f4.out (r : i_table_own_6f4.R) : St := ⟨23, [(2, .cv (.one (.own 2)))], [(.box 1, [.int .i64 r.1]), (.box 6, [.int .i64 r.2.1.1.1, .int .i64 r.2.1.1.2, .int .i64 r.2.1.2.1, .int .i64 r.2.1.2.2.1, .int .i64 r.2.1.2.2.2.1, .int .i64 r.2.1.2.2.2.2]), (.buf 49 T814c r.2.2.1, [])]⟩
abbrev i_table_own_6f4.Q (r : i_table_own_6f4.R) := CallQ 2 (i_table_own_6f4.out r)
noncomputable def i_table_own_6f4.s1 (p1 : List T814c.T) (p2 : Int) (p3 : Int) (p4 : Int) (p5 : T1383.T) (p6 : List T814c.T) : St := ⟨23, [(3, .cv (.one (.own 2))), (6, .cv (.one (.sl T814c p1 .any))), (7, .cv (.one (.int .i64 p2))), (8, .cv (.one (.int .i64 p3)))], [(.box 1, [.int .i64 p4]), (.box 6, [.int .i64 p5.1.1, .int .i64 p5.1.2, .int .i64 p5.2.1, .int .i64 p5.2.2.1, .int .i64 p5.2.2.2.1, .int .i64 p5.2.2.2.2]), (.buf 49 T814c p6, [])]⟩
noncomputable def i_table_own_6f4.b1 (L1 : List T814c.T → Int → Int → Int → T1383.T → List T814c.T → Option i_table_own_6f4.R) (k : Nat) (p1 : List T814c.T) (p2 : Int) (p3 : Int) (p4 : Int) (p5 : T1383.T) (p6 : List T814c.T) : Option i_table_own_6f4.R :=
  if (decide (p3 < p2)) = true then
  if 0 ≤ p3 then
    if p3 < (p1.length : Int) then
      (f_slices_Clone_Rule.f k ((att T814c p1 p3).2)).bind fun y4 =>
        if (p6.length + 1) * 32 ≤ 140737488355328 then
          L1 p1 p2 (IntKind.i64.wrap (p3 + 1)) p4 p5 (p6 ++ [((att T814c p1 p3).1, y4.1)])
        else none
    else none
  else none
else
  some (p4, (p5, (p6, ())))
theorem i_table_own_6f4.b1_ok (hV : EnvOk P i_table_own_6f4.V) {r : i_table_own_6f4.R} (L1 : List T814c.T → Int → Int → Int → T1383.T → List T814c.T → Option i_table_own_6f4.R) (m1 : Nat) (hL1 : ∀ (p1 : List T814c.T) (p2 : Int) (p3 : Int) (p4 : Int) (p5 : T1383.T) (p6 : List T814c.T), L1 p1 p2 p3 p4 p5 p6 = some r → WL P 2 (Code.l (Code.l (Code.r (Code.l (Code.r (Code.r i_table_own_6f4.c0)))))) (blockW 0 (thenW P 2 (Code.r (Code.r (Code.r i_table_own_6f4.c0))) (i_table_own_6f4.Q r))) m1 (i_table_own_6f4.s1 p1 p2 p3 p4 p5 p6)) (k : Nat) (p1 : List T814c.T) (p2 : Int) (p3 : Int) (p4 : Int) (p5 : T1383.T) (p6 : List T814c.T) (H : i_table_own_6f4.b1 L1 k p1 p2 p3 p4 p5 p6 = some r) : W P 2 (Code.l (Code.l (Code.r (Code.l (Code.r (Code.r i_table_own_6f4.c0)))))) (i_table_own_6f4.s1 p1 p2 p3 p4 p5 p6) (roundW P 2 (Code.l (Code.l (Code.r (Code.l (Code.r (Code.r i_table_own_6f4.c0)))))) (blockW 0 (thenW P 2 (Code.r (Code.r (Code.r i_table_own_6f4.c0))) (i_table_own_6f4.Q r))) m1) := by
  unfold i_table_own_6f4.b1 at H
  refine D_seq (by kernel_rfl) ?_
  refine D_reg (cs := []) (τ := ⟨23, [(3, .cv (.one (.own 2))), (6, .cv (.one (.sl T814c p1 .any))), (7, .cv (.one (.int .i64 p2))), (8, .cv (.one (.int .i64 p3))), (9, .cv (.one (.bool (decide (p3 < p2)))))], [(.box 1, [.int .i64 p4]), (.box 6, [.int .i64 p5.1.1, .int .i64 p5.1.2, .int .i64 p5.2.1, .int .i64 p5.2.2.1, .int .i64 p5.2.2.2.1, .int .i64 p5.2.2.2.2]), (.buf 49 T814c p6, [])]⟩) hV 0 [] {live := [3, 6, 7, 8, 9], src := [some 0, some 1, some 2]} (by kernel_rfl) (by kernel_rfl) trivial ?_
  refine th_n ?_
  refine D_seq (by kernel_rfl) ?_
  refine D_condB (t := 9) (b := (decide (p3 < p2))) (by kernel_rfl) (by kernel_rfl) (fun hb1 => ?_) (fun hb1 => ?_)
  · rw [if_pos hb1] at H
    refine D_skip (by kernel_rfl) ?_
    refine th_n ?_
    refine D_seq (by kernel_rfl) ?_
    refine D_block (id := 1) (by kernel_rfl) ?_
    refine D_seq (by kernel_rfl) ?_
    obtain ⟨n2, H⟩ := of_if H
    obtain ⟨n3, H⟩ := of_if H
    refine D_reg (cs := [0 ≤ p3, p3 < (p1.length : Int)]) (τ := ⟨23, [(3, .cv (.one (.own 2))), (5, .cv (.one (.ptr 3 0))), (6, .cv (.one (.sl T814c p1 .any))), (7, .cv (.one (.int .i64 p2))), (8, .cv (.one (.int .i64 p3)))], [(.box 1, [.int .i64 p4]), (.box 6, [.int .i64 p5.1.1, .int .i64 p5.1.2, .int .i64 p5.2.1, .int .i64 p5.2.2.1, .int .i64 p5.2.2.2.1, .int .i64 p5.2.2.2.2]), (.buf 49 T814c p6, []), (.box 2, [.int .i64 ((att T814c p1 p3).1), .sl T1383 ((att T814c p1 p3).2) .any])]⟩) hV 1 [(2, {sb := 3})] {live := [3, 5, 6, 7, 8], src := [some 0, some 1, some 2, some 3]} (by kernel_rfl) (by kernel_rfl) ⟨n2, n3, trivial⟩ ?_
    refine th_n ?_
    obtain ⟨y4, e5, H⟩ := of_bind H
    obtain ⟨n6, H⟩ := of_if H
    refine D_reg (cs := [f_slices_Clone_Rule.S.rel ((att T814c p1 p3).2, ()) y4, (p6.length + 1) * 32 ≤ 140737488355328]) (τ := ⟨23, [(3, .cv (.one (.own 2))), (6, .cv (.one (.sl T814c p1 .any))), (7, .cv (.one (.int .i64 p2))), (8, .cv (.one (.int .i64 p3)))], [(.box 1, [.int .i64 p4]), (.box 6, [.int .i64 p5.1.1, .int .i64 p5.1.2, .int .i64 p5.2.1, .int .i64 p5.2.2.1, .int .i64 p5.2.2.2.1, .int .i64 p5.2.2.2.2]), (.buf 49 T814c (p6 ++ [((att T814c p1 p3).1, y4.1)]), [])]⟩) hV 1 [(5, {res := some ⟨f_slices_Clone_Rule.S.rs, y4⟩}), (8, {sb := 4})] {live := [3, 6, 7, 8], src := [some 0, some 1, some 4]} (by kernel_rfl) (by kernel_rfl) ⟨⟨k, e5⟩, n6, trivial⟩ ?_
    refine bl_n ?_
    refine th_n ?_
    refine D_reg (cs := []) (τ := ⟨23, [(3, .cv (.one (.own 2))), (6, .cv (.one (.sl T814c p1 .any))), (7, .cv (.one (.int .i64 p2))), (8, .cv (.one (.int .i64 (IntKind.i64.wrap (p3 + 1)))))], [(.box 1, [.int .i64 p4]), (.box 6, [.int .i64 p5.1.1, .int .i64 p5.1.2, .int .i64 p5.2.1, .int .i64 p5.2.2.1, .int .i64 p5.2.2.2.1, .int .i64 p5.2.2.2.2]), (.buf 49 T814c (p6 ++ [((att T814c p1 p3).1, y4.1)]), [])]⟩) hV 0 [] {live := [3, 6, 7, 8], src := [some 0, some 1, some 2]} (by kernel_rfl) (by kernel_rfl) trivial ?_
    refine ro_n (WL_tell (τ := i_table_own_6f4.s1 p1 p2 (IntKind.i64.wrap (p3 + 1)) p4 p5 (p6 ++ [((att T814c p1 p3).1, y4.1)])) {fz := [], gr := 0, ad := [], live := [3, 6, 7, 8], src := [some 0, some 1, some 2]} (by kernel_rfl) (by kernel_rfl) ?_)
    exact hL1 p1 p2 (IntKind.i64.wrap (p3 + 1)) p4 p5 (p6 ++ [((att T814c p1 p3).1, y4.1)]) H
  · rw [if_neg (by rw [hb1]; decide)] at H
    refine D_exit (id := 0) (by kernel_rfl) ?_
    refine th_x ?_
    refine ro_x ?_
    refine bl_h ?_
    refine th_n ?_
    refine D_seq (by kernel_rfl) ?_
    refine D_reg (cs := []) (τ := ⟨23, [(2, .cv (.one (.own 2)))], [(.box 1, [.int .i64 p4]), (.box 6, [.int .i64 p5.1.1, .int .i64 p5.1.2, .int .i64 p5.2.1, .int .i64 p5.2.2.1, .int .i64 p5.2.2.2.1, .int .i64 p5.2.2.2.2]), (.buf 49 T814c p6, [])]⟩) hV 0 [] {live := [2], src := [some 0, some 1, some 2]} (by kernel_rfl) (by kernel_rfl) trivial ?_
    refine th_n ?_
    refine D_ret (by kernel_rfl) ?_
    obtain rfl := Option.some.inj H
    exact cq_r {fz := [], gr := 0, ad := [], live := [2], src := [some 0, some 1, some 2]} (by kernel_rfl) (by kernel_rfl)
noncomputable def i_table_own_6f4.l1 (k : Nat) : Nat → List T814c.T → Int → Int → Int → T1383.T → List T814c.T → Option i_table_own_6f4.R
  | 0, _, _, _, _, _, _ => none
  | m + 1, p1, p2, p3, p4, p5, p6 => i_table_own_6f4.b1 (i_table_own_6f4.l1 k m) k p1 p2 p3 p4 p5 p6
theorem i_table_own_6f4.l1_ok (hV : EnvOk P i_table_own_6f4.V) {r : i_table_own_6f4.R} (k : Nat) : ∀ (m1 : Nat) (p1 : List T814c.T) (p2 : Int) (p3 : Int) (p4 : Int) (p5 : T1383.T) (p6 : List T814c.T), i_table_own_6f4.l1 k m1 p1 p2 p3 p4 p5 p6 = some r → WL P 2 (Code.l (Code.l (Code.r (Code.l (Code.r (Code.r i_table_own_6f4.c0)))))) (blockW 0 (thenW P 2 (Code.r (Code.r (Code.r i_table_own_6f4.c0))) (i_table_own_6f4.Q r))) m1 (i_table_own_6f4.s1 p1 p2 p3 p4 p5 p6)
  | 0, _, _, _, _, _, _, H => by cases H
  | m1 + 1, p1, p2, p3, p4, p5, p6, H => WL_succ (i_table_own_6f4.b1_ok hV (i_table_own_6f4.l1 k m1) m1 (fun p1 p2 p3 p4 p5 p6 H => i_table_own_6f4.l1_ok hV k m1 p1 p2 p3 p4 p5 p6 H) k p1 p2 p3 p4 p5 p6 H)
noncomputable def i_table_own_6f4.f (k : Nat) (p1 : List T814c.T) (p2 : Int) (p3 : T1383.T) : Option i_table_own_6f4.R :=
  i_table_own_6f4.l1 k k p1 (p1.length : Int) 0 p2 p3 []
theorem i_table_own_6f4.f_ok (hV : EnvOk P i_table_own_6f4.V) {r : i_table_own_6f4.R} (k : Nat) (p1 : List T814c.T) (p2 : Int) (p3 : T1383.T) (H : i_table_own_6f4.f k p1 p2 p3 = some r) : W P 2 i_table_own_6f4.c0 (⟨23, [(0, .cv (.one (.sl T814c p1 .any)))], [(.box 1, [.int .i64 p2]), (.box 6, [.int .i64 p3.1.1, .int .i64 p3.1.2, .int .i64 p3.2.1, .int .i64 p3.2.2.1, .int .i64 p3.2.2.2.1, .int .i64 p3.2.2.2.2])]⟩) (i_table_own_6f4.Q r) := by
  unfold i_table_own_6f4.f at H
  refine D_seq (by kernel_rfl) ?_
  refine D_reg (cs := []) (τ := ⟨23, [(0, .cv (.one (.sl T814c p1 .any)))], [(.box 1, [.int .i64 p2]), (.box 6, [.int .i64 p3.1.1, .int .i64 p3.1.2, .int .i64 p3.2.1, .int .i64 p3.2.2.1, .int .i64 p3.2.2.2.1, .int .i64 p3.2.2.2.2])]⟩) hV 0 [] {live := [0], src := [some 0, some 1]} (by kernel_rfl) (by kernel_rfl) trivial ?_
  refine th_n ?_
  refine D_seq (by kernel_rfl) ?_
  refine D_reg (cs := []) (τ := ⟨23, [(0, .cv (.one (.sl T814c p1 .any))), (3, .cv (.one (.nils)))], [(.box 1, [.int .i64 p2]), (.box 6, [.int .i64 p3.1.1, .int .i64 p3.1.2, .int .i64 p3.2.1, .int .i64 p3.2.2.1, .int .i64 p3.2.2.2.1, .int .i64 p3.2.2.2.2])]⟩) hV 0 [] {live := [0, 3], src := [some 0, some 1]} (by kernel_rfl) (by kernel_rfl) trivial ?_
  refine th_n ?_
  refine D_seq (by kernel_rfl) ?_
  refine D_seq (by kernel_rfl) ?_
  refine D_reg (cs := []) (τ := ⟨23, [(3, .cv (.one (.nils))), (6, .cv (.one (.sl T814c p1 .any))), (7, .cv (.one (.int .i64 (p1.length : Int)))), (8, .cv (.one (.int .i64 0)))], [(.box 1, [.int .i64 p2]), (.box 6, [.int .i64 p3.1.1, .int .i64 p3.1.2, .int .i64 p3.2.1, .int .i64 p3.2.2.1, .int .i64 p3.2.2.2.1, .int .i64 p3.2.2.2.2])]⟩) hV 0 [] {live := [3, 6, 7, 8], src := [some 0, some 1]} (by kernel_rfl) (by kernel_rfl) trivial ?_
  refine th_n ?_
  refine D_block (id := 0) (by kernel_rfl) ?_
  refine W_tell (τ := i_table_own_6f4.s1 p1 (p1.length : Int) 0 p2 p3 []) {fz := [], gr := 1, ad := [.ownT 3 2 49 T814c], live := [3, 6, 7, 8], src := [some 0, some 1, some 2]} (by kernel_rfl) (by kernel_rfl) ?_
  exact D_loop (by kernel_rfl) k (i_table_own_6f4.l1_ok hV k k p1 (p1.length : Int) 0 p2 p3 [] H)
theorem i_table_own_6f4.ok {r : i_table_own_6f4.R} (k : Nat) (p1 : List T814c.T) (p2 : Int) (p3 : T1383.T) (H : i_table_own_6f4.f k p1 p2 p3 = some r) : W P 2 i_table_own_6f4.c0 (i_table_own_6f4.s0 p1 p2 p3) (CallQ 2 (i_table_own_6f4.out r)) := i_table_own_6f4.f_ok i_table_own_6f4.V_ok k p1 p2 p3 H
/-! ### i_table_Put_1_b0a: function 46, wayfinder/table.Put$1, where it is called -/
noncomputable def i_table_Put_1_b0a.c0 : Code := (Go.Proofs.Try.f46.body).getD .skip
noncomputable def i_table_Put_1_b0a.G : List (Nat × Spec) := [(47, f_rule_Alike.S)]
noncomputable def i_table_Put_1_b0a.V : Env := { tt := tt, Γ := slk i_table_Put_1_b0a.G }
theorem i_table_Put_1_b0a.V_ok : EnvOk P i_table_Put_1_b0a.V := { ck := tt_ck, fits := slk_cons f_rule_Alike.fits (slk_nil), mixed := mixed }
abbrev i_table_Put_1_b0a.R := (Bool) × (List T814c.T) × (Int) × (T1383.T) × Unit
noncomputable def i_table_Put_1_b0a.s0 (p1 : T1383.T) (p2 : List T814c.T) (p3 : Int) (p4 : T1383.T) : St := ⟨7, [(0, .cv (.agg [.int .i64 p1.1.1, .int .i64 p1.1.2, .int .i64 p1.2.1, .int .i64 p1.2.2.1, .int .i64 p1.2.2.2.1, .int .i64 p1.2.2.2.2])), (1, .cv (.one (.ptr 2 0)))], [(.buf 49 T814c p2, []), (.box 1, [.int .i64 p3]), (.box 6, [.int .i64 p4.1.1, .int .i64 p4.1.2, .int .i64 p4.2.1, .int .i64 p4.2.2.1, .int .i64 p4.2.2.2.1, .int .i64 p4.2.2.2.2])]⟩
noncomputable def i_table_Put_1_b0a.out (r : i_table_Put_1_b0a.R) : St := ⟨7, [(3, .cv (.one (.bool r.1)))], [(.buf 49 T814c r.2.1, []), (.box 1, [.int .i64 r.2.2.1]), (.box 6, [.int .i64 r.2.2.2.1.1.1, .int .i64 r.2.2.2.1.1.2, .int .i64 r.2.2.2.1.2.1, .int .i64 r.2.2.2.1.2.2.1, .int .i64 r.2.2.2.1.2.2.2.1, .int .i64 r.2.2.2.1.2.2.2.2])]⟩
abbrev i_table_Put_1_b0a.Q (r : i_table_Put_1_b0a.R) := CallQ 3 (i_table_Put_1_b0a.out r)
noncomputable def i_table_Put_1_b0a.f (k : Nat) (p1 : T1383.T) (p2 : List T814c.T) (p3 : Int) (p4 : T1383.T) : Option i_table_Put_1_b0a.R :=
  (f_rule_Alike.f k p1 p4).bind fun y1 =>
    some (y1.1, (p2, (p3, (p4, ()))))
theorem i_table_Put_1_b0a.f_ok (hV : EnvOk P i_table_Put_1_b0a.V) {r : i_table_Put_1_b0a.R} (k : Nat) (p1 : T1383.T) (p2 : List T814c.T) (p3 : Int) (p4 : T1383.T) (H : i_table_Put_1_b0a.f k p1 p2 p3 p4 = some r) : W P 3 i_table_Put_1_b0a.c0 (⟨7, [(0, .cv (.agg [.int .i64 p1.1.1, .int .i64 p1.1.2, .int .i64 p1.2.1, .int .i64 p1.2.2.1, .int .i64 p1.2.2.2.1, .int .i64 p1.2.2.2.2])), (1, .cv (.one (.ptr 2 0)))], [(.buf 49 T814c p2, []), (.box 1, [.int .i64 p3]), (.box 6, [.int .i64 p4.1.1, .int .i64 p4.1.2, .int .i64 p4.2.1, .int .i64 p4.2.2.1, .int .i64 p4.2.2.2.1, .int .i64 p4.2.2.2.2])]⟩) (i_table_Put_1_b0a.Q r) := by
  unfold i_table_Put_1_b0a.f at H
  refine D_seq (by kernel_rfl) ?_
  refine D_reg (cs := []) (τ := ⟨7, [(1, .cv (.one (.ptr 2 0))), (2, .cv (.one (.ptr 3 0)))], [(.buf 49 T814c p2, []), (.box 1, [.int .i64 p3]), (.box 6, [.int .i64 p4.1.1, .int .i64 p4.1.2, .int .i64 p4.2.1, .int .i64 p4.2.2.1, .int .i64 p4.2.2.2.1, .int .i64 p4.2.2.2.2]), (.box 6, [.int .i64 p1.1.1, .int .i64 p1.1.2, .int .i64 p1.2.1, .int .i64 p1.2.2.1, .int .i64 p1.2.2.2.1, .int .i64 p1.2.2.2.2])]⟩) hV 1 [(0, {sb := 3})] {live := [1, 2], src := [some 0, some 1, some 2, some 3]} (by kernel_rfl) (by kernel_rfl) trivial ?_
  refine th_n ?_
  refine D_seq (by kernel_rfl) ?_
  obtain ⟨y1, e2, H⟩ := of_bind H
  refine D_reg (cs := [f_rule_Alike.S.rel (p1, p4, ()) y1]) (τ := ⟨7, [(3, .cv (.one (.bool y1.1)))], [(.buf 49 T814c p2, []), (.box 1, [.int .i64 p3]), (.box 6, [.int .i64 p4.1.1, .int .i64 p4.1.2, .int .i64 p4.2.1, .int .i64 p4.2.2.1, .int .i64 p4.2.2.2.1, .int .i64 p4.2.2.2.2])]⟩) hV 0 [(2, {res := some ⟨f_rule_Alike.S.rs, y1⟩})] {live := [3], src := [some 0, some 1, some 2]} (by kernel_rfl) (by kernel_rfl) ⟨⟨k, e2⟩, trivial⟩ ?_
  refine th_n ?_
  refine D_ret (by kernel_rfl) ?_
  obtain rfl := Option.some.inj H
  exact cq_r {fz := [], gr := 0, ad := [], live := [3], src := [some 0, some 1, some 2]} (by kernel_rfl) (by kernel_rfl)
theorem i_table_Put_1_b0a.ok {r : i_table_Put_1_b0a.R} (k : Nat) (p1 : T1383.T) (p2 : List T814c.T) (p3 : Int) (p4 : T1383.T) (H : i_table_Put_1_b0a.f k p1 p2 p3 p4 = some r) : W P 3 i_table_Put_1_b0a.c0 (i_table_Put_1_b0a.s0 p1 p2 p3 p4) (CallQ 3 (i_table_Put_1_b0a.out r)) := i_table_Put_1_b0a.f_ok i_table_Put_1_b0a.V_ok k p1 p2 p3 p4 H
/-! ### i_slices_IndexFunc_Rule_5a0: function 66, slices.IndexFunc[[]wayfinder/api.Rule,wayfinder/api.Rule], where it is called -/
noncomputable def i_slices_IndexFunc_Rule_5a0.c0 : Code := (Go.Proofs.Try.f66.body).getD .skip
noncomputable def i_slices_IndexFunc_Rule_5a0.G : List (Nat × Spec) := []
noncomputable def i_slices_IndexFunc_Rule_5a0.V : Env := { tt := tt, Γ := slk i_slices_IndexFunc_Rule_5a0.G }
theorem i_slices_IndexFunc_Rule_5a0.V_ok : EnvOk P i_slices_IndexFunc_Rule_5a0.V := { ck := tt_ck, fits := slk_nil, mixed := mixed }
abbrev i_slices_IndexFunc_Rule_5a0.R := (Int) × (List T814c.T) × (Int) × (T1383.T) × Unit
noncomputable def i_slices_IndexFunc_Rule_5a0.s0 (p1 : List T1383.T) (p2 : List T814c.T) (p3 : Int) (p4 : T1383.T) : St := ⟨19, [(0, .cv (.one (.sl T1383 p1 .any))), (1, .cv (.one (.fn 46 [] [(2, 0)])))], [(.buf 49 T814c p2, []), (.box 1, [.int .i64 p3]), (.box 6, [.int .i64 p4.1.1, .int .i64 p4.1.2, .int .i64 p4.2.1, .int .i64 p4.2.2.1, .int .i64 p4.2.2.2.1, .int .i64 p4.2.2.2.2])]⟩
noncomputable def i_slices_IndexFunc_Rule_5a0.out (r : i_slices_IndexFunc_Rule_5a0.R) : St := ⟨19, [(4, .cv (.one (.int .i64 r.1)))], [(.buf 49 T814c r.2.1, []), (.box 1, [.int .i64 r.2.2.1]), (.box 6, [.int .i64 r.2.2.2.1.1.1, .int .i64 r.2.2.2.1.1.2, .int .i64 r.2.2.2.1.2.1, .int .i64 r.2.2.2.1.2.2.1, .int .i64 r.2.2.2.1.2.2.2.1, .int .i64 r.2.2.2.1.2.2.2.2])]⟩
abbrev i_slices_IndexFunc_Rule_5a0.Q (r : i_slices_IndexFunc_Rule_5a0.R) := CallQ 3 (i_slices_IndexFunc_Rule_5a0.out r)
noncomputable def i_slices_IndexFunc_Rule_5a0.s1 (p1 : List T1383.T) (p2 : Int) (p3 : Int) (p4 : List T814c.T) (p5 : Int) (p6 : T1383.T) : St := ⟨19, [(0, .cv (.one (.sl T1383 p1 .any))), (1, .cv (.one (.fn 46 [] [(2, 0)]))), (7, .cv (.one (.int .i64 p2))), (8, .cv (.one (.int .i64 p3)))], [(.buf 49 T814c p4, []), (.box 1, [.int .i64 p5]), (.box 6, [.int .i64 p6.1.1, .int .i64 p6.1.2, .int .i64 p6.2.1, .int .i64 p6.2.2.1, .int .i64 p6.2.2.2.1, .int .i64 p6.2.2.2.2])]⟩
noncomputable def i_slices_IndexFunc_Rule_5a0.b1 (L1 : List T1383.T → Int → Int → List T814c.T → Int → T1383.T → Option i_slices_IndexFunc_Rule_5a0.R) (k : Nat) (p1 : List T1383.T) (p2 : Int) (p3 : Int) (p4 : List T814c.T) (p5 : Int) (p6 : T1383.T) : Option i_slices_IndexFunc_Rule_5a0.R :=
  if (decide (p3 < p2)) = true then
  if 0 ≤ p3 then
    if p3 < (p1.length : Int) then
      (i_table_Put_1_b0a.f k (att T1383 p1 p3) p4 p5 p6).bind fun y4 =>
        if y4.1 = true then
          some (p3, (y4.2.1, (y4.2.2.1, (y4.2.2.2.1, ()))))
        else
          L1 p1 p2 (IntKind.i64.wrap (p3 + 1)) y4.2.1 y4.2.2.1 y4.2.2.2.1
    else none
  else none
else
  some ((-1), (p4, (p5, (p6, ()))))
theorem i_slices_IndexFunc_Rule_5a0.b1_ok (hV : EnvOk P i_slices_IndexFunc_Rule_5a0.V) {r : i_slices_IndexFunc_Rule_5a0.R} (L1 : List T1383.T → Int → Int → List T814c.T → Int → T1383.T → Option i_slices_IndexFunc_Rule_5a0.R) (m1 : Nat) (hL1 : ∀ (p1 : List T1383.T) (p2 : Int) (p3 : Int) (p4 : List T814c.T) (p5 : Int) (p6 : T1383.T), L1 p1 p2 p3 p4 p5 p6 = some r → WL P 3 (Code.l (Code.l (Code.r (Code.l (Code.r i_slices_IndexFunc_Rule_5a0.c0))))) (blockW 0 (thenW P 3 (Code.r (Code.r i_slices_IndexFunc_Rule_5a0.c0)) (i_slices_IndexFunc_Rule_5a0.Q r))) m1 (i_slices_IndexFunc_Rule_5a0.s1 p1 p2 p3 p4 p5 p6)) (k : Nat) (p1 : List T1383.T) (p2 : Int) (p3 : Int) (p4 : List T814c.T) (p5 : Int) (p6 : T1383.T) (H : i_slices_IndexFunc_Rule_5a0.b1 L1 k p1 p2 p3 p4 p5 p6 = some r) : W P 3 (Code.l (Code.l (Code.r (Code.l (Code.r i_slices_IndexFunc_Rule_5a0.c0))))) (i_slices_IndexFunc_Rule_5a0.s1 p1 p2 p3 p4 p5 p6) (roundW P 3 (Code.l (Code.l (Code.r (Code.l (Code.r i_slices_IndexFunc_Rule_5a0.c0))))) (blockW 0 (thenW P 3 (Code.r (Code.r i_slices_IndexFunc_Rule_5a0.c0)) (i_slices_IndexFunc_Rule_5a0.Q r))) m1) := by
  unfold i_slices_IndexFunc_Rule_5a0.b1 at H
  refine D_seq (by kernel_rfl) ?_
  refine D_reg (cs := []) (τ := ⟨19, [(0, .cv (.one (.sl T1383 p1 .any))), (1, .cv (.one (.fn 46 [] [(2, 0)]))), (7, .cv (.one (.int .i64 p2))), (8, .cv (.one (.int .i64 p3))), (9, .cv (.one (.bool (decide (p3 < p2)))))], [(.buf 49 T814c p4, []), (.box 1, [.int .i64 p5]), (.box 6, [.int .i64 p6.1.1, .int .i64 p6.1.2, .int .i64 p6.2.1, .int .i64 p6.2.2.1, .int .i64 p6.2.2.2.1, .int .i64 p6.2.2.2.2])]⟩) hV 0 [] {live := [0, 1, 7, 8, 9], src := [some 0, some 1, some 2]} (by kernel_rfl) (by kernel_rfl) trivial ?_
  refine th_n ?_
  refine D_seq (by kernel_rfl) ?_
  refine D_condB (t := 9) (b := (decide (p3 < p2))) (by kernel_rfl) (by kernel_rfl) (fun hb1 => ?_) (fun hb1 => ?_)
  · rw [if_pos hb1] at H
    refine D_skip (by kernel_rfl) ?_
    refine th_n ?_
    refine D_seq (by kernel_rfl) ?_
    refine D_block (id := 1) (by kernel_rfl) ?_
    refine D_seq (by kernel_rfl) ?_
    refine D_reg (cs := []) (τ := ⟨19, [(0, .cv (.one (.sl T1383 p1 .any))), (1, .cv (.one (.fn 46 [] [(2, 0)]))), (5, .cv (.one (.int .i64 p3))), (7, .cv (.one (.int .i64 p2))), (8, .cv (.one (.int .i64 p3)))], [(.buf 49 T814c p4, []), (.box 1, [.int .i64 p5]), (.box 6, [.int .i64 p6.1.1, .int .i64 p6.1.2, .int .i64 p6.2.1, .int .i64 p6.2.2.1, .int .i64 p6.2.2.2.1, .int .i64 p6.2.2.2.2])]⟩) hV 0 [] {live := [0, 1, 5, 7, 8], src := [some 0, some 1, some 2]} (by kernel_rfl) (by kernel_rfl) trivial ?_
    refine th_n ?_
    refine D_seq (by kernel_rfl) ?_
    refine D_regI [0, 1, 2, 3, 4, 5] (by kernel_rfl) (by kernel_rfl) ?_
    obtain ⟨n2, H⟩ := of_if H
    obtain ⟨n3, H⟩ := of_if H
    refine D_ev (cs := [0 ≤ p3, p3 < (p1.length : Int)]) (τ := ⟨19, [(0, .cv (.one (.sl T1383 p1 .any))), (1, .cv (.one (.fn 46 [] [(2, 0)]))), (5, .cv (.one (.int .i64 p3))), (7, .cv (.one (.int .i64 p2))), (8, .cv (.one (.int .i64 p3))), (11, .cv (.one (.fn 46 [] [(2, 0)]))), (12, .cv (.one (.sl T1383 p1 .any))), (13, .cv (.one (.int .i64 p3))), (14, .cv (.one (.rptr T1383 (att T1383 p1 p3) 0))), (15, .cv (.agg [.int .i64 (((att T1383 p1 p3).1).1), .int .i64 (((att T1383 p1 p3).1).2), .int .i64 (((att T1383 p1 p3).2).1), .int .i64 ((((att T1383 p1 p3).2).2).1), .int .i64 (((((att T1383 p1 p3).2).2).2).1), .int .i64 (((((att T1383 p1 p3).2).2).2).2)]))], [(.buf 49 T814c p4, []), (.box 1, [.int .i64 p5]), (.box 6, [.int .i64 p6.1.1, .int .i64 p6.1.2, .int .i64 p6.2.1, .int .i64 p6.2.2.1, .int .i64 p6.2.2.2.1, .int .i64 p6.2.2.2.2])]⟩) hV 0 [] [0, 1, 2, 3, 4] [5] rfl (by kernel_rfl) ⟨n2, n3, trivial⟩ ?_
    obtain ⟨y4, e5, H⟩ := of_bind H
    refine D_call (f := 46) (N := 3) (cvs := [.agg [.int .i64 (((att T1383 p1 p3).1).1), .int .i64 (((att T1383 p1 p3).1).2), .int .i64 (((att T1383 p1 p3).2).1), .int .i64 ((((att T1383 p1 p3).2).2).1), .int .i64 (((((att T1383 p1 p3).2).2).2).1), .int .i64 (((((att T1383 p1 p3).2).2).2).2)], .one (.ptr 2 0)]) (σ0 := i_table_Put_1_b0a.s0 (att T1383 p1 p3) p4 p5 p6) (τ := i_table_Put_1_b0a.out y4) (σ2 := ⟨19, [(0, .cv (.one (.sl T1383 p1 .any))), (1, .cv (.one (.fn 46 [] [(2, 0)]))), (5, .cv (.one (.int .i64 p3))), (7, .cv (.one (.int .i64 p2))), (8, .cv (.one (.int .i64 p3))), (11, .cv (.one (.fn 46 [] [(2, 0)]))), (12, .cv (.one (.sl T1383 p1 .any))), (13, .cv (.one (.int .i64 p3))), (14, .cv (.one (.rptr T1383 (att T1383 p1 p3) 0))), (15, .cv (.agg [.int .i64 (((att T1383 p1 p3).1).1), .int .i64 (((att T1383 p1 p3).1).2), .int .i64 (((att T1383 p1 p3).2).1), .int .i64 ((((att T1383 p1 p3).2).2).1), .int .i64 (((((att T1383 p1 p3).2).2).2).1), .int .i64 (((((att T1383 p1 p3).2).2).2).2)])), (16, .cv (.one (.bool y4.1)))], [(.buf 49 T814c y4.2.1, []), (.box 1, [.int .i64 y4.2.2.1]), (.box 6, [.int .i64 y4.2.2.2.1.1.1, .int .i64 y4.2.2.2.1.1.2, .int .i64 y4.2.2.2.1.2.1, .int .i64 y4.2.2.2.1.2.2.1, .int .i64 y4.2.2.2.1.2.2.2.1, .int .i64 y4.2.2.2.1.2.2.2.2])]⟩) hV 5 (by kernel_rfl) Go.Proofs.Try.func46 (by kernel_rfl) (by decide) (by kernel_rfl) (by kernel_rfl) (by kernel_rfl) (i_table_Put_1_b0a.ok k (att T1383 p1 p3) p4 p5 p6 e5) (by kernel_rfl) ?_
    refine WO_tell (τ := ⟨19, [(0, .cv (.one (.sl T1383 p1 .any))), (1, .cv (.one (.fn 46 [] [(2, 0)]))), (5, .cv (.one (.int .i64 p3))), (7, .cv (.one (.int .i64 p2))), (8, .cv (.one (.int .i64 p3))), (16, .cv (.one (.bool y4.1)))], [(.buf 49 T814c y4.2.1, []), (.box 1, [.int .i64 y4.2.2.1]), (.box 6, [.int .i64 y4.2.2.2.1.1.1, .int .i64 y4.2.2.2.1.1.2, .int .i64 y4.2.2.2.1.2.1, .int .i64 y4.2.2.2.1.2.2.1, .int .i64 y4.2.2.2.1.2.2.2.1, .int .i64 y4.2.2.2.1.2.2.2.2])]⟩) {live := [0, 1, 5, 7, 8, 16], src := [some 0, some 1, some 2]} (by kernel_rfl) (by kernel_rfl) ?_
    refine WO_nil ?_
    refine th_n ?_
    refine D_condB (t := 16) (b := y4.1) (by kernel_rfl) (by kernel_rfl) (fun hb6 => ?_) (fun hb6 => ?_)
    · rw [if_pos hb6] at H
      refine D_seq (by kernel_rfl) ?_
      refine D_reg (cs := []) (τ := ⟨19, [(4, .cv (.one (.int .i64 p3)))], [(.buf 49 T814c y4.2.1, []), (.box 1, [.int .i64 y4.2.2.1]), (.box 6, [.int .i64 y4.2.2.2.1.1.1, .int .i64 y4.2.2.2.1.1.2, .int .i64 y4.2.2.2.1.2.1, .int .i64 y4.2.2.2.1.2.2.1, .int .i64 y4.2.2.2.1.2.2.2.1, .int .i64 y4.2.2.2.1.2.2.2.2])]⟩) hV 0 [] {live := [4], src := [some 0, some 1, some 2]} (by kernel_rfl) (by kernel_rfl) trivial ?_
      refine th_n ?_
      refine D_ret (by kernel_rfl) ?_
      refine bl_r ?_
      refine th_r ?_
      refine ro_r ?_
      refine bl_r ?_
      refine th_r ?_
      obtain rfl := Option.some.inj H
      exact cq_r {fz := [], gr := 0, ad := [], live := [4], src := [some 0, some 1, some 2]} (by kernel_rfl) (by kernel_rfl)
    · rw [if_neg (by rw [hb6]; decide)] at H
      refine D_skip (by kernel_rfl) ?_
      refine bl_n ?_
      refine th_n ?_
      refine D_reg (cs := []) (τ := ⟨19, [(0, .cv (.one (.sl T1383 p1 .any))), (1, .cv (.one (.fn 46 [] [(2, 0)]))), (7, .cv (.one (.int .i64 p2))), (8, .cv (.one (.int .i64 (IntKind.i64.wrap (p3 + 1)))))], [(.buf 49 T814c y4.2.1, []), (.box 1, [.int .i64 y4.2.2.1]), (.box 6, [.int .i64 y4.2.2.2.1.1.1, .int .i64 y4.2.2.2.1.1.2, .int .i64 y4.2.2.2.1.2.1, .int .i64 y4.2.2.2.1.2.2.1, .int .i64 y4.2.2.2.1.2.2.2.1, .int .i64 y4.2.2.2.1.2.2.2.2])]⟩) hV 0 [] {live := [0, 1, 7, 8], src := [some 0, some 1, some 2]} (by kernel_rfl) (by kernel_rfl) trivial ?_
      refine ro_n (WL_tell (τ := i_slices_IndexFunc_Rule_5a0.s1 p1 p2 (IntKind.i64.wrap (p3 + 1)) y4.2.1 y4.2.2.1 y4.2.2.2.1) {fz := [], gr := 0, ad := [], live := [0, 1, 7, 8], src := [some 0, some 1, some 2]} (by kernel_rfl) (by kernel_rfl) ?_)
      exact hL1 p1 p2 (IntKind.i64.wrap (p3 + 1)) y4.2.1 y4.2.2.1 y4.2.2.2.1 H
  · rw [if_neg (by rw [hb1]; decide)] at H
    refine D_exit (id := 0) (by kernel_rfl) ?_
    refine th_x ?_
    refine ro_x ?_
    refine bl_h ?_
    refine th_n ?_
    refine D_seq (by kernel_rfl) ?_
    refine D_reg (cs := []) (τ := ⟨19, [(4, .cv (.one (.int .i64 (-1))))], [(.buf 49 T814c p4, []), (.box 1, [.int .i64 p5]), (.box 6, [.int .i64 p6.1.1, .int .i64 p6.1.2, .int .i64 p6.2.1, .int .i64 p6.2.2.1, .int .i64 p6.2.2.2.1, .int .i64 p6.2.2.2.2])]⟩) hV 0 [] {live := [4], src := [some 0, some 1, some 2]} (by kernel_rfl) (by kernel_rfl) trivial ?_
    refine th_n ?_
    refine D_ret (by kernel_rfl) ?_
    obtain rfl := Option.some.inj H
    exact cq_r {fz := [], gr := 0, ad := [], live := [4], src := [some 0, some 1, some 2]} (by kernel_rfl) (by kernel_rfl)
noncomputable def i_slices_IndexFunc_Rule_5a0.l1 (k : Nat) : Nat → List T1383.T → Int → Int → List T814c.T → Int → T1383.T → Option i_slices_IndexFunc_Rule_5a0.R
  | 0, _, _, _, _, _, _ => none
  | m + 1, p1, p2, p3, p4, p5, p6 => i_slices_IndexFunc_Rule_5a0.b1 (i_slices_IndexFunc_Rule_5a0.l1 k m) k p1 p2 p3 p4 p5 p6
theorem i_slices_IndexFunc_Rule_5a0.l1_ok (hV : EnvOk P i_slices_IndexFunc_Rule_5a0.V) {r : i_slices_IndexFunc_Rule_5a0.R} (k : Nat) : ∀ (m1 : Nat) (p1 : List T1383.T) (p2 : Int) (p3 : Int) (p4 : List T814c.T) (p5 : Int) (p6 : T1383.T), i_slices_IndexFunc_Rule_5a0.l1 k m1 p1 p2 p3 p4 p5 p6 = some r → WL P 3 (Code.l (Code.l (Code.r (Code.l (Code.r i_slices_IndexFunc_Rule_5a0.c0))))) (blockW 0 (thenW P 3 (Code.r (Code.r i_slices_IndexFunc_Rule_5a0.c0)) (i_slices_IndexFunc_Rule_5a0.Q r))) m1 (i_slices_IndexFunc_Rule_5a0.s1 p1 p2 p3 p4 p5 p6)
  | 0, _, _, _, _, _, _, H => by cases H
  | m1 + 1, p1, p2, p3, p4, p5, p6, H => WL_succ (i_slices_IndexFunc_Rule_5a0.b1_ok hV (i_slices_IndexFunc_Rule_5a0.l1 k m1) m1 (fun p1 p2 p3 p4 p5 p6 H => i_slices_IndexFunc_Rule_5a0.l1_ok hV k m1 p1 p2 p3 p4 p5 p6 H) k p1 p2 p3 p4 p5 p6 H)
noncomputable def i_slices_IndexFunc_Rule_5a0.f (k : Nat) (p1 : List T1383.T) (p2 : List T814c.T) (p3 : Int) (p4 : T1383.T) : Option i_slices_IndexFunc_Rule_5a0.R :=
  i_slices_IndexFunc_Rule_5a0.l1 k k p1 (p1.length : Int) 0 p2 p3 p4
theorem i_slices_IndexFunc_Rule_5a0.f_ok (hV : EnvOk P i_slices_IndexFunc_Rule_5a0.V) {r : i_slices_IndexFunc_Rule_5a0.R} (k : Nat) (p1 : List T1383.T) (p2 : List T814c.T) (p3 : Int) (p4 : T1383.T) (H : i_slices_IndexFunc_Rule_5a0.f k p1 p2 p3 p4 = some r) : W P 3 i_slices_IndexFunc_Rule_5a0.c0 (⟨19, [(0, .cv (.one (.sl T1383 p1 .any))), (1, .cv (.one (.fn 46 [] [(2, 0)])))], [(.buf 49 T814c p2, []), (.box 1, [.int .i64 p3]), (.box 6, [.int .i64 p4.1.1, .int .i64 p4.1.2, .int .i64 p4.2.1, .int .i64 p4.2.2.1, .int .i64 p4.2.2.2.1, .int .i64 p4.2.2.2.2])]⟩) (i_slices_IndexFunc_Rule_5a0.Q r) := by
  unfold i_slices_IndexFunc_Rule_5a0.f at H
  refine D_seq (by kernel_rfl) ?_
  refine D_reg (cs := []) (τ := ⟨19, [(0, .cv (.one (.sl T1383 p1 .any))), (1, .cv (.one (.fn 46 [] [(2, 0)])))], [(.buf 49 T814c p2, []), (.box 1, [.int .i64 p3]), (.box 6, [.int .i64 p4.1.1, .int .i64 p4.1.2, .int .i64 p4.2.1, .int .i64 p4.2.2.1, .int .i64 p4.2.2.2.1, .int .i64 p4.2.2.2.2])]⟩) hV 0 [] {live := [0, 1], src := [some 0, some 1, some 2]} (by kernel_rfl) (by kernel_rfl) trivial ?_
  refine th_n ?_
  refine D_seq (by kernel_rfl) ?_
  refine D_seq (by kernel_rfl) ?_
  refine D_reg (cs := []) (τ := ⟨19, [(0, .cv (.one (.sl T1383 p1 .any))), (1, .cv (.one (.fn 46 [] [(2, 0)]))), (7, .cv (.one (.int .i64 (p1.length : Int)))), (8, .cv (.one (.int .i64 0)))], [(.buf 49 T814c p2, []), (.box 1, [.int .i64 p3]), (.box 6, [.int .i64 p4.1.1, .int .i64 p4.1.2, .int .i64 p4.2.1, .int .i64 p4.2.2.1, .int .i64 p4.2.2.2.1, .int .i64 p4.2.2.2.2])]⟩) hV 0 [] {live := [0, 1, 7, 8], src := [some 0, some 1, some 2]} (by kernel_rfl) (by kernel_rfl) trivial ?_
  refine th_n ?_
  refine D_block (id := 0) (by kernel_rfl) ?_
  refine W_tell (τ := i_slices_IndexFunc_Rule_5a0.s1 p1 (p1.length : Int) 0 p2 p3 p4) {fz := [], gr := 0, ad := [], live := [0, 1, 7, 8], src := [some 0, some 1, some 2]} (by kernel_rfl) (by kernel_rfl) ?_
  exact D_loop (by kernel_rfl) k (i_slices_IndexFunc_Rule_5a0.l1_ok hV k k p1 (p1.length : Int) 0 p2 p3 p4 H)
theorem i_slices_IndexFunc_Rule_5a0.ok {r : i_slices_IndexFunc_Rule_5a0.R} (k : Nat) (p1 : List T1383.T) (p2 : List T814c.T) (p3 : Int) (p4 : T1383.T) (H : i_slices_IndexFunc_Rule_5a0.f k p1 p2 p3 p4 = some r) : W P 3 i_slices_IndexFunc_Rule_5a0.c0 (i_slices_IndexFunc_Rule_5a0.s0 p1 p2 p3 p4) (CallQ 3 (i_slices_IndexFunc_Rule_5a0.out r)) := i_slices_IndexFunc_Rule_5a0.f_ok i_slices_IndexFunc_Rule_5a0.V_ok k p1 p2 p3 p4 H
/-! ### i_table_first_Rule_5a0: function 45, wayfinder/table.first[wayfinder/api.Rule], where it is called -/
noncomputable def i_table_first_Rule_5a0.c0 : Code := (Go.Proofs.Try.f45.body).getD .skip
noncomputable def i_table_first_Rule_5a0.G : List (Nat × Spec) := []
noncomputable def i_table_first_Rule_5a0.V : Env := { tt := tt, Γ := slk i_table_first_Rule_5a0.G }
theorem i_table_first_Rule_5a0.V_ok : EnvOk P i_table_first_Rule_5a0.V := { ck := tt_ck, fits := slk_nil, mixed := mixed }
abbrev i_table_first_Rule_5a0.R := (Int) × (List T814c.T) × (Int) × (T1383.T) × Unit
noncomputable def i_table_first_Rule_5a0.s0 (p1 : List T1383.T) (p2 : List T814c.T) (p3 : Int) (p4 : T1383.T) : St := ⟨14, [(0, .cv (.one (.sl T1383 p1 .any))), (1, .cv (.one (.fn 46 [] [(2, 0)])))], [(.buf 49 T814c p2, []), (.box 1, [.int .i64 p3]), (.box 6, [.int .i64 p4.1.1, .int .i64 p4.1.2, .int .i64 p4.2.1, .int .i64 p4.2.2.1, .int .i64 p4.2.2.2.1, .int .i64 p4.2.2.2.2])]⟩
noncomputable def i_table_first_Rule_5a0.out (r : i_table_first_Rule_5a0.R) : St := ⟨14, [(4, .cv (.one (.int .i64 r.1)))], [(.buf 49 T814c r.2.1, []), (.box 1, [.int .i64 r.2.2.1]), (.box 6, [.int .i64 r.2.2.2.1.1.1, .int .i64 r.2.2.2.1.1.2, .int .i64 r.2.2.2.1.2.1, .int .i64 r.2.2.2.1.2.2.1, .int .i64 r.2.2.2.1.2.2.2.1, .int .i64 r.2.2.2.1.2.2.2.2])]⟩
abbrev i_table_first_Rule_5a0.Q (r : i_table_first_Rule_5a0.R) := CallQ 3 (i_table_first_Rule_5a0.out r)
noncomputable def i_table_first_Rule_5a0.f (k : Nat) (p1 : List T1383.T) (p2 : List T814c.T) (p3 : Int) (p4 : T1383.T) : Option i_table_first_Rule_5a0.R :=
  (i_slices_IndexFunc_Rule_5a0.f k p1 p2 p3 p4).bind fun y1 =>
    if (decide (y1.1 ≥ (0 : Int))) = true then
      some (y1.1, (y1.2.1, (y1.2.2.1, (y1.2.2.2.1, ()))))
    else
      some ((p1.length : Int), (y1.2.1, (y1.2.2.1, (y1.2.2.2.1, ()))))
theorem i_table_first_Rule_5a0.f_ok (hV : EnvOk P i_table_first_Rule_5a0.V) {r : i_table_first_Rule_5a0.R} (k : Nat) (p1 : List T1383.T) (p2 : List T814c.T) (p3 : Int) (p4 : T1383.T) (H : i_table_first_Rule_5a0.f k p1 p2 p3 p4 = some r) : W P 3 i_table_first_Rule_5a0.c0 (⟨14, [(0, .cv (.one (.sl T1383 p1 .any))), (1, .cv (.one (.fn 46 [] [(2, 0)])))], [(.buf 49 T814c p2, []), (.box 1, [.int .i64 p3]), (.box 6, [.int .i64 p4.1.1, .int .i64 p4.1.2, .int .i64 p4.2.1, .int .i64 p4.2.2.1, .int .i64 p4.2.2.2.1, .int .i64 p4.2.2.2.2])]⟩) (i_table_first_Rule_5a0.Q r) := by
  unfold i_table_first_Rule_5a0.f at H
  refine D_seq (by kernel_rfl) ?_
  refine D_reg (cs := []) (τ := ⟨14, [(0, .cv (.one (.sl T1383 p1 .any))), (1, .cv (.one (.fn 46 [] [(2, 0)])))], [(.buf 49 T814c p2, []), (.box 1, [.int .i64 p3]), (.box 6, [.int .i64 p4.1.1, .int .i64 p4.1.2, .int .i64 p4.2.1, .int .i64 p4.2.2.1, .int .i64 p4.2.2.2.1, .int .i64 p4.2.2.2.2])]⟩) hV 0 [] {live := [0, 1], src := [some 0, some 1, some 2]} (by kernel_rfl) (by kernel_rfl) trivial ?_
  refine th_n ?_
  refine D_seq (by kernel_rfl) ?_
  refine D_seq (by kernel_rfl) ?_
  refine D_regI [0, 1, 2, 3] (by kernel_rfl) (by kernel_rfl) ?_
  refine D_ev (cs := []) (τ := ⟨14, [(0, .cv (.one (.sl T1383 p1 .any))), (1, .cv (.one (.fn 46 [] [(2, 0)]))), (6, .cv (.one (.sl T1383 p1 .any))), (7, .cv (.one (.fn 46 [] [(2, 0)])))], [(.buf 49 T814c p2, []), (.box 1, [.int .i64 p3]), (.box 6, [.int .i64 p4.1.1, .int .i64 p4.1.2, .int .i64 p4.2.1, .int .i64 p4.2.2.1, .int .i64 p4.2.2.2.1, .int .i64 p4.2.2.2.2])]⟩) hV 0 [] [0, 1] [2, 3] rfl (by kernel_rfl) trivial ?_
  obtain ⟨y1, e2, H⟩ := of_bind H
  refine D_call (f := 66) (N := 3) (cvs := [.one (.sl T1383 p1 .any), .one (.fn 46 [] [(2, 0)])]) (σ0 := i_slices_IndexFunc_Rule_5a0.s0 p1 p2 p3 p4) (τ := i_slices_IndexFunc_Rule_5a0.out y1) (σ2 := ⟨14, [(0, .cv (.one (.sl T1383 p1 .any))), (1, .cv (.one (.fn 46 [] [(2, 0)]))), (6, .cv (.one (.sl T1383 p1 .any))), (7, .cv (.one (.fn 46 [] [(2, 0)]))), (8, .cv (.one (.int .i64 y1.1)))], [(.buf 49 T814c y1.2.1, []), (.box 1, [.int .i64 y1.2.2.1]), (.box 6, [.int .i64 y1.2.2.2.1.1.1, .int .i64 y1.2.2.2.1.1.2, .int .i64 y1.2.2.2.1.2.1, .int .i64 y1.2.2.2.1.2.2.1, .int .i64 y1.2.2.2.1.2.2.2.1, .int .i64 y1.2.2.2.1.2.2.2.2])]⟩) hV 2 (by kernel_rfl) Go.Proofs.Try.func66 (by kernel_rfl) (by decide) (by kernel_rfl) (by kernel_rfl) (by kernel_rfl) (i_slices_IndexFunc_Rule_5a0.ok k p1 p2 p3 p4 e2) (by kernel_rfl) ?_
  refine D_ev (cs := []) (τ := ⟨14, [(0, .cv (.one (.sl T1383 p1 .any))), (1, .cv (.one (.fn 46 [] [(2, 0)]))), (5, .cv (.one (.int .i64 y1.1))), (6, .cv (.one (.sl T1383 p1 .any))), (7, .cv (.one (.fn 46 [] [(2, 0)]))), (8, .cv (.one (.int .i64 y1.1)))], [(.buf 49 T814c y1.2.1, []), (.box 1, [.int .i64 y1.2.2.1]), (.box 6, [.int .i64 y1.2.2.2.1.1.1, .int .i64 y1.2.2.2.1.1.2, .int .i64 y1.2.2.2.1.2.1, .int .i64 y1.2.2.2.1.2.2.1, .int .i64 y1.2.2.2.1.2.2.2.1, .int .i64 y1.2.2.2.1.2.2.2.2])]⟩) hV 0 [] [3] [] rfl (by kernel_rfl) trivial ?_
  refine WO_tell (τ := ⟨14, [(0, .cv (.one (.sl T1383 p1 .any))), (5, .cv (.one (.int .i64 y1.1)))], [(.buf 49 T814c y1.2.1, []), (.box 1, [.int .i64 y1.2.2.1]), (.box 6, [.int .i64 y1.2.2.2.1.1.1, .int .i64 y1.2.2.2.1.1.2, .int .i64 y1.2.2.2.1.2.1, .int .i64 y1.2.2.2.1.2.2.1, .int .i64 y1.2.2.2.1.2.2.2.1, .int .i64 y1.2.2.2.1.2.2.2.2])]⟩) {live := [0, 5], src := [some 0, some 1, some 2]} (by kernel_rfl) (by kernel_rfl) ?_
  refine WO_nil ?_
  refine th_n ?_
  refine D_seq (by kernel_rfl) ?_
  refine D_reg (cs := []) (τ := ⟨14, [(0, .cv (.one (.sl T1383 p1 .any))), (5, .cv (.one (.int .i64 y1.1))), (10, .cv (.one (.bool (decide (y1.1 ≥ (0 : Int))))))], [(.buf 49 T814c y1.2.1, []), (.box 1, [.int .i64 y1.2.2.1]), (.box 6, [.int .i64 y1.2.2.2.1.1.1, .int .i64 y1.2.2.2.1.1.2, .int .i64 y1.2.2.2.1.2.1, .int .i64 y1.2.2.2.1.2.2.1, .int .i64 y1.2.2.2.1.2.2.2.1, .int .i64 y1.2.2.2.1.2.2.2.2])]⟩) hV 0 [] {live := [0, 5, 10], src := [some 0, some 1, some 2]} (by kernel_rfl) (by kernel_rfl) trivial ?_
  refine th_n ?_
  refine D_condB (t := 10) (b := (decide (y1.1 ≥ (0 : Int)))) (by kernel_rfl) (by kernel_rfl) (fun hb3 => ?_) (fun hb3 => ?_)
  · rw [if_pos hb3] at H
    refine D_seq (by kernel_rfl) ?_
    refine D_reg (cs := []) (τ := ⟨14, [(4, .cv (.one (.int .i64 y1.1)))], [(.buf 49 T814c y1.2.1, []), (.box 1, [.int .i64 y1.2.2.1]), (.box 6, [.int .i64 y1.2.2.2.1.1.1, .int .i64 y1.2.2.2.1.1.2, .int .i64 y1.2.2.2.1.2.1, .int .i64 y1.2.2.2.1.2.2.1, .int .i64 y1.2.2.2.1.2.2.2.1, .int .i64 y1.2.2.2.1.2.2.2.2])]⟩) hV 0 [] {live := [4], src := [some 0, some 1, some 2]} (by kernel_rfl) (by kernel_rfl) trivial ?_
    refine th_n ?_
    refine D_ret (by kernel_rfl) ?_
    refine th_r ?_
    obtain rfl := Option.some.inj H
    exact cq_r {fz := [], gr := 0, ad := [], live := [4], src := [some 0, some 1, some 2]} (by kernel_rfl) (by kernel_rfl)
  · rw [if_neg (by rw [hb3]; decide)] at H
    refine D_skip (by kernel_rfl) ?_
    refine th_n ?_
    refine D_seq (by kernel_rfl) ?_
    refine D_reg (cs := []) (τ := ⟨14, [(4, .cv (.one (.int .i64 (p1.length : Int))))], [(.buf 49 T814c y1.2.1, []), (.box 1, [.int .i64 y1.2.2.1]), (.box 6, [.int .i64 y1.2.2.2.1.1.1, .int .i64 y1.2.2.2.1.1.2, .int .i64 y1.2.2.2.1.2.1, .int .i64 y1.2.2.2.1.2.2.1, .int .i64 y1.2.2.2.1.2.2.2.1, .int .i64 y1.2.2.2.1.2.2.2.2])]⟩) hV 0 [] {live := [4], src := [some 0, some 1, some 2]} (by kernel_rfl) (by kernel_rfl) trivial ?_
    refine th_n ?_
    refine D_ret (by kernel_rfl) ?_
    obtain rfl := Option.some.inj H
    exact cq_r {fz := [], gr := 0, ad := [], live := [4], src := [some 0, some 1, some 2]} (by kernel_rfl) (by kernel_rfl)
theorem i_table_first_Rule_5a0.ok {r : i_table_first_Rule_5a0.R} (k : Nat) (p1 : List T1383.T) (p2 : List T814c.T) (p3 : Int) (p4 : T1383.T) (H : i_table_first_Rule_5a0.f k p1 p2 p3 p4 = some r) : W P 3 i_table_first_Rule_5a0.c0 (i_table_first_Rule_5a0.s0 p1 p2 p3 p4) (CallQ 3 (i_table_first_Rule_5a0.out r)) := i_table_first_Rule_5a0.f_ok i_table_first_Rule_5a0.V_ok k p1 p2 p3 p4 H
/-! ### i_table_Put_2_51e: function 49, wayfinder/table.Put$2, where it is called -/
noncomputable def i_table_Put_2_51e.c0 : Code := (Go.Proofs.Try.f49.body).getD .skip
noncomputable def i_table_Put_2_51e.G : List (Nat × Spec) := []
noncomputable def i_table_Put_2_51e.V : Env := { tt := tt, Γ := slk i_table_Put_2_51e.G }
theorem i_table_Put_2_51e.V_ok : EnvOk P i_table_Put_2_51e.V := { ck := tt_ck, fits := slk_nil, mixed := mixed }
abbrev i_table_Put_2_51e.R := (Bool) × (List T814c.T) × (Int) × (T1383.T) × Unit
noncomputable def i_table_Put_2_51e.s0 (p1 : T814c.T) (p2 : List T814c.T) (p3 : Int) (p4 : T1383.T) : St := ⟨8, [(0, .cv (.agg [.int .i64 p1.1, .sl T1383 p1.2 .any])), (1, .cv (.one (.ptr 1 0)))], [(.buf 49 T814c p2, []), (.box 1, [.int .i64 p3]), (.box 6, [.int .i64 p4.1.1, .int .i64 p4.1.2, .int .i64 p4.2.1, .int .i64 p4.2.2.1, .int .i64 p4.2.2.2.1, .int .i64 p4.2.2.2.2])]⟩
noncomputable def i_table_Put_2_51e.out (r : i_table_Put_2_51e.R) : St := ⟨8, [(3, .cv (.one (.bool r.1)))], [(.buf 49 T814c r.2.1, []), (.box 1, [.int .i64 r.2.2.1]), (.box 6, [.int .i64 r.2.2.2.1.1.1, .int .i64 r.2.2.2.1.1.2, .int .i64 r.2.2.2.1.2.1, .int .i64 r.2.2.2.1.2.2.1, .int .i64 r.2.2.2.1.2.2.2.1, .int .i64 r.2.2.2.1.2.2.2.2])]⟩
abbrev i_table_Put_2_51e.Q (r : i_table_Put_2_51e.R) := CallQ 3 (i_table_Put_2_51e.out r)
noncomputable def i_table_Put_2_51e.f (k : Nat) (p1 : T814c.T) (p2 : List T814c.T) (p3 : Int) (p4 : T1383.T) : Option i_table_Put_2_51e.R :=
  some ((decide (p1.1 > p3)), (p2, (p3, (p4, ()))))
theorem i_table_Put_2_51e.f_ok (hV : EnvOk P i_table_Put_2_51e.V) {r : i_table_Put_2_51e.R} (k : Nat) (p1 : T814c.T) (p2 : List T814c.T) (p3 : Int) (p4 : T1383.T) (H : i_table_Put_2_51e.f k p1 p2 p3 p4 = some r) : W P 3 i_table_Put_2_51e.c0 (⟨8, [(0, .cv (.agg [.int .i64 p1.1, .sl T1383 p1.2 .any])), (1, .cv (.one (.ptr 1 0)))], [(.buf 49 T814c p2, []), (.box 1, [.int .i64 p3]), (.box 6, [.int .i64 p4.1.1, .int .i64 p4.1.2, .int .i64 p4.2.1, .int .i64 p4.2.2.1, .int .i64 p4.2.2.2.1, .int .i64 p4.2.2.2.2])]⟩) (i_table_Put_2_51e.Q r) := by
  unfold i_table_Put_2_51e.f at H
  refine D_seq (by kernel_rfl) ?_
  refine D_reg (cs := []) (τ := ⟨8, [(1, .cv (.one (.ptr 1 0))), (2, .cv (.one (.ptr 3 0)))], [(.buf 49 T814c p2, []), (.box 1, [.int .i64 p3]), (.box 6, [.int .i64 p4.1.1, .int .i64 p4.1.2, .int .i64 p4.2.1, .int .i64 p4.2.2.1, .int .i64 p4.2.2.2.1, .int .i64 p4.2.2.2.2]), (.box 2, [.int .i64 p1.1, .sl T1383 p1.2 .any])]⟩) hV 1 [(0, {sb := 3})] {live := [1, 2], src := [some 0, some 1, some 2, some 3]} (by kernel_rfl) (by kernel_rfl) trivial ?_
  refine th_n ?_
  refine D_seq (by kernel_rfl) ?_
  refine D_reg (cs := []) (τ := ⟨8, [(3, .cv (.one (.bool (decide (p1.1 > p3)))))], [(.buf 49 T814c p2, []), (.box 1, [.int .i64 p3]), (.box 6, [.int .i64 p4.1.1, .int .i64 p4.1.2, .int .i64 p4.2.1, .int .i64 p4.2.2.1, .int .i64 p4.2.2.2.1, .int .i64 p4.2.2.2.2])]⟩) hV 0 [] {live := [3], src := [some 0, some 1, some 2]} (by kernel_rfl) (by kernel_rfl) trivial ?_
  refine th_n ?_
  refine D_ret (by kernel_rfl) ?_
  obtain rfl := Option.some.inj H
  exact cq_r {fz := [], gr := 0, ad := [], live := [3], src := [some 0, some 1, some 2]} (by kernel_rfl) (by kernel_rfl)
theorem i_table_Put_2_51e.ok {r : i_table_Put_2_51e.R} (k : Nat) (p1 : T814c.T) (p2 : List T814c.T) (p3 : Int) (p4 : T1383.T) (H : i_table_Put_2_51e.f k p1 p2 p3 p4 = some r) : W P 3 i_table_Put_2_51e.c0 (i_table_Put_2_51e.s0 p1 p2 p3 p4) (CallQ 3 (i_table_Put_2_51e.out r)) := i_table_Put_2_51e.f_ok i_table_Put_2_51e.V_ok k p1 p2 p3 p4 H
/-! ### i_slices_IndexFunc_Ver_bfb: function 67, slices.IndexFunc[[]wayfinder/api.Ver,wayfinder/api.Ver], where it is called -/
noncomputable def i_slices_IndexFunc_Ver_bfb.c0 : Code := (Go.Proofs.Try.f67.body).getD .skip
noncomputable def i_slices_IndexFunc_Ver_bfb.G : List (Nat × Spec) := []
noncomputable def i_slices_IndexFunc_Ver_bfb.V : Env := { tt := tt, Γ := slk i_slices_IndexFunc_Ver_bfb.G }
theorem i_slices_IndexFunc_Ver_bfb.V_ok : EnvOk P i_slices_IndexFunc_Ver_bfb.V := { ck := tt_ck, fits := slk_nil, mixed := mixed }
abbrev i_slices_IndexFunc_Ver_bfb.R := (Int) × (List T814c.T) × (Int) × (T1383.T) × Unit
noncomputable def i_slices_IndexFunc_Ver_bfb.s0 (p1 : List T814c.T) (p2 : Int) (p3 : T1383.T) : St := ⟨19, [(0, .cv (.one (.own 0))), (1, .cv (.one (.fn 49 [] [(1, 0)])))], [(.buf 49 T814c p1, []), (.box 1, [.int .i64 p2]), (.box 6, [.int .i64 p3.1.1, .int .i64 p3.1.2, .int .i64 p3.2.1, .int .i64 p3.2.2.1, .int .i64 p3.2.2.2.1, .int .i64 p3.2.2.2.2])]⟩
noncomputable def i_slices_IndexFunc_Ver_bfb.out (r : i_slices_IndexFunc_Ver_bfb.R) : St := ⟨19, [(4, .cv (.one (.int .i64 r.1)))], [(.buf 49 T814c r.2.1, []), (.box 1, [.int .i64 r.2.2.1]), (.box 6, [.int .i64 r.2.2.2.1.1.1, .int .i64 r.2.2.2.1.1.2, .int .i64 r.2.2.2.1.2.1, .int .i64 r.2.2.2.1.2.2.1, .int .i64 r.2.2.2.1.2.2.2.1, .int .i64 r.2.2.2.1.2.2.2.2])]⟩
abbrev i_slices_IndexFunc_Ver_bfb.Q (r : i_slices_IndexFunc_Ver_bfb.R) := CallQ 3 (i_slices_IndexFunc_Ver_bfb.out r)
noncomputable def i_slices_IndexFunc_Ver_bfb.s1 (p1 : Int) (p2 : Int) (p3 : List T814c.T) (p4 : Int) (p5 : T1383.T) : St := ⟨19, [(0, .cv (.one (.own 0))), (1, .cv (.one (.fn 49 [] [(1, 0)]))), (7, .cv (.one (.int .i64 p1))), (8, .cv (.one (.int .i64 p2)))], [(.buf 49 T814c p3, []), (.box 1, [.int .i64 p4]), (.box 6, [.int .i64 p5.1.1, .int .i64 p5.1.2, .int .i64 p5.2.1, .int .i64 p5.2.2.1, .int .i64 p5.2.2.2.1, .int .i64 p5.2.2.2.2])]⟩
noncomputable def i_slices_IndexFunc_Ver_bfb.b1 (L1 : Int → Int → List T814c.T → Int → T1383.T → Option i_slices_IndexFunc_Ver_bfb.R) (k : Nat) (p1 : Int) (p2 : Int) (p3 : List T814c.T) (p4 : Int) (p5 : T1383.T) : Option i_slices_IndexFunc_Ver_bfb.R :=
  if (decide (p2 < p1)) = true then
  if 0 ≤ p2 then
    if p2 < (p3.length : Int) then
      (i_table_Put_2_51e.f k (att T814c p3 p2) p3 p4 p5).bind fun y4 =>
        if y4.1 = true then
          some (p2, (y4.2.1, (y4.2.2.1, (y4.2.2.2.1, ()))))
        else
          L1 p1 (IntKind.i64.wrap (p2 + 1)) y4.2.1 y4.2.2.1 y4.2.2.2.1
    else none
  else none
else
  some ((-1), (p3, (p4, (p5, ()))))
theorem i_slices_IndexFunc_Ver_bfb.b1_ok (hV : EnvOk P i_slices_IndexFunc_Ver_bfb.V) {r : i_slices_IndexFunc_Ver_bfb.R} (L1 : Int → Int → List T814c.T → Int → T1383.T → Option i_slices_IndexFunc_Ver_bfb.R) (m1 : Nat) (hL1 : ∀ (p1 : Int) (p2 : Int) (p3 : List T814c.T) (p4 : Int) (p5 : T1383.T), L1 p1 p2 p3 p4 p5 = some r → WL P 3 (Code.l (Code.l (Code.r (Code.l (Code.r i_slices_IndexFunc_Ver_bfb.c0))))) (blockW 0 (thenW P 3 (Code.r (Code.r i_slices_IndexFunc_Ver_bfb.c0)) (i_slices_IndexFunc_Ver_bfb.Q r))) m1 (i_slices_IndexFunc_Ver_bfb.s1 p1 p2 p3 p4 p5)) (k : Nat) (p1 : Int) (p2 : Int) (p3 : List T814c.T) (p4 : Int) (p5 : T1383.T) (H : i_slices_IndexFunc_Ver_bfb.b1 L1 k p1 p2 p3 p4 p5 = some r) : W P 3 (Code.l (Code.l (Code.r (Code.l (Code.r i_slices_IndexFunc_Ver_bfb.c0))))) (i_slices_IndexFunc_Ver_bfb.s1 p1 p2 p3 p4 p5) (roundW P 3 (Code.l (Code.l (Code.r (Code.l (Code.r i_slices_IndexFunc_Ver_bfb.c0))))) (blockW 0 (thenW P 3 (Code.r (Code.r i_slices_IndexFunc_Ver_bfb.c0)) (i_slices_IndexFunc_Ver_bfb.Q r))) m1) := by
  unfold i_slices_IndexFunc_Ver_bfb.b1 at H
  refine D_seq (by kernel_rfl) ?_
  refine D_reg (cs := []) (τ := ⟨19, [(0, .cv (.one (.own 0))), (1, .cv (.one (.fn 49 [] [(1, 0)]))), (7, .cv (.one (.int .i64 p1))), (8, .cv (.one (.int .i64 p2))), (9, .cv (.one (.bool (decide (p2 < p1)))))], [(.buf 49 T814c p3, []), (.box 1, [.int .i64 p4]), (.box 6, [.int .i64 p5.1.1, .int .i64 p5.1.2, .int .i64 p5.2.1, .int .i64 p5.2.2.1, .int .i64 p5.2.2.2.1, .int .i64 p5.2.2.2.2])]⟩) hV 0 [] {live := [0, 1, 7, 8, 9], src := [some 0, some 1, some 2]} (by kernel_rfl) (by kernel_rfl) trivial ?_
  refine th_n ?_
  refine D_seq (by kernel_rfl) ?_
  refine D_condB (t := 9) (b := (decide (p2 < p1))) (by kernel_rfl) (by kernel_rfl) (fun hb1 => ?_) (fun hb1 => ?_)
  · rw [if_pos hb1] at H
    refine D_skip (by kernel_rfl) ?_
    refine th_n ?_
    refine D_seq (by kernel_rfl) ?_
    refine D_block (id := 1) (by kernel_rfl) ?_
    refine D_seq (by kernel_rfl) ?_
    refine D_reg (cs := []) (τ := ⟨19, [(0, .cv (.one (.own 0))), (1, .cv (.one (.fn 49 [] [(1, 0)]))), (5, .cv (.one (.int .i64 p2))), (7, .cv (.one (.int .i64 p1))), (8, .cv (.one (.int .i64 p2)))], [(.buf 49 T814c p3, []), (.box 1, [.int .i64 p4]), (.box 6, [.int .i64 p5.1.1, .int .i64 p5.1.2, .int .i64 p5.2.1, .int .i64 p5.2.2.1, .int .i64 p5.2.2.2.1, .int .i64 p5.2.2.2.2])]⟩) hV 0 [] {live := [0, 1, 5, 7, 8], src := [some 0, some 1, some 2]} (by kernel_rfl) (by kernel_rfl) trivial ?_
    refine th_n ?_
    refine D_seq (by kernel_rfl) ?_
    refine D_regI [0, 1, 2, 3, 4, 5] (by kernel_rfl) (by kernel_rfl) ?_
    obtain ⟨n2, H⟩ := of_if H
    obtain ⟨n3, H⟩ := of_if H
    refine D_ev (cs := [0 ≤ p2, p2 < (p3.length : Int)]) (τ := ⟨19, [(0, .cv (.one (.own 0))), (1, .cv (.one (.fn 49 [] [(1, 0)]))), (5, .cv (.one (.int .i64 p2))), (7, .cv (.one (.int .i64 p1))), (8, .cv (.one (.int .i64 p2))), (11, .cv (.one (.fn 49 [] [(1, 0)]))), (12, .cv (.one (.own 0))), (13, .cv (.one (.int .i64 p2))), (14, .cv (.one (.eptr 0 T814c p2 0))), (15, .cv (.agg [.int .i64 ((att T814c p3 p2).1), .sl T1383 ((att T814c p3 p2).2) .any]))], [(.buf 49 T814c p3, []), (.box 1, [.int .i64 p4]), (.box 6, [.int .i64 p5.1.1, .int .i64 p5.1.2, .int .i64 p5.2.1, .int .i64 p5.2.2.1, .int .i64 p5.2.2.2.1, .int .i64 p5.2.2.2.2])]⟩) hV 0 [] [0, 1, 2, 3, 4] [5] rfl (by kernel_rfl) ⟨n2, n3, trivial⟩ ?_
    obtain ⟨y4, e5, H⟩ := of_bind H
    refine D_call (f := 49) (N := 3) (cvs := [.agg [.int .i64 ((att T814c p3 p2).1), .sl T1383 ((att T814c p3 p2).2) .any], .one (.ptr 1 0)]) (σ0 := i_table_Put_2_51e.s0 (att T814c p3 p2) p3 p4 p5) (τ := i_table_Put_2_51e.out y4) (σ2 := ⟨19, [(0, .cv (.one (.own 0))), (1, .cv (.one (.fn 49 [] [(1, 0)]))), (5, .cv (.one (.int .i64 p2))), (7, .cv (.one (.int .i64 p1))), (8, .cv (.one (.int .i64 p2))), (11, .cv (.one (.fn 49 [] [(1, 0)]))), (12, .cv (.one (.own 0))), (13, .cv (.one (.int .i64 p2))), (14, .cv (.one (.eptr 0 T814c p2 0))), (15, .cv (.agg [.int .i64 ((att T814c p3 p2).1), .sl T1383 ((att T814c p3 p2).2) .any])), (16, .cv (.one (.bool y4.1)))], [(.buf 49 T814c y4.2.1, []), (.box 1, [.int .i64 y4.2.2.1]), (.box 6, [.int .i64 y4.2.2.2.1.1.1, .int .i64 y4.2.2.2.1.1.2, .int .i64 y4.2.2.2.1.2.1, .int .i64 y4.2.2.2.1.2.2.1, .int .i64 y4.2.2.2.1.2.2.2.1, .int .i64 y4.2.2.2.1.2.2.2.2])]⟩) hV 5 (by kernel_rfl) Go.Proofs.Try.func49 (by kernel_rfl) (by decide) (by kernel_rfl) (by kernel_rfl) (by kernel_rfl) (i_table_Put_2_51e.ok k (att T814c p3 p2) p3 p4 p5 e5) (by kernel_rfl) ?_
    refine WO_tell (τ := ⟨19, [(0, .cv (.one (.own 0))), (1, .cv (.one (.fn 49 [] [(1, 0)]))), (5, .cv (.one (.int .i64 p2))), (7, .cv (.one (.int .i64 p1))), (8, .cv (.one (.int .i64 p2))), (16, .cv (.one (.bool y4.1)))], [(.buf 49 T814c y4.2.1, []), (.box 1, [.int .i64 y4.2.2.1]), (.box 6, [.int .i64 y4.2.2.2.1.1.1, .int .i64 y4.2.2.2.1.1.2, .int .i64 y4.2.2.2.1.2.1, .int .i64 y4.2.2.2.1.2.2.1, .int .i64 y4.2.2.2.1.2.2.2.1, .int .i64 y4.2.2.2.1.2.2.2.2])]⟩) {live := [0, 1, 5, 7, 8, 16], src := [some 0, some 1, some 2]} (by kernel_rfl) (by kernel_rfl) ?_
    refine WO_nil ?_
    refine th_n ?_
    refine D_condB (t := 16) (b := y4.1) (by kernel_rfl) (by kernel_rfl) (fun hb6 => ?_) (fun hb6 => ?_)
    · rw [if_pos hb6] at H
      refine D_seq (by kernel_rfl) ?_
      refine D_reg (cs := []) (τ := ⟨19, [(4, .cv (.one (.int .i64 p2)))], [(.buf 49 T814c y4.2.1, []), (.box 1, [.int .i64 y4.2.2.1]), (.box 6, [.int .i64 y4.2.2.2.1.1.1, .int .i64 y4.2.2.2.1.1.2, .int .i64 y4.2.2.2.1.2.1, .int .i64 y4.2.2.2.1.2.2.1, .int .i64 y4.2.2.2.1.2.2.2.1, .int .i64 y4.2.2.2.1.2.2.2.2])]⟩) hV 0 [] {live := [4], src := [some 0, some 1, some 2]} (by kernel_rfl) (by kernel_rfl) trivial ?_
      refine th_n ?_
      refine D_ret (by kernel_rfl) ?_
      refine bl_r ?_
      refine th_r ?_
      refine ro_r ?_
      refine bl_r ?_
      refine th_r ?_
      obtain rfl := Option.some.inj H
      exact cq_r {fz := [], gr := 0, ad := [], live := [4], src := [some 0, some 1, some 2]} (by kernel_rfl) (by kernel_rfl)
    · rw [if_neg (by rw [hb6]; decide)] at H
      refine D_skip (by kernel_rfl) ?_
      refine bl_n ?_
      refine th_n ?_
      refine D_reg (cs := []) (τ := ⟨19, [(0, .cv (.one (.own 0))), (1, .cv (.one (.fn 49 [] [(1, 0)]))), (7, .cv (.one (.int .i64 p1))), (8, .cv (.one (.int .i64 (IntKind.i64.wrap (p2 + 1)))))], [(.buf 49 T814c y4.2.1, []), (.box 1, [.int .i64 y4.2.2.1]), (.box 6, [.int .i64 y4.2.2.2.1.1.1, .int .i64 y4.2.2.2.1.1.2, .int .i64 y4.2.2.2.1.2.1, .int .i64 y4.2.2.2.1.2.2.1, .int .i64 y4.2.2.2.1.2.2.2.1, .int .i64 y4.2.2.2.1.2.2.2.2])]⟩) hV 0 [] {live := [0, 1, 7, 8], src := [some 0, some 1, some 2]} (by kernel_rfl) (by kernel_rfl) trivial ?_
      refine ro_n (WL_tell (τ := i_slices_IndexFunc_Ver_bfb.s1 p1 (IntKind.i64.wrap (p2 + 1)) y4.2.1 y4.2.2.1 y4.2.2.2.1) {fz := [], gr := 0, ad := [], live := [0, 1, 7, 8], src := [some 0, some 1, some 2]} (by kernel_rfl) (by kernel_rfl) ?_)
      exact hL1 p1 (IntKind.i64.wrap (p2 + 1)) y4.2.1 y4.2.2.1 y4.2.2.2.1 H
  · rw [if_neg (by rw [hb1]; decide)] at H
    refine D_exit (id := 0) (by kernel_rfl) ?_
    refine th_x ?_
    refine ro_x ?_
    refine bl_h ?_
    refine th_n ?_
    refine D_seq (by kernel_rfl) ?_
    refine D_reg (cs := []) (τ := ⟨19, [(4, .cv (.one (.int .i64 (-1))))], [(.buf 49 T814c p3, []), (.box 1, [.int .i64 p4]), (.box 6, [.int .i64 p5.1.1, .int .i64 p5.1.2, .int .i64 p5.2.1, .int .i64 p5.2.2.1, .int .i64 p5.2.2.2.1, .int .i64 p5.2.2.2.2])]⟩) hV 0 [] {live := [4], src := [some 0, some 1, some 2]} (by kernel_rfl) (by kernel_rfl) trivial ?_
    refine th_n ?_
    refine D_ret (by kernel_rfl) ?_
    obtain rfl := Option.some.inj H
    exact cq_r {fz := [], gr := 0, ad := [], live := [4], src := [some 0, some 1, some 2]} (by kernel_rfl) (by kernel_rfl)
noncomputable def i_slices_IndexFunc_Ver_bfb.l1 (k : Nat) : Nat → Int → Int → List T814c.T → Int → T1383.T → Option i_slices_IndexFunc_Ver_bfb.R
  | 0, _, _, _, _, _ => none
  | m + 1, p1, p2, p3, p4, p5 => i_slices_IndexFunc_Ver_bfb.b1 (i_slices_IndexFunc_Ver_bfb.l1 k m) k p1 p2 p3 p4 p5
theorem i_slices_IndexFunc_Ver_bfb.l1_ok (hV : EnvOk P i_slices_IndexFunc_Ver_bfb.V) {r : i_slices_IndexFunc_Ver_bfb.R} (k : Nat) : ∀ (m1 : Nat) (p1 : Int) (p2 : Int) (p3 : List T814c.T) (p4 : Int) (p5 : T1383.T), i_slices_IndexFunc_Ver_bfb.l1 k m1 p1 p2 p3 p4 p5 = some r → WL P 3 (Code.l (Code.l (Code.r (Code.l (Code.r i_slices_IndexFunc_Ver_bfb.c0))))) (blockW 0 (thenW P 3 (Code.r (Code.r i_slices_IndexFunc_Ver_bfb.c0)) (i_slices_IndexFunc_Ver_bfb.Q r))) m1 (i_slices_IndexFunc_Ver_bfb.s1 p1 p2 p3 p4 p5)
  | 0, _, _, _, _, _, H => by cases H
  | m1 + 1, p1, p2, p3, p4, p5, H => WL_succ (i_slices_IndexFunc_Ver_bfb.b1_ok hV (i_slices_IndexFunc_Ver_bfb.l1 k m1) m1 (fun p1 p2 p3 p4 p5 H => i_slices_IndexFunc_Ver_bfb.l1_ok hV k m1 p1 p2 p3 p4 p5 H) k p1 p2 p3 p4 p5 H)
noncomputable def i_slices_IndexFunc_Ver_bfb.f (k : Nat) (p1 : List T814c.T) (p2 : Int) (p3 : T1383.T) : Option i_slices_IndexFunc_Ver_bfb.R :=
  i_slices_IndexFunc_Ver_bfb.l1 k k (p1.length : Int) 0 p1 p2 p3
theorem i_slices_IndexFunc_Ver_bfb.f_ok (hV : EnvOk P i_slices_IndexFunc_Ver_bfb.V) {r : i_slices_IndexFunc_Ver_bfb.R} (k : Nat) (p1 : List T814c.T) (p2 : Int) (p3 : T1383.T) (H : i_slices_IndexFunc_Ver_bfb.f k p1 p2 p3 = some r) : W P 3 i_slices_IndexFunc_Ver_bfb.c0 (⟨19, [(0, .cv (.one (.own 0))), (1, .cv (.one (.fn 49 [] [(1, 0)])))], [(.buf 49 T814c p1, []), (.box 1, [.int .i64 p2]), (.box 6, [.int .i64 p3.1.1, .int .i64 p3.1.2, .int .i64 p3.2.1, .int .i64 p3.2.2.1, .int .i64 p3.2.2.2.1, .int .i64 p3.2.2.2.2])]⟩) (i_slices_IndexFunc_Ver_bfb.Q r) := by
  unfold i_slices_IndexFunc_Ver_bfb.f at H
  refine D_seq (by kernel_rfl) ?_
  refine D_reg (cs := []) (τ := ⟨19, [(0, .cv (.one (.own 0))), (1, .cv (.one (.fn 49 [] [(1, 0)])))], [(.buf 49 T814c p1, []), (.box 1, [.int .i64 p2]), (.box 6, [.int .i64 p3.1.1, .int .i64 p3.1.2, .int .i64 p3.2.1, .int .i64 p3.2.2.1, .int .i64 p3.2.2.2.1, .int .i64 p3.2.2.2.2])]⟩) hV 0 [] {live := [0, 1], src := [some 0, some 1, some 2]} (by kernel_rfl) (by kernel_rfl) trivial ?_
  refine th_n ?_
  refine D_seq (by kernel_rfl) ?_
  refine D_seq (by kernel_rfl) ?_
  refine D_reg (cs := []) (τ := ⟨19, [(0, .cv (.one (.own 0))), (1, .cv (.one (.fn 49 [] [(1, 0)]))), (7, .cv (.one (.int .i64 (p1.length : Int)))), (8, .cv (.one (.int .i64 0)))], [(.buf 49 T814c p1, []), (.box 1, [.int .i64 p2]), (.box 6, [.int .i64 p3.1.1, .int .i64 p3.1.2, .int .i64 p3.2.1, .int .i64 p3.2.2.1, .int .i64 p3.2.2.2.1, .int .i64 p3.2.2.2.2])]⟩) hV 0 [] {live := [0, 1, 7, 8], src := [some 0, some 1, some 2]} (by kernel_rfl) (by kernel_rfl) trivial ?_
  refine th_n ?_
  refine D_block (id := 0) (by kernel_rfl) ?_
  refine W_tell (τ := i_slices_IndexFunc_Ver_bfb.s1 (p1.length : Int) 0 p1 p2 p3) {fz := [], gr := 0, ad := [], live := [0, 1, 7, 8], src := [some 0, some 1, some 2]} (by kernel_rfl) (by kernel_rfl) ?_
  exact D_loop (by kernel_rfl) k (i_slices_IndexFunc_Ver_bfb.l1_ok hV k k (p1.length : Int) 0 p1 p2 p3 H)
theorem i_slices_IndexFunc_Ver_bfb.ok {r : i_slices_IndexFunc_Ver_bfb.R} (k : Nat) (p1 : List T814c.T) (p2 : Int) (p3 : T1383.T) (H : i_slices_IndexFunc_Ver_bfb.f k p1 p2 p3 = some r) : W P 3 i_slices_IndexFunc_Ver_bfb.c0 (i_slices_IndexFunc_Ver_bfb.s0 p1 p2 p3) (CallQ 3 (i_slices_IndexFunc_Ver_bfb.out r)) := i_slices_IndexFunc_Ver_bfb.f_ok i_slices_IndexFunc_Ver_bfb.V_ok k p1 p2 p3 H
/-! ### i_table_first_Ver_bfb: function 48, wayfinder/table.first[wayfinder/api.Ver], where it is called -/
noncomputable def i_table_first_Ver_bfb.c0 : Code := (Go.Proofs.Try.f48.body).getD .skip
noncomputable def i_table_first_Ver_bfb.G : List (Nat × Spec) := []
noncomputable def i_table_first_Ver_bfb.V : Env := { tt := tt, Γ := slk i_table_first_Ver_bfb.G }
theorem i_table_first_Ver_bfb.V_ok : EnvOk P i_table_first_Ver_bfb.V := { ck := tt_ck, fits := slk_nil, mixed := mixed }
abbrev i_table_first_Ver_bfb.R := (Int) × (List T814c.T) × (Int) × (T1383.T) × Unit
noncomputable def i_table_first_Ver_bfb.s0 (p1 : List T814c.T) (p2 : Int) (p3 : T1383.T) : St := ⟨14, [(0, .cv (.one (.own 0))), (1, .cv (.one (.fn 49 [] [(1, 0)])))], [(.buf 49 T814c p1, []), (.box 1, [.int .i64 p2]), (.box 6, [.int .i64 p3.1.1, .int .i64 p3.1.2, .int .i64 p3.2.1, .int .i64 p3.2.2.1, .int .i64 p3.2.2.2.1, .int .i64 p3.2.2.2.2])]⟩
noncomputable def i_table_first_Ver_bfb.out (r : i_table_first_Ver_bfb.R) : St := ⟨14, [(4, .cv (.one (.int .i64 r.1)))], [(.buf 49 T814c r.2.1, []), (.box 1, [.int .i64 r.2.2.1]), (.box 6, [.int .i64 r.2.2.2.1.1.1, .int .i64 r.2.2.2.1.1.2, .int .i64 r.2.2.2.1.2.1, .int .i64 r.2.2.2.1.2.2.1, .int .i64 r.2.2.2.1.2.2.2.1, .int .i64 r.2.2.2.1.2.2.2.2])]⟩
abbrev i_table_first_Ver_bfb.Q (r : i_table_first_Ver_bfb.R) := CallQ 3 (i_table_first_Ver_bfb.out r)
noncomputable def i_table_first_Ver_bfb.f (k : Nat) (p1 : List T814c.T) (p2 : Int) (p3 : T1383.T) : Option i_table_first_Ver_bfb.R :=
  (i_slices_IndexFunc_Ver_bfb.f k p1 p2 p3).bind fun y1 =>
    if (decide (y1.1 ≥ (0 : Int))) = true then
      some (y1.1, (y1.2.1, (y1.2.2.1, (y1.2.2.2.1, ()))))
    else
      some ((y1.2.1.length : Int), (y1.2.1, (y1.2.2.1, (y1.2.2.2.1, ()))))
theorem i_table_first_Ver_bfb.f_ok (hV : EnvOk P i_table_first_Ver_bfb.V) {r : i_table_first_Ver_bfb.R} (k : Nat) (p1 : List T814c.T) (p2 : Int) (p3 : T1383.T) (H : i_table_first_Ver_bfb.f k p1 p2 p3 = some r) : W P 3 i_table_first_Ver_bfb.c0 (⟨14, [(0, .cv (.one (.own 0))), (1, .cv (.one (.fn 49 [] [(1, 0)])))], [(.buf 49 T814c p1, []), (.box 1, [.int .i64 p2]), (.box 6, [.int .i64 p3.1.1, .int .i64 p3.1.2, .int .i64 p3.2.1, .int .i64 p3.2.2.1, .int .i64 p3.2.2.2.1, .int .i64 p3.2.2.2.2])]⟩) (i_table_first_Ver_bfb.Q r) := by
  unfold i_table_first_Ver_bfb.f at H
  refine D_seq (by kernel_rfl) ?_
  refine D_reg (cs := []) (τ := ⟨14, [(0, .cv (.one (.own 0))), (1, .cv (.one (.fn 49 [] [(1, 0)])))], [(.buf 49 T814c p1, []), (.box 1, [.int .i64 p2]), (.box 6, [.int .i64 p3.1.1, .int .i64 p3.1.2, .int .i64 p3.2.1, .int .i64 p3.2.2.1, .int .i64 p3.2.2.2.1, .int .i64 p3.2.2.2.2])]⟩) hV 0 [] {live := [0, 1], src := [some 0, some 1, some 2]} (by kernel_rfl) (by kernel_rfl) trivial ?_
  refine th_n ?_
  refine D_seq (by kernel_rfl) ?_
  refine D_seq (by kernel_rfl) ?_
  refine D_regI [0, 1, 2, 3] (by kernel_rfl) (by kernel_rfl) ?_
  refine D_ev (cs := []) (τ := ⟨14, [(0, .cv (.one (.own 0))), (1, .cv (.one (.fn 49 [] [(1, 0)]))), (6, .cv (.one (.own 0))), (7, .cv (.one (.fn 49 [] [(1, 0)])))], [(.buf 49 T814c p1, []), (.box 1, [.int .i64 p2]), (.box 6, [.int .i64 p3.1.1, .int .i64 p3.1.2, .int .i64 p3.2.1, .int .i64 p3.2.2.1, .int .i64 p3.2.2.2.1, .int .i64 p3.2.2.2.2])]⟩) hV 0 [] [0, 1] [2, 3] rfl (by kernel_rfl) trivial ?_
  obtain ⟨y1, e2, H⟩ := of_bind H
  refine D_call (f := 67) (N := 3) (cvs := [.one (.own 0), .one (.fn 49 [] [(1, 0)])]) (σ0 := i_slices_IndexFunc_Ver_bfb.s0 p1 p2 p3) (τ := i_slices_IndexFunc_Ver_bfb.out y1) (σ2 := ⟨14, [(0, .cv (.one (.own 0))), (1, .cv (.one (.fn 49 [] [(1, 0)]))), (6, .cv (.one (.own 0))), (7, .cv (.one (.fn 49 [] [(1, 0)]))), (8, .cv (.one (.int .i64 y1.1)))], [(.buf 49 T814c y1.2.1, []), (.box 1, [.int .i64 y1.2.2.1]), (.box 6, [.int .i64 y1.2.2.2.1.1.1, .int .i64 y1.2.2.2.1.1.2, .int .i64 y1.2.2.2.1.2.1, .int .i64 y1.2.2.2.1.2.2.1, .int .i64 y1.2.2.2.1.2.2.2.1, .int .i64 y1.2.2.2.1.2.2.2.2])]⟩) hV 2 (by kernel_rfl) Go.Proofs.Try.func67 (by kernel_rfl) (by decide) (by kernel_rfl) (by kernel_rfl) (by kernel_rfl) (i_slices_IndexFunc_Ver_bfb.ok k p1 p2 p3 e2) (by kernel_rfl) ?_
  refine D_ev (cs := []) (τ := ⟨14, [(0, .cv (.one (.own 0))), (1, .cv (.one (.fn 49 [] [(1, 0)]))), (5, .cv (.one (.int .i64 y1.1))), (6, .cv (.one (.own 0))), (7, .cv (.one (.fn 49 [] [(1, 0)]))), (8, .cv (.one (.int .i64 y1.1)))], [(.buf 49 T814c y1.2.1, []), (.box 1, [.int .i64 y1.2.2.1]), (.box 6, [.int .i64 y1.2.2.2.1.1.1, .int .i64 y1.2.2.2.1.1.2, .int .i64 y1.2.2.2.1.2.1, .int .i64 y1.2.2.2.1.2.2.1, .int .i64 y1.2.2.2.1.2.2.2.1, .int .i64 y1.2.2.2.1.2.2.2.2])]⟩) hV 0 [] [3] [] rfl (by kernel_rfl) trivial ?_
  refine WO_tell (τ := ⟨14, [(0, .cv (.one (.own 0))), (5, .cv (.one (.int .i64 y1.1)))], [(.buf 49 T814c y1.2.1, []), (.box 1, [.int .i64 y1.2.2.1]), (.box 6, [.int .i64 y1.2.2.2.1.1.1, .int .i64 y1.2.2.2.1.1.2, .int .i64 y1.2.2.2.1.2.1, .int .i64 y1.2.2.2.1.2.2.1, .int .i64 y1.2.2.2.1.2.2.2.1, .int .i64 y1.2.2.2.1.2.2.2.2])]⟩) {live := [0, 5], src := [some 0, some 1, some 2]} (by kernel_rfl) (by kernel_rfl) ?_
  refine WO_nil ?_
  refine th_n ?_
  refine D_seq (by kernel_rfl) ?_
  refine D_reg (cs := []) (τ := ⟨14, [(0, .cv (.one (.own 0))), (5, .cv (.one (.int .i64 y1.1))), (10, .cv (.one (.bool (decide (y1.1 ≥ (0 : Int))))))], [(.buf 49 T814c y1.2.1, []), (.box 1, [.int .i64 y1.2.2.1]), (.box 6, [.int .i64 y1.2.2.2.1.1.1, .int .i64 y1.2.2.2.1.1.2, .int .i64 y1.2.2.2.1.2.1, .int .i64 y1.2.2.2.1.2.2.1, .int .i64 y1.2.2.2.1.2.2.2.1, .int .i64 y1.2.2.2.1.2.2.2.2])]⟩) hV 0 [] {live := [0, 5, 10], src := [some 0, some 1, some 2]} (by kernel_rfl) (by kernel_rfl) trivial ?_
  refine th_n ?_
  refine D_condB (t := 10) (b := (decide (y1.1 ≥ (0 : Int)))) (by kernel_rfl) (by kernel_rfl) (fun hb3 => ?_) (fun hb3 => ?_)
  · rw [if_pos hb3] at H
    refine D_seq (by kernel_rfl) ?_
    refine D_reg (cs := []) (τ := ⟨14, [(4, .cv (.one (.int .i64 y1.1)))], [(.buf 49 T814c y1.2.1, []), (.box 1, [.int .i64 y1.2.2.1]), (.box 6, [.int .i64 y1.2.2.2.1.1.1, .int .i64 y1.2.2.2.1.1.2, .int .i64 y1.2.2.2.1.2.1, .int .i64 y1.2.2.2.1.2.2.1, .int .i64 y1.2.2.2.1.2.2.2.1, .int .i64 y1.2.2.2.1.2.2.2.2])]⟩) hV 0 [] {live := [4], src := [some 0, some 1, some 2]} (by kernel_rfl) (by kernel_rfl) trivial ?_
    refine th_n ?_
    refine D_ret (by kernel_rfl) ?_
    refine th_r ?_
    obtain rfl := Option.some.inj H
    exact cq_r {fz := [], gr := 0, ad := [], live := [4], src := [some 0, some 1, some 2]} (by kernel_rfl) (by kernel_rfl)
  · rw [if_neg (by rw [hb3]; decide)] at H
    refine D_skip (by kernel_rfl) ?_
    refine th_n ?_
    refine D_seq (by kernel_rfl) ?_
    refine D_reg (cs := []) (τ := ⟨14, [(4, .cv (.one (.int .i64 (y1.2.1.length : Int))))], [(.buf 49 T814c y1.2.1, []), (.box 1, [.int .i64 y1.2.2.1]), (.box 6, [.int .i64 y1.2.2.2.1.1.1, .int .i64 y1.2.2.2.1.1.2, .int .i64 y1.2.2.2.1.2.1, .int .i64 y1.2.2.2.1.2.2.1, .int .i64 y1.2.2.2.1.2.2.2.1, .int .i64 y1.2.2.2.1.2.2.2.2])]⟩) hV 0 [] {live := [4], src := [some 0, some 1, some 2]} (by kernel_rfl) (by kernel_rfl) trivial ?_
    refine th_n ?_
    refine D_ret (by kernel_rfl) ?_
    obtain rfl := Option.some.inj H
    exact cq_r {fz := [], gr := 0, ad := [], live := [4], src := [some 0, some 1, some 2]} (by kernel_rfl) (by kernel_rfl)
theorem i_table_first_Ver_bfb.ok {r : i_table_first_Ver_bfb.R} (k : Nat) (p1 : List T814c.T) (p2 : Int) (p3 : T1383.T) (H : i_table_first_Ver_bfb.f k p1 p2 p3 = some r) : W P 3 i_table_first_Ver_bfb.c0 (i_table_first_Ver_bfb.s0 p1 p2 p3) (CallQ 3 (i_table_first_Ver_bfb.out r)) := i_table_first_Ver_bfb.f_ok i_table_first_Ver_bfb.V_ok k p1 p2 p3 H
/-! ### f_table_Put: function 24, wayfinder/table.Put -/
abbrev f_table_Put.ps : Sg := [(false, (.slice T814c)), (false, (.int .i64)), (true, T1383), (false, (.int .i64))]
abbrev f_table_Put.rs : Sg := [(false, (.slice T814c)), (false, (.int .i64))]
noncomputable def f_table_Put.c0 : Code := (Go.Proofs.Try.f24.body).getD .skip
noncomputable def f_table_Put.G : List (Nat × Spec) := [(32, f_table_Size.S), (34, f_rule_May.S), (41, f_table_at.S)]
noncomputable def f_table_Put.V : Env := { tt := tt, Γ := slk f_table_Put.G, pr := plk [(44, .lnk 49 39 (.int .i64) T1383 32 48), (50, .ins 49 T814c 32)] }
noncomputable abbrev f_table_Put.Q (r : Tup f_table_Put.rs) : Exit → St → Prop := Qr tt Go.Proofs.Try.f24.results ⟨f_table_Put.ps, f_table_Put.rs, .any, none, fun _ _ => True⟩ r
abbrev f_table_Put.R := Tup f_table_Put.rs
noncomputable def f_table_Put.s1 (p1 : Int) (p2 : Bool) (p3 : List (Int × List T1383.T)) (p4 : Nat) (p5 : Int) (p6 : T1383.T) (p7 : List T1383.T) : St := ⟨107, [(0, .cv (.one (.own 0))), (3, .cv (.one (.int .i64 p1))), (5, .cv (.one (.ptr 1 0))), (6, .cv (.one (.ptr 2 0))), (26, .cv (.one (.bool p2)))], [(.lnk 49 (.int .i64) T1383 p3 3 p4, []), (.box 1, [.int .i64 p5]), (.box 6, [.int .i64 p6.1.1, .int .i64 p6.1.2, .int .i64 p6.2.1, .int .i64 p6.2.2.1, .int .i64 p6.2.2.2.1, .int .i64 p6.2.2.2.2]), (.buf 39 T1383 p7, [])]⟩
noncomputable def f_table_Put.s2 (p1 : Int) (p2 : Int) (p3 : List (Int × List T1383.T)) (p4 : Nat) (p5 : Int) (p6 : T1383.T) (p7 : List T1383.T) : St := ⟨107, [(0, .cv (.one (.own 0))), (3, .cv (.one (.int .i64 p1))), (5, .cv (.one (.ptr 1 0))), (6, .cv (.one (.ptr 2 0))), (10, .cv (.one (.int .i64 p2)))], [(.lnk 49 (.int .i64) T1383 p3 3 p4, []), (.box 1, [.int .i64 p5]), (.box 6, [.int .i64 p6.1.1, .int .i64 p6.1.2, .int .i64 p6.2.1, .int .i64 p6.2.2.1, .int .i64 p6.2.2.2.1, .int .i64 p6.2.2.2.2]), (.buf 39 T1383 p7, [])]⟩
noncomputable def f_table_Put.j2 (k : Nat) (p1 : Int) (p2 : Int) (p3 : List (Int × List T1383.T)) (p4 : Nat) (p5 : Int) (p6 : T1383.T) (p7 : List T1383.T) : Option f_table_Put.R :=
  (f_table_Size.f k (lnkd p3 p4 p7)).bind fun y21 =>
  if (decide (y21.1 ≥ p1)) = true then
    some ((lnkd p3 p4 p7), ((7 : Int), ()))
  else
    if (decide (p2 < (p3.length : Int))) = true then
      if 0 ≤ p2 then
        if p2 < ((lnkd p3 p4 p7).length : Int) then
          if 0 ≤ (0 : Int) ∧ (0 : Int) ≤ (((att T814c (lnkd p3 p4 p7) p2).2).length : Int) ∧ (((att T814c (lnkd p3 p4 p7) p2).2).length : Int) ≤ (((att T814c (lnkd p3 p4 p7) p2).2).length : Int) ∧ (((att T814c (lnkd p3 p4 p7) p2).2).length : Int) = (((att T814c (lnkd p3 p4 p7) p2).2).length : Int) then
            if (((((att T814c (lnkd p3 p4 p7) p2).2).take (((att T814c (lnkd p3 p4 p7) p2).2).length : Int).toNat).drop (0 : Int).toNat).length + 1) * 48 ≤ 140737488355328 then
              some (((lnkd p3 p4 p7).set p2.toNat ((att T814c (lnkd p3 p4 p7) p2).1, (((((att T814c (lnkd p3 p4 p7) p2).2).take (((att T814c (lnkd p3 p4 p7) p2).2).length : Int).toNat).drop (0 : Int).toNat) ++ [p6]))), ((0 : Int), ()))
            else none
          else none
        else none
      else none
    else
      none
theorem f_table_Put.j2_ok (hV : EnvOk P f_table_Put.V) {r : f_table_Put.R} (k : Nat) (p1 : Int) (p2 : Int) (p3 : List (Int × List T1383.T)) (p4 : Nat) (p5 : Int) (p6 : T1383.T) (p7 : List T1383.T) (H : f_table_Put.j2 k p1 p2 p3 p4 p5 p6 p7 = some r) : W P 0 (Code.r (Code.r (Code.r (Code.r (Code.r f_table_Put.c0))))) (f_table_Put.s2 p1 p2 p3 p4 p5 p6 p7) (f_table_Put.Q r) := by
  unfold f_table_Put.j2 at H
  refine D_seq (by kernel_rfl) ?_
  refine D_block (id := 0) (by kernel_rfl) ?_
  refine D_seq (by kernel_rfl) ?_
  obtain ⟨y21, e22, H⟩ := of_bind H
  refine D_reg (cs := [f_table_Size.S.rel ((lnkd p3 p4 p7), ()) y21]) (τ := ⟨107, [(0, .cv (.one (.own 0))), (5, .cv (.one (.ptr 1 0))), (6, .cv (.one (.ptr 2 0))), (10, .cv (.one (.int .i64 p2))), (59, .cv (.one (.bool (decide (y21.1 ≥ p1)))))], [(.lnk 49 (.int .i64) T1383 p3 3 p4, []), (.box 1, [.int .i64 p5]), (.box 6, [.int .i64 p6.1.1, .int .i64 p6.1.2, .int .i64 p6.2.1, .int .i64 p6.2.2.1, .int .i64 p6.2.2.2.1, .int .i64 p6.2.2.2.2]), (.buf 39 T1383 p7, [])]⟩) hV 0 [(1, {res := some ⟨f_table_Size.S.rs, y21⟩})] {live := [0, 5, 6, 10, 59], src := [some 0, some 1, some 2, some 3]} (by kernel_rfl) (by kernel_rfl) ⟨⟨k, e22⟩, trivial⟩ ?_
  refine th_n ?_
  refine D_condB (t := 59) (b := (decide (y21.1 ≥ p1))) (by kernel_rfl) (by kernel_rfl) (fun hb23 => ?_) (fun hb23 => ?_)
  · rw [if_pos hb23] at H
    refine D_seq (by kernel_rfl) ?_
    refine D_reg (cs := []) (τ := ⟨107, [(8, .cv (.one (.own 0))), (9, .cv (.one (.int .i64 7)))], [(.lnk 49 (.int .i64) T1383 p3 1 p4, []), (.buf 39 T1383 p7, [])]⟩) hV 0 [] {live := [8, 9], src := [some 0, some 3]} (by kernel_rfl) (by kernel_rfl) trivial ?_
    refine th_n ?_
    refine W_tell (τ := ⟨107, [(8, .cv (.one (.own 0))), (9, .cv (.one (.int .i64 7)))], [(.buf 49 T814c (lnkd p3 p4 p7), [])]⟩) {fz := [1], live := [8, 9], src := [some 0]} (by kernel_rfl) (by kernel_rfl) ?_
    refine D_ret (by kernel_rfl) ?_
    refine bl_r ?_
    refine th_r ?_
    exact lf_r (Eq.trans (by kernel_rfl) H)
  · rw [if_neg (by rw [hb23]; decide)] at H
    refine D_seq (by kernel_rfl) ?_
    refine D_reg (cs := []) (τ := ⟨107, [(0, .cv (.one (.own 0))), (5, .cv (.one (.ptr 1 0))), (6, .cv (.one (.ptr 2 0))), (10, .cv (.one (.int .i64 p2))), (65, .cv (.one (.bool (decide (p2 < (p3.length : Int))))))], [(.lnk 49 (.int .i64) T1383 p3 3 p4, []), (.box 1, [.int .i64 p5]), (.box 6, [.int .i64 p6.1.1, .int .i64 p6.1.2, .int .i64 p6.2.1, .int .i64 p6.2.2.1, .int .i64 p6.2.2.2.1, .int .i64 p6.2.2.2.2]), (.buf 39 T1383 p7, [])]⟩) hV 0 [] {live := [0, 5, 6, 10, 65], src := [some 0, some 1, some 2, some 3]} (by kernel_rfl) (by kernel_rfl) trivial ?_
    refine th_n ?_
    refine D_condB (t := 65) (b := (decide (p2 < (p3.length : Int)))) (by kernel_rfl) (by kernel_rfl) (fun hb24 => ?_) (fun hb24 => ?_)
    · rw [if_pos hb24] at H
      refine D_seq (by kernel_rfl) ?_
      refine W_tell (τ := ⟨107, [(0, .cv (.one (.own 0))), (6, .cv (.one (.ptr 1 0))), (10, .cv (.one (.int .i64 p2)))], [(.buf 49 T814c (lnkd p3 p4 p7), []), (.box 6, [.int .i64 p6.1.1, .int .i64 p6.1.2, .int .i64 p6.2.1, .int .i64 p6.2.2.1, .int .i64 p6.2.2.2.1, .int .i64 p6.2.2.2.2])]⟩) {fz := [3], live := [0, 6, 10], src := [some 0, some 2]} (by kernel_rfl) (by kernel_rfl) ?_
      obtain ⟨n25, H⟩ := of_if H
      obtain ⟨n26, H⟩ := of_if H
      obtain ⟨n27, H⟩ := of_if H
      obtain ⟨n28, H⟩ := of_if H
      refine D_reg (cs := [0 ≤ p2, p2 < ((lnkd p3 p4 p7).length : Int), 0 ≤ p2, p2 < ((lnkd p3 p4 p7).length : Int), 0 ≤ p2, p2 < ((lnkd p3 p4 p7).length : Int), 0 ≤ (0 : Int) ∧ (0 : Int) ≤ (((att T814c (lnkd p3 p4 p7) p2).2).length : Int) ∧ (((att T814c (lnkd p3 p4 p7) p2).2).length : Int) ≤ (((att T814c (lnkd p3 p4 p7) p2).2).length : Int) ∧ (((att T814c (lnkd p3 p4 p7) p2).2).length : Int) = (((att T814c (lnkd p3 p4 p7) p2).2).length : Int), (((((att T814c (lnkd p3 p4 p7) p2).2).take (((att T814c (lnkd p3 p4 p7) p2).2).length : Int).toNat).drop (0 : Int).toNat).length + 1) * 48 ≤ 140737488355328, 0 ≤ p2, p2 < ((lnkd p3 p4 p7).length : Int)]) (τ := ⟨107, [(0, .cv (.one (.own 0)))], [(.buf 49 T814c ((lnkd p3 p4 p7).set p2.toNat ((att T814c (lnkd p3 p4 p7) p2).1, (((((att T814c (lnkd p3 p4 p7) p2).2).take (((att T814c (lnkd p3 p4 p7) p2).2).length : Int).toNat).drop (0 : Int).toNat) ++ [p6]))), [])]⟩) hV 0 [(22, {own := false})] {live := [0], src := [some 0]} (by kernel_rfl) (by kernel_rfl) ⟨n25, n26, n25, n26, n25, n26, n27, n28, n25, n26, trivial⟩ ?_
      refine th_n ?_
      refine D_seq (by kernel_rfl) ?_
      refine D_reg (cs := []) (τ := ⟨107, [(8, .cv (.one (.own 0))), (9, .cv (.one (.int .i64 0)))], [(.buf 49 T814c ((lnkd p3 p4 p7).set p2.toNat ((att T814c (lnkd p3 p4 p7) p2).1, (((((att T814c (lnkd p3 p4 p7) p2).2).take (((att T814c (lnkd p3 p4 p7) p2).2).length : Int).toNat).drop (0 : Int).toNat) ++ [p6]))), [])]⟩) hV 0 [] {live := [8, 9], src := [some 0]} (by kernel_rfl) (by kernel_rfl) trivial ?_
      refine th_n ?_
      refine D_ret (by kernel_rfl) ?_
      refine bl_r ?_
      refine th_r ?_
      exact lf_r (Eq.trans (by kernel_rfl) H)
    · rw [if_neg (by rw [hb24]; decide)] at H
      cases H
noncomputable def f_table_Put.j1 (k : Nat) (p1 : Int) (p2 : Bool) (p3 : List (Int × List T1383.T)) (p4 : Nat) (p5 : Int) (p6 : T1383.T) (p7 : List T1383.T) : Option f_table_Put.R :=
  if p2 = true then
  some ((lnkd p3 p4 p7), ((1 : Int), ()))
else
  (f_table_at.f k (lnkd p3 p4 p7) p5).bind fun y9 =>
    if (decide (y9.1 < (p3.length : Int))) = true then
      if 0 ≤ y9.1 then
        if y9.1 < (p3.length : Int) then
          if y9.1 = (p4 : Int) then
            (i_table_first_Rule_a98.f k p3 p4 p5 p6 p7).bind fun y15 =>
              if y9.1 = (y15.2.2.1 : Int) then
                if (decide (y15.1 < (y15.2.2.2.2.2.1.length : Int))) = true then
                  if 0 ≤ y15.1 then
                    if y15.1 < (y15.2.2.2.2.2.1.length : Int) then
                      some ((lnkd y15.2.1 y15.2.2.1 (y15.2.2.2.2.2.1.set y15.1.toNat y15.2.2.2.2.1)), ((0 : Int), ()))
                    else none
                  else none
                else
                  f_table_Put.j2 k p1 y9.1 y15.2.1 y15.2.2.1 y15.2.2.2.1 y15.2.2.2.2.1 y15.2.2.2.2.2.1
              else none
          else none
        else none
      else none
    else
      f_table_Put.j2 k p1 y9.1 p3 p4 p5 p6 p7
theorem f_table_Put.j1_ok (hV : EnvOk P f_table_Put.V) {r : f_table_Put.R} (k : Nat) (p1 : Int) (p2 : Bool) (p3 : List (Int × List T1383.T)) (p4 : Nat) (p5 : Int) (p6 : T1383.T) (p7 : List T1383.T) (H : f_table_Put.j1 k p1 p2 p3 p4 p5 p6 p7 = some r) : W P 0 (Code.r (Code.l (Code.r (Code.r f_table_Put.c0)))) (f_table_Put.s1 p1 p2 p3 p4 p5 p6 p7) (thenW P 0 (Code.r (Code.r (Code.r f_table_Put.c0))) (f_table_Put.Q r)) := by
  unfold f_table_Put.j1 at H
  refine D_condB (t := 26) (b := p2) (by kernel_rfl) (by kernel_rfl) (fun hb8 => ?_) (fun hb8 => ?_)
  · rw [if_pos hb8] at H
    refine D_seq (by kernel_rfl) ?_
    refine D_reg (cs := []) (τ := ⟨107, [(8, .cv (.one (.own 0))), (9, .cv (.one (.int .i64 1)))], [(.lnk 49 (.int .i64) T1383 p3 1 p4, []), (.buf 39 T1383 p7, [])]⟩) hV 0 [] {live := [8, 9], src := [some 0, some 3]} (by kernel_rfl) (by kernel_rfl) trivial ?_
    refine th_n ?_
    refine W_tell (τ := ⟨107, [(8, .cv (.one (.own 0))), (9, .cv (.one (.int .i64 1)))], [(.buf 49 T814c (lnkd p3 p4 p7), [])]⟩) {fz := [1], live := [8, 9], src := [some 0]} (by kernel_rfl) (by kernel_rfl) ?_
    refine D_ret (by kernel_rfl) ?_
    refine th_r ?_
    exact lf_r (Eq.trans (by kernel_rfl) H)
  · rw [if_neg (by rw [hb8]; decide)] at H
    refine D_skip (by kernel_rfl) ?_
    refine th_n ?_
    refine D_seq (by kernel_rfl) ?_
    obtain ⟨y9, e10, H⟩ := of_bind H
    refine D_reg (cs := [f_table_at.S.rel ((lnkd p3 p4 p7), p5, ()) y9]) (τ := ⟨107, [(0, .cv (.one (.own 0))), (3, .cv (.one (.int .i64 p1))), (5, .cv (.one (.ptr 1 0))), (6, .cv (.one (.ptr 2 0))), (10, .cv (.one (.int .i64 y9.1)))], [(.lnk 49 (.int .i64) T1383 p3 3 p4, []), (.box 1, [.int .i64 p5]), (.box 6, [.int .i64 p6.1.1, .int .i64 p6.1.2, .int .i64 p6.2.1, .int .i64 p6.2.2.1, .int .i64 p6.2.2.2.1, .int .i64 p6.2.2.2.2]), (.buf 39 T1383 p7, [])]⟩) hV 0 [(2, {res := some ⟨f_table_at.S.rs, y9⟩})] {live := [0, 3, 5, 6, 10], src := [some 0, some 1, some 2, some 3]} (by kernel_rfl) (by kernel_rfl) ⟨⟨k, e10⟩, trivial⟩ ?_
    refine th_n ?_
    refine D_seq (by kernel_rfl) ?_
    refine D_seq (by kernel_rfl) ?_
    refine D_reg (cs := []) (τ := ⟨107, [(0, .cv (.one (.own 0))), (3, .cv (.one (.int .i64 p1))), (5, .cv (.one (.ptr 1 0))), (6, .cv (.one (.ptr 2 0))), (10, .cv (.one (.int .i64 y9.1))), (34, .cv (.one (.bool (decide (y9.1 < (p3.length : Int))))))], [(.lnk 49 (.int .i64) T1383 p3 3 p4, []), (.box 1, [.int .i64 p5]), (.box 6, [.int .i64 p6.1.1, .int .i64 p6.1.2, .int .i64 p6.2.1, .int .i64 p6.2.2.1, .int .i64 p6.2.2.2.1, .int .i64 p6.2.2.2.2]), (.buf 39 T1383 p7, [])]⟩) hV 0 [] {live := [0, 3, 5, 6, 10, 34], src := [some 0, some 1, some 2, some 3]} (by kernel_rfl) (by kernel_rfl) trivial ?_
    refine th_n ?_
    refine D_condB (t := 34) (b := (decide (y9.1 < (p3.length : Int)))) (by kernel_rfl) (by kernel_rfl) (fun hb11 => ?_) (fun hb11 => ?_)
    · rw [if_pos hb11] at H
      refine D_seq (by kernel_rfl) ?_
      obtain ⟨n12, H⟩ := of_if H
      obtain ⟨n13, H⟩ := of_if H
      refine D_reg (cs := [0 ≤ y9.1, y9.1 < (p3.length : Int)]) (τ := ⟨107, [(0, .cv (.one (.own 0))), (3, .cv (.one (.int .i64 p1))), (5, .cv (.one (.ptr 1 0))), (6, .cv (.one (.ptr 2 0))), (10, .cv (.one (.int .i64 y9.1))), (11, .cv (.one (.eptr 0 T814c y9.1 0)))], [(.lnk 49 (.int .i64) T1383 p3 3 p4, []), (.box 1, [.int .i64 p5]), (.box 6, [.int .i64 p6.1.1, .int .i64 p6.1.2, .int .i64 p6.2.1, .int .i64 p6.2.2.1, .int .i64 p6.2.2.2.1, .int .i64 p6.2.2.2.2]), (.buf 39 T1383 p7, [])]⟩) hV 0 [] {live := [0, 3, 5, 6, 10, 11], src := [some 0, some 1, some 2, some 3]} (by kernel_rfl) (by kernel_rfl) ⟨n12, n13, trivial⟩ ?_
      refine th_n ?_
      refine D_seq (by kernel_rfl) ?_
      refine D_regI [0, 1, 2, 3, 4, 5, 6] (by kernel_rfl) (by kernel_rfl) ?_
      obtain ⟨n14, H⟩ := of_if H
      refine D_ev (cs := [y9.1 = (p4 : Int)]) (τ := ⟨107, [(0, .cv (.one (.own 0))), (3, .cv (.one (.int .i64 p1))), (5, .cv (.one (.ptr 1 0))), (6, .cv (.one (.ptr 2 0))), (10, .cv (.one (.int .i64 y9.1))), (11, .cv (.one (.eptr 0 T814c y9.1 0))), (38, .cv (.one (.eptr 0 T814c y9.1 0))), (39, .cv (.one (.eptr 0 T814c y9.1 0))), (40, .cv (.one (.eptr 0 T814c y9.1 1))), (41, .cv (.one (.own 3))), (42, .cv (.one (.fn 46 [] [(2, 0)])))], [(.lnk 49 (.int .i64) T1383 p3 3 p4, []), (.box 1, [.int .i64 p5]), (.box 6, [.int .i64 p6.1.1, .int .i64 p6.1.2, .int .i64 p6.2.1, .int .i64 p6.2.2.1, .int .i64 p6.2.2.2.1, .int .i64 p6.2.2.2.2]), (.buf 39 T1383 p7, [])]⟩) hV 0 [] [0, 1, 2, 3, 4] [5, 6] rfl (by kernel_rfl) ⟨n14, trivial⟩ ?_
      obtain ⟨y15, e16, H⟩ := of_bind H
      refine D_call (f := 45) (N := 4) (cvs := [.one (.own 3), .one (.fn 46 [] [(2, 0)])]) (σ0 := i_table_first_Rule_a98.s0 p3 p4 p5 p6 p7) (τ := i_table_first_Rule_a98.out y15) (σ2 := ⟨107, [(0, .cv (.one (.own 0))), (3, .cv (.one (.int .i64 p1))), (5, .cv (.one (.ptr 1 0))), (6, .cv (.one (.ptr 2 0))), (10, .cv (.one (.int .i64 y9.1))), (11, .cv (.one (.eptr 0 T814c y9.1 0))), (38, .cv (.one (.eptr 0 T814c y9.1 0))), (39, .cv (.one (.eptr 0 T814c y9.1 0))), (40, .cv (.one (.eptr 0 T814c y9.1 1))), (41, .cv (.one (.own 3))), (42, .cv (.one (.fn 46 [] [(2, 0)]))), (43, .cv (.one (.int .i64 y15.1)))], [(.lnk 49 (.int .i64) T1383 y15.2.1 3 y15.2.2.1, []), (.box 1, [.int .i64 y15.2.2.2.1]), (.box 6, [.int .i64 y15.2.2.2.2.1.1.1, .int .i64 y15.2.2.2.2.1.1.2, .int .i64 y15.2.2.2.2.1.2.1, .int .i64 y15.2.2.2.2.1.2.2.1, .int .i64 y15.2.2.2.2.1.2.2.2.1, .int .i64 y15.2.2.2.2.1.2.2.2.2]), (.buf 39 T1383 y15.2.2.2.2.2.1, [])]⟩) hV 5 (by kernel_rfl) Go.Proofs.Try.func45 (by kernel_rfl) (by decide) (by kernel_rfl) (by kernel_rfl) (by kernel_rfl) (i_table_first_Rule_a98.ok k p3 p4 p5 p6 p7 e16) (by kernel_rfl) ?_
      refine D_ev (cs := []) (τ := ⟨107, [(0, .cv (.one (.own 0))), (3, .cv (.one (.int .i64 p1))), (5, .cv (.one (.ptr 1 0))), (6, .cv (.one (.ptr 2 0))), (10, .cv (.one (.int .i64 y9.1))), (11, .cv (.one (.eptr 0 T814c y9.1 0))), (12, .cv (.one (.int .i64 y15.1))), (38, .cv (.one (.eptr 0 T814c y9.1 0))), (39, .cv (.one (.eptr 0 T814c y9.1 0))), (40, .cv (.one (.eptr 0 T814c y9.1 1))), (41, .cv (.one (.own 3))), (42, .cv (.one (.fn 46 [] [(2, 0)]))), (43, .cv (.one (.int .i64 y15.1)))], [(.lnk 49 (.int .i64) T1383 y15.2.1 3 y15.2.2.1, []), (.box 1, [.int .i64 y15.2.2.2.1]), (.box 6, [.int .i64 y15.2.2.2.2.1.1.1, .int .i64 y15.2.2.2.2.1.1.2, .int .i64 y15.2.2.2.2.1.2.1, .int .i64 y15.2.2.2.2.1.2.2.1, .int .i64 y15.2.2.2.2.1.2.2.2.1, .int .i64 y15.2.2.2.2.1.2.2.2.2]), (.buf 39 T1383 y15.2.2.2.2.2.1, [])]⟩) hV 0 [] [6] [] rfl (by kernel_rfl) trivial ?_
      refine WO_tell (τ := ⟨107, [(0, .cv (.one (.own 0))), (3, .cv (.one (.int .i64 p1))), (5, .cv (.one (.ptr 1 0))), (6, .cv (.one (.ptr 2 0))), (10, .cv (.one (.int .i64 y9.1))), (11, .cv (.one (.eptr 0 T814c y9.1 0))), (12, .cv (.one (.int .i64 y15.1)))], [(.lnk 49 (.int .i64) T1383 y15.2.1 3 y15.2.2.1, []), (.box 1, [.int .i64 y15.2.2.2.1]), (.box 6, [.int .i64 y15.2.2.2.2.1.1.1, .int .i64 y15.2.2.2.2.1.1.2, .int .i64 y15.2.2.2.2.1.2.1, .int .i64 y15.2.2.2.2.1.2.2.1, .int .i64 y15.2.2.2.2.1.2.2.2.1, .int .i64 y15.2.2.2.2.1.2.2.2.2]), (.buf 39 T1383 y15.2.2.2.2.2.1, [])]⟩) {live := [0, 3, 5, 6, 10, 11, 12], src := [some 0, some 1, some 2, some 3]} (by kernel_rfl) (by kernel_rfl) ?_
      refine WO_nil ?_
      refine th_n ?_
      refine D_seq (by kernel_rfl) ?_
      obtain ⟨n17, H⟩ := of_if H
      refine D_reg (cs := [y9.1 = (y15.2.2.1 : Int)]) (τ := ⟨107, [(0, .cv (.one (.own 0))), (3, .cv (.one (.int .i64 p1))), (5, .cv (.one (.ptr 1 0))), (6, .cv (.one (.ptr 2 0))), (10, .cv (.one (.int .i64 y9.1))), (11, .cv (.one (.eptr 0 T814c y9.1 0))), (12, .cv (.one (.int .i64 y15.1))), (50, .cv (.one (.bool (decide (y15.1 < (y15.2.2.2.2.2.1.length : Int))))))], [(.lnk 49 (.int .i64) T1383 y15.2.1 3 y15.2.2.1, []), (.box 1, [.int .i64 y15.2.2.2.1]), (.box 6, [.int .i64 y15.2.2.2.2.1.1.1, .int .i64 y15.2.2.2.2.1.1.2, .int .i64 y15.2.2.2.2.1.2.1, .int .i64 y15.2.2.2.2.1.2.2.1, .int .i64 y15.2.2.2.2.1.2.2.2.1, .int .i64 y15.2.2.2.2.1.2.2.2.2]), (.buf 39 T1383 y15.2.2.2.2.2.1, [])]⟩) hV 0 [] {live := [0, 3, 5, 6, 10, 11, 12, 50], src := [some 0, some 1, some 2, some 3]} (by kernel_rfl) (by kernel_rfl) ⟨n17, trivial⟩ ?_
      refine th_n ?_
      refine D_condB (t := 50) (b := (decide (y15.1 < (y15.2.2.2.2.2.1.length : Int)))) (by kernel_rfl) (by kernel_rfl) (fun hb18 => ?_) (fun hb18 => ?_)
      · rw [if_pos hb18] at H
        refine D_seq (by kernel_rfl) ?_
        obtain ⟨n19, H⟩ := of_if H
        obtain ⟨n20, H⟩ := of_if H
        refine D_reg (cs := [y9.1 = (y15.2.2.1 : Int), 0 ≤ y15.1, y15.1 < (y15.2.2.2.2.2.1.length : Int)]) (τ := ⟨107, [(0, .cv (.one (.own 0)))], [(.lnk 49 (.int .i64) T1383 y15.2.1 1 y15.2.2.1, []), (.buf 39 T1383 (y15.2.2.2.2.2.1.set y15.1.toNat y15.2.2.2.2.1), [])]⟩) hV 0 [] {live := [0], src := [some 0, some 3]} (by kernel_rfl) (by kernel_rfl) ⟨n17, n19, n20, trivial⟩ ?_
        refine th_n ?_
        refine D_seq (by kernel_rfl) ?_
        refine D_reg (cs := []) (τ := ⟨107, [(8, .cv (.one (.own 0))), (9, .cv (.one (.int .i64 0)))], [(.lnk 49 (.int .i64) T1383 y15.2.1 1 y15.2.2.1, []), (.buf 39 T1383 (y15.2.2.2.2.2.1.set y15.1.toNat y15.2.2.2.2.1), [])]⟩) hV 0 [] {live := [8, 9], src := [some 0, some 1]} (by kernel_rfl) (by kernel_rfl) trivial ?_
        refine th_n ?_
        refine W_tell (τ := ⟨107, [(8, .cv (.one (.own 0))), (9, .cv (.one (.int .i64 0)))], [(.buf 49 T814c (lnkd y15.2.1 y15.2.2.1 (y15.2.2.2.2.2.1.set y15.1.toNat y15.2.2.2.2.1)), [])]⟩) {fz := [1], live := [8, 9], src := [some 0]} (by kernel_rfl) (by kernel_rfl) ?_
        refine D_ret (by kernel_rfl) ?_
        refine th_r ?_
        exact lf_r (Eq.trans (by kernel_rfl) H)
      · rw [if_neg (by rw [hb18]; decide)] at H
        refine D_skip (by kernel_rfl) ?_
        refine th_n ?_
        refine W_tell (τ := f_table_Put.s2 p1 y9.1 y15.2.1 y15.2.2.1 y15.2.2.2.1 y15.2.2.2.2.1 y15.2.2.2.2.2.1) {fz := [], gr := 0, ad := [], live := [0, 3, 5, 6, 10], src := [some 0, some 1, some 2, some 3]} (by kernel_rfl) (by kernel_rfl) ?_
        exact f_table_Put.j2_ok hV k p1 y9.1 y15.2.1 y15.2.2.1 y15.2.2.2.1 y15.2.2.2.2.1 y15.2.2.2.2.2.1 H
    · rw [if_neg (by rw [hb11]; decide)] at H
      refine D_skip (by kernel_rfl) ?_
      refine th_n ?_
      refine W_tell (τ := f_table_Put.s2 p1 y9.1 p3 p4 p5 p6 p7) {fz := [], gr := 0, ad := [], live := [0, 3, 5, 6, 10], src := [some 0, some 1, some 2, some 3]} (by kernel_rfl) (by kernel_rfl) ?_
      exact f_table_Put.j2_ok hV k p1 y9.1 p3 p4 p5 p6 p7 H
noncomputable def f_table_Put.s3 (p1 : Int) (p2 : Bool) (p3 : List T814c.T) (p4 : Int) (p5 : T1383.T) : St := ⟨107, [(0, .cv (.one (.own 0))), (3, .cv (.one (.int .i64 p1))), (5, .cv (.one (.ptr 1 0))), (6, .cv (.one (.ptr 2 0))), (26, .cv (.one (.bool p2)))], [(.buf 49 T814c p3, []), (.box 1, [.int .i64 p4]), (.box 6, [.int .i64 p5.1.1, .int .i64 p5.1.2, .int .i64 p5.2.1, .int .i64 p5.2.2.1, .int .i64 p5.2.2.2.1, .int .i64 p5.2.2.2.2])]⟩
noncomputable def f_table_Put.s4 (p1 : Int) (p2 : Int) (p3 : List T814c.T) (p4 : Int) (p5 : T1383.T) : St := ⟨107, [(0, .cv (.one (.own 0))), (3, .cv (.one (.int .i64 p1))), (5, .cv (.one (.ptr 1 0))), (6, .cv (.one (.ptr 2 0))), (10, .cv (.one (.int .i64 p2)))], [(.buf 49 T814c p3, []), (.box 1, [.int .i64 p4]), (.box 6, [.int .i64 p5.1.1, .int .i64 p5.1.2, .int .i64 p5.2.1, .int .i64 p5.2.2.1, .int .i64 p5.2.2.2.1, .int .i64 p5.2.2.2.2])]⟩
noncomputable def f_table_Put.j4 (k : Nat) (p1 : Int) (p2 : Int) (p3 : List T814c.T) (p4 : Int) (p5 : T1383.T) : Option f_table_Put.R :=
  (f_table_Size.f k p3).bind fun y44 =>
  if (decide (y44.1 ≥ p1)) = true then
    some (p3, ((7 : Int), ()))
  else
    if (decide (p2 < (p3.length : Int))) = true then
      if 0 ≤ p2 then
        if p2 < (p3.length : Int) then
          if 0 ≤ (0 : Int) ∧ (0 : Int) ≤ (((att T814c p3 p2).2).length : Int) ∧ (((att T814c p3 p2).2).length : Int) ≤ (((att T814c p3 p2).2).length : Int) ∧ (((att T814c p3 p2).2).length : Int) = (((att T814c p3 p2).2).length : Int) then
            if (((((att T814c p3 p2).2).take (((att T814c p3 p2).2).length : Int).toNat).drop (0 : Int).toNat).length + 1) * 48 ≤ 140737488355328 then
              some ((p3.set p2.toNat ((att T814c p3 p2).1, (((((att T814c p3 p2).2).take (((att T814c p3 p2).2).length : Int).toNat).drop (0 : Int).toNat) ++ [p5]))), ((0 : Int), ()))
            else none
          else none
        else none
      else none
    else
      (i_table_first_Ver_bfb.f k p3 p4 p5).bind fun y52 =>
        if 0 ≤ y52.1 ∧ y52.1 ≤ (y52.2.1.length : Int) ∧ 1 = 1 ∧ (y52.2.1.length + 1) * 32 ≤ 140737488355328 ∧ (0 : Nat) ≠ 3 then
          some ((y52.2.1.take y52.1.toNat ++ [(y52.2.2.1, [y52.2.2.2.1])] ++ y52.2.1.drop y52.1.toNat), ((0 : Int), ()))
        else none
theorem f_table_Put.j4_ok (hV : EnvOk P f_table_Put.V) {r : f_table_Put.R} (k : Nat) (p1 : Int) (p2 : Int) (p3 : List T814c.T) (p4 : Int) (p5 : T1383.T) (H : f_table_Put.j4 k p1 p2 p3 p4 p5 = some r) : W P 0 (Code.r (Code.r (Code.r (Code.r (Code.r f_table_Put.c0))))) (f_table_Put.s4 p1 p2 p3 p4 p5) (f_table_Put.Q r) := by
  unfold f_table_Put.j4 at H
  refine D_seq (by kernel_rfl) ?_
  refine D_block (id := 0) (by kernel_rfl) ?_
  refine D_seq (by kernel_rfl) ?_
  obtain ⟨y44, e45, H⟩ := of_bind H
  refine D_reg (cs := [f_table_Size.S.rel (p3, ()) y44]) (τ := ⟨107, [(0, .cv (.one (.own 0))), (5, .cv (.one (.ptr 1 0))), (6, .cv (.one (.ptr 2 0))), (10, .cv (.one (.int .i64 p2))), (59, .cv (.one (.bool (decide (y44.1 ≥ p1)))))], [(.buf 49 T814c p3, []), (.box 1, [.int .i64 p4]), (.box 6, [.int .i64 p5.1.1, .int .i64 p5.1.2, .int .i64 p5.2.1, .int .i64 p5.2.2.1, .int .i64 p5.2.2.2.1, .int .i64 p5.2.2.2.2])]⟩) hV 0 [(1, {res := some ⟨f_table_Size.S.rs, y44⟩})] {live := [0, 5, 6, 10, 59], src := [some 0, some 1, some 2]} (by kernel_rfl) (by kernel_rfl) ⟨⟨k, e45⟩, trivial⟩ ?_
  refine th_n ?_
  refine D_condB (t := 59) (b := (decide (y44.1 ≥ p1))) (by kernel_rfl) (by kernel_rfl) (fun hb46 => ?_) (fun hb46 => ?_)
  · rw [if_pos hb46] at H
    refine D_seq (by kernel_rfl) ?_
    refine D_reg (cs := []) (τ := ⟨107, [(8, .cv (.one (.own 0))), (9, .cv (.one (.int .i64 7)))], [(.buf 49 T814c p3, [])]⟩) hV 0 [] {live := [8, 9], src := [some 0]} (by kernel_rfl) (by kernel_rfl) trivial ?_
    refine th_n ?_
    refine D_ret (by kernel_rfl) ?_
    refine bl_r ?_
    refine th_r ?_
    exact lf_r (Eq.trans (by kernel_rfl) H)
  · rw [if_neg (by rw [hb46]; decide)] at H
    refine D_seq (by kernel_rfl) ?_
    refine D_reg (cs := []) (τ := ⟨107, [(0, .cv (.one (.own 0))), (5, .cv (.one (.ptr 1 0))), (6, .cv (.one (.ptr 2 0))), (10, .cv (.one (.int .i64 p2))), (65, .cv (.one (.bool (decide (p2 < (p3.length : Int))))))], [(.buf 49 T814c p3, []), (.box 1, [.int .i64 p4]), (.box 6, [.int .i64 p5.1.1, .int .i64 p5.1.2, .int .i64 p5.2.1, .int .i64 p5.2.2.1, .int .i64 p5.2.2.2.1, .int .i64 p5.2.2.2.2])]⟩) hV 0 [] {live := [0, 5, 6, 10, 65], src := [some 0, some 1, some 2]} (by kernel_rfl) (by kernel_rfl) trivial ?_
    refine th_n ?_
    refine D_condB (t := 65) (b := (decide (p2 < (p3.length : Int)))) (by kernel_rfl) (by kernel_rfl) (fun hb47 => ?_) (fun hb47 => ?_)
    · rw [if_pos hb47] at H
      refine D_seq (by kernel_rfl) ?_
      obtain ⟨n48, H⟩ := of_if H
      obtain ⟨n49, H⟩ := of_if H
      obtain ⟨n50, H⟩ := of_if H
      obtain ⟨n51, H⟩ := of_if H
      refine D_reg (cs := [0 ≤ p2, p2 < (p3.length : Int), 0 ≤ p2, p2 < (p3.length : Int), 0 ≤ p2, p2 < (p3.length : Int), 0 ≤ (0 : Int) ∧ (0 : Int) ≤ (((att T814c p3 p2).2).length : Int) ∧ (((att T814c p3 p2).2).length : Int) ≤ (((att T814c p3 p2).2).length : Int) ∧ (((att T814c p3 p2).2).length : Int) = (((att T814c p3 p2).2).length : Int), (((((att T814c p3 p2).2).take (((att T814c p3 p2).2).length : Int).toNat).drop (0 : Int).toNat).length + 1) * 48 ≤ 140737488355328, 0 ≤ p2, p2 < (p3.length : Int)]) (τ := ⟨107, [(0, .cv (.one (.own 0)))], [(.buf 49 T814c (p3.set p2.toNat ((att T814c p3 p2).1, (((((att T814c p3 p2).2).take (((att T814c p3 p2).2).length : Int).toNat).drop (0 : Int).toNat) ++ [p5]))), [])]⟩) hV 0 [(22, {own := false})] {live := [0], src := [some 0]} (by kernel_rfl) (by kernel_rfl) ⟨n48, n49, n48, n49, n48, n49, n50, n51, n48, n49, trivial⟩ ?_
      refine th_n ?_
      refine D_seq (by kernel_rfl) ?_
      refine D_reg (cs := []) (τ := ⟨107, [(8, .cv (.one (.own 0))), (9, .cv (.one (.int .i64 0)))], [(.buf 49 T814c (p3.set p2.toNat ((att T814c p3 p2).1, (((((att T814c p3 p2).2).take (((att T814c p3 p2).2).length : Int).toNat).drop (0 : Int).toNat) ++ [p5]))), [])]⟩) hV 0 [] {live := [8, 9], src := [some 0]} (by kernel_rfl) (by kernel_rfl) trivial ?_
      refine th_n ?_
      refine D_ret (by kernel_rfl) ?_
      refine bl_r ?_
      refine th_r ?_
      exact lf_r (Eq.trans (by kernel_rfl) H)
    · rw [if_neg (by rw [hb47]; decide)] at H
      refine D_skip (by kernel_rfl) ?_
      refine bl_n ?_
      refine th_n ?_
      refine D_seq (by kernel_rfl) ?_
      refine D_regI [0, 1, 2, 3] (by kernel_rfl) (by kernel_rfl) ?_
      refine D_ev (cs := []) (τ := ⟨107, [(0, .cv (.one (.own 0))), (5, .cv (.one (.ptr 1 0))), (6, .cv (.one (.ptr 2 0))), (10, .cv (.one (.int .i64 p2))), (65, .cv (.one (.bool (decide (p2 < (p3.length : Int)))))), (96, .cv (.one (.own 0))), (97, .cv (.one (.fn 49 [] [(1, 0)])))], [(.buf 49 T814c p3, []), (.box 1, [.int .i64 p4]), (.box 6, [.int .i64 p5.1.1, .int .i64 p5.1.2, .int .i64 p5.2.1, .int .i64 p5.2.2.1, .int .i64 p5.2.2.2.1, .int .i64 p5.2.2.2.2])]⟩) hV 0 [] [0, 1] [2, 3] rfl (by kernel_rfl) trivial ?_
      obtain ⟨y52, e53, H⟩ := of_bind H
      refine D_call (f := 48) (N := 3) (cvs := [.one (.own 0), .one (.fn 49 [] [(1, 0)])]) (σ0 := i_table_first_Ver_bfb.s0 p3 p4 p5) (τ := i_table_first_Ver_bfb.out y52) (σ2 := ⟨107, [(0, .cv (.one (.own 0))), (5, .cv (.one (.ptr 1 0))), (6, .cv (.one (.ptr 2 0))), (10, .cv (.one (.int .i64 p2))), (65, .cv (.one (.bool (decide (p2 < (p3.length : Int)))))), (96, .cv (.one (.own 0))), (97, .cv (.one (.fn 49 [] [(1, 0)]))), (98, .cv (.one (.int .i64 y52.1)))], [(.buf 49 T814c y52.2.1, []), (.box 1, [.int .i64 y52.2.2.1]), (.box 6, [.int .i64 y52.2.2.2.1.1.1, .int .i64 y52.2.2.2.1.1.2, .int .i64 y52.2.2.2.1.2.1, .int .i64 y52.2.2.2.1.2.2.1, .int .i64 y52.2.2.2.1.2.2.2.1, .int .i64 y52.2.2.2.1.2.2.2.2])]⟩) hV 2 (by kernel_rfl) Go.Proofs.Try.func48 (by kernel_rfl) (by decide) (by kernel_rfl) (by kernel_rfl) (by kernel_rfl) (i_table_first_Ver_bfb.ok k p3 p4 p5 e53) (by kernel_rfl) ?_
      refine D_ev (cs := []) (τ := ⟨107, [(0, .cv (.one (.own 0))), (5, .cv (.one (.ptr 1 0))), (6, .cv (.one (.ptr 2 0))), (10, .cv (.one (.int .i64 p2))), (13, .cv (.one (.int .i64 y52.1))), (65, .cv (.one (.bool (decide (p2 < (p3.length : Int)))))), (96, .cv (.one (.own 0))), (97, .cv (.one (.fn 49 [] [(1, 0)]))), (98, .cv (.one (.int .i64 y52.1)))], [(.buf 49 T814c y52.2.1, []), (.box 1, [.int .i64 y52.2.2.1]), (.box 6, [.int .i64 y52.2.2.2.1.1.1, .int .i64 y52.2.2.2.1.1.2, .int .i64 y52.2.2.2.1.2.1, .int .i64 y52.2.2.2.1.2.2.1, .int .i64 y52.2.2.2.1.2.2.2.1, .int .i64 y52.2.2.2.1.2.2.2.2])]⟩) hV 0 [] [3] [] rfl (by kernel_rfl) trivial ?_
      refine WO_tell (τ := ⟨107, [(0, .cv (.one (.own 0))), (5, .cv (.one (.ptr 1 0))), (6, .cv (.one (.ptr 2 0))), (13, .cv (.one (.int .i64 y52.1)))], [(.buf 49 T814c y52.2.1, []), (.box 1, [.int .i64 y52.2.2.1]), (.box 6, [.int .i64 y52.2.2.2.1.1.1, .int .i64 y52.2.2.2.1.1.2, .int .i64 y52.2.2.2.1.2.1, .int .i64 y52.2.2.2.1.2.2.1, .int .i64 y52.2.2.2.1.2.2.2.1, .int .i64 y52.2.2.2.1.2.2.2.2])]⟩) {live := [0, 5, 6, 13], src := [some 0, some 1, some 2]} (by kernel_rfl) (by kernel_rfl) ?_
      refine WO_nil ?_
      refine th_n ?_
      refine D_seq (by kernel_rfl) ?_
      obtain ⟨n54, H⟩ := of_if H
      refine D_reg (cs := [0 ≤ y52.1 ∧ y52.1 ≤ (y52.2.1.length : Int) ∧ 1 = 1 ∧ (y52.2.1.length + 1) * 32 ≤ 140737488355328 ∧ (0 : Nat) ≠ 3]) (τ := ⟨107, [(8, .cv (.one (.own 0))), (9, .cv (.one (.int .i64 0)))], [(.buf 49 T814c (y52.2.1.take y52.1.toNat ++ [(y52.2.2.1, [y52.2.2.2.1])] ++ y52.2.1.drop y52.1.toNat), [])]⟩) hV 2 [(6, {sb := 3, bo := true}), (7, {sb := 4, ph := {sb := 4}})] {live := [8, 9], src := [some 4]} (by kernel_rfl) (by kernel_rfl) ⟨n54, trivial⟩ ?_
      refine th_n ?_
      refine D_ret (by kernel_rfl) ?_
      exact lf_r (Eq.trans (by kernel_rfl) H)
noncomputable def f_table_Put.j3 (k : Nat) (p1 : Int) (p2 : Bool) (p3 : List T814c.T) (p4 : Int) (p5 : T1383.T) : Option f_table_Put.R :=
  if p2 = true then
  some (p3, ((1 : Int), ()))
else
  (f_table_at.f k p3 p4).bind fun y36 =>
    if (decide (y36.1 < (p3.length : Int))) = true then
      if 0 ≤ y36.1 then
        if y36.1 < (p3.length : Int) then
          (i_table_first_Rule_5a0.f k ((att T814c p3 y36.1).2) p3 p4 p5).bind fun y41 =>
            if (decide (y41.1 < (((att T814c y41.2.1 y36.1).2).length : Int))) = true then
              none
            else
              f_table_Put.j4 k p1 y36.1 y41.2.1 y41.2.2.1 y41.2.2.2.1
        else none
      else none
    else
      f_table_Put.j4 k p1 y36.1 p3 p4 p5
theorem f_table_Put.j3_ok (hV : EnvOk P f_table_Put.V) {r : f_table_Put.R} (k : Nat) (p1 : Int) (p2 : Bool) (p3 : List T814c.T) (p4 : Int) (p5 : T1383.T) (H : f_table_Put.j3 k p1 p2 p3 p4 p5 = some r) : W P 0 (Code.r (Code.l (Code.r (Code.r f_table_Put.c0)))) (f_table_Put.s3 p1 p2 p3 p4 p5) (thenW P 0 (Code.r (Code.r (Code.r f_table_Put.c0))) (f_table_Put.Q r)) := by
  unfold f_table_Put.j3 at H
  refine D_condB (t := 26) (b := p2) (by kernel_rfl) (by kernel_rfl) (fun hb35 => ?_) (fun hb35 => ?_)
  · rw [if_pos hb35] at H
    refine D_seq (by kernel_rfl) ?_
    refine D_reg (cs := []) (τ := ⟨107, [(8, .cv (.one (.own 0))), (9, .cv (.one (.int .i64 1)))], [(.buf 49 T814c p3, [])]⟩) hV 0 [] {live := [8, 9], src := [some 0]} (by kernel_rfl) (by kernel_rfl) trivial ?_
    refine th_n ?_
    refine D_ret (by kernel_rfl) ?_
    refine th_r ?_
    exact lf_r (Eq.trans (by kernel_rfl) H)
  · rw [if_neg (by rw [hb35]; decide)] at H
    refine D_skip (by kernel_rfl) ?_
    refine th_n ?_
    refine D_seq (by kernel_rfl) ?_
    obtain ⟨y36, e37, H⟩ := of_bind H
    refine D_reg (cs := [f_table_at.S.rel (p3, p4, ()) y36]) (τ := ⟨107, [(0, .cv (.one (.own 0))), (3, .cv (.one (.int .i64 p1))), (5, .cv (.one (.ptr 1 0))), (6, .cv (.one (.ptr 2 0))), (10, .cv (.one (.int .i64 y36.1)))], [(.buf 49 T814c p3, []), (.box 1, [.int .i64 p4]), (.box 6, [.int .i64 p5.1.1, .int .i64 p5.1.2, .int .i64 p5.2.1, .int .i64 p5.2.2.1, .int .i64 p5.2.2.2.1, .int .i64 p5.2.2.2.2])]⟩) hV 0 [(2, {res := some ⟨f_table_at.S.rs, y36⟩})] {live := [0, 3, 5, 6, 10], src := [some 0, some 1, some 2]} (by kernel_rfl) (by kernel_rfl) ⟨⟨k, e37⟩, trivial⟩ ?_
    refine th_n ?_
    refine D_seq (by kernel_rfl) ?_
    refine D_seq (by kernel_rfl) ?_
    refine D_reg (cs := []) (τ := ⟨107, [(0, .cv (.one (.own 0))), (3, .cv (.one (.int .i64 p1))), (5, .cv (.one (.ptr 1 0))), (6, .cv (.one (.ptr 2 0))), (10, .cv (.one (.int .i64 y36.1))), (34, .cv (.one (.bool (decide (y36.1 < (p3.length : Int))))))], [(.buf 49 T814c p3, []), (.box 1, [.int .i64 p4]), (.box 6, [.int .i64 p5.1.1, .int .i64 p5.1.2, .int .i64 p5.2.1, .int .i64 p5.2.2.1, .int .i64 p5.2.2.2.1, .int .i64 p5.2.2.2.2])]⟩) hV 0 [] {live := [0, 3, 5, 6, 10, 34], src := [some 0, some 1, some 2]} (by kernel_rfl) (by kernel_rfl) trivial ?_
    refine th_n ?_
    refine D_condB (t := 34) (b := (decide (y36.1 < (p3.length : Int)))) (by kernel_rfl) (by kernel_rfl) (fun hb38 => ?_) (fun hb38 => ?_)
    · rw [if_pos hb38] at H
      refine D_seq (by kernel_rfl) ?_
      obtain ⟨n39, H⟩ := of_if H
      obtain ⟨n40, H⟩ := of_if H
      refine D_reg (cs := [0 ≤ y36.1, y36.1 < (p3.length : Int)]) (τ := ⟨107, [(0, .cv (.one (.own 0))), (3, .cv (.one (.int .i64 p1))), (5, .cv (.one (.ptr 1 0))), (6, .cv (.one (.ptr 2 0))), (10, .cv (.one (.int .i64 y36.1))), (11, .cv (.one (.eptr 0 T814c y36.1 0)))], [(.buf 49 T814c p3, []), (.box 1, [.int .i64 p4]), (.box 6, [.int .i64 p5.1.1, .int .i64 p5.1.2, .int .i64 p5.2.1, .int .i64 p5.2.2.1, .int .i64 p5.2.2.2.1, .int .i64 p5.2.2.2.2])]⟩) hV 0 [] {live := [0, 3, 5, 6, 10, 11], src := [some 0, some 1, some 2]} (by kernel_rfl) (by kernel_rfl) ⟨n39, n40, trivial⟩ ?_
      refine th_n ?_
      refine D_seq (by kernel_rfl) ?_
      refine D_regI [0, 1, 2, 3, 4, 5, 6] (by kernel_rfl) (by kernel_rfl) ?_
      refine D_ev (cs := []) (τ := ⟨107, [(0, .cv (.one (.own 0))), (3, .cv (.one (.int .i64 p1))), (5, .cv (.one (.ptr 1 0))), (6, .cv (.one (.ptr 2 0))), (10, .cv (.one (.int .i64 y36.1))), (11, .cv (.one (.eptr 0 T814c y36.1 0))), (38, .cv (.one (.eptr 0 T814c y36.1 0))), (39, .cv (.one (.eptr 0 T814c y36.1 0))), (40, .cv (.one (.eptr 0 T814c y36.1 1))), (41, .cv (.one (.sl T1383 ((att T814c p3 y36.1).2) .any))), (42, .cv (.one (.fn 46 [] [(2, 0)])))], [(.buf 49 T814c p3, []), (.box 1, [.int .i64 p4]), (.box 6, [.int .i64 p5.1.1, .int .i64 p5.1.2, .int .i64 p5.2.1, .int .i64 p5.2.2.1, .int .i64 p5.2.2.2.1, .int .i64 p5.2.2.2.2])]⟩) hV 0 [] [0, 1, 2, 3, 4] [5, 6] rfl (by kernel_rfl) trivial ?_
      obtain ⟨y41, e42, H⟩ := of_bind H
      refine D_call (f := 45) (N := 3) (cvs := [.one (.sl T1383 ((att T814c p3 y36.1).2) .any), .one (.fn 46 [] [(2, 0)])]) (σ0 := i_table_first_Rule_5a0.s0 ((att T814c p3 y36.1).2) p3 p4 p5) (τ := i_table_first_Rule_5a0.out y41) (σ2 := ⟨107, [(0, .cv (.one (.own 0))), (3, .cv (.one (.int .i64 p1))), (5, .cv (.one (.ptr 1 0))), (6, .cv (.one (.ptr 2 0))), (10, .cv (.one (.int .i64 y36.1))), (11, .cv (.one (.eptr 0 T814c y36.1 0))), (38, .cv (.one (.eptr 0 T814c y36.1 0))), (39, .cv (.one (.eptr 0 T814c y36.1 0))), (40, .cv (.one (.eptr 0 T814c y36.1 1))), (41, .cv (.one (.sl T1383 ((att T814c p3 y36.1).2) .any))), (42, .cv (.one (.fn 46 [] [(2, 0)]))), (43, .cv (.one (.int .i64 y41.1)))], [(.buf 49 T814c y41.2.1, []), (.box 1, [.int .i64 y41.2.2.1]), (.box 6, [.int .i64 y41.2.2.2.1.1.1, .int .i64 y41.2.2.2.1.1.2, .int .i64 y41.2.2.2.1.2.1, .int .i64 y41.2.2.2.1.2.2.1, .int .i64 y41.2.2.2.1.2.2.2.1, .int .i64 y41.2.2.2.1.2.2.2.2])]⟩) hV 5 (by kernel_rfl) Go.Proofs.Try.func45 (by kernel_rfl) (by decide) (by kernel_rfl) (by kernel_rfl) (by kernel_rfl) (i_table_first_Rule_5a0.ok k ((att T814c p3 y36.1).2) p3 p4 p5 e42) (by kernel_rfl) ?_
      refine D_ev (cs := []) (τ := ⟨107, [(0, .cv (.one (.own 0))), (3, .cv (.one (.int .i64 p1))), (5, .cv (.one (.ptr 1 0))), (6, .cv (.one (.ptr 2 0))), (10, .cv (.one (.int .i64 y36.1))), (11, .cv (.one (.eptr 0 T814c y36.1 0))), (12, .cv (.one (.int .i64 y41.1))), (38, .cv (.one (.eptr 0 T814c y36.1 0))), (39, .cv (.one (.eptr 0 T814c y36.1 0))), (40, .cv (.one (.eptr 0 T814c y36.1 1))), (41, .cv (.one (.sl T1383 ((att T814c p3 y36.1).2) .any))), (42, .cv (.one (.fn 46 [] [(2, 0)]))), (43, .cv (.one (.int .i64 y41.1)))], [(.buf 49 T814c y41.2.1, []), (.box 1, [.int .i64 y41.2.2.1]), (.box 6, [.int .i64 y41.2.2.2.1.1.1, .int .i64 y41.2.2.2.1.1.2, .int .i64 y41.2.2.2.1.2.1, .int .i64 y41.2.2.2.1.2.2.1, .int .i64 y41.2.2.2.1.2.2.2.1, .int .i64 y41.2.2.2.1.2.2.2.2])]⟩) hV 0 [] [6] [] rfl (by kernel_rfl) trivial ?_
      refine WO_tell (τ := ⟨107, [(0, .cv (.one (.own 0))), (3, .cv (.one (.int .i64 p1))), (5, .cv (.one (.ptr 1 0))), (6, .cv (.one (.ptr 2 0))), (10, .cv (.one (.int .i64 y36.1))), (11, .cv (.one (.eptr 0 T814c y36.1 0))), (12, .cv (.one (.int .i64 y41.1)))], [(.buf 49 T814c y41.2.1, []), (.box 1, [.int .i64 y41.2.2.1]), (.box 6, [.int .i64 y41.2.2.2.1.1.1, .int .i64 y41.2.2.2.1.1.2, .int .i64 y41.2.2.2.1.2.1, .int .i64 y41.2.2.2.1.2.2.1, .int .i64 y41.2.2.2.1.2.2.2.1, .int .i64 y41.2.2.2.1.2.2.2.2])]⟩) {live := [0, 3, 5, 6, 10, 11, 12], src := [some 0, some 1, some 2]} (by kernel_rfl) (by kernel_rfl) ?_
      refine WO_nil ?_
      refine th_n ?_
      refine D_seq (by kernel_rfl) ?_
      refine D_reg (cs := []) (τ := ⟨107, [(0, .cv (.one (.own 0))), (3, .cv (.one (.int .i64 p1))), (5, .cv (.one (.ptr 1 0))), (6, .cv (.one (.ptr 2 0))), (10, .cv (.one (.int .i64 y36.1))), (11, .cv (.one (.eptr 0 T814c y36.1 0))), (12, .cv (.one (.int .i64 y41.1))), (50, .cv (.one (.bool (decide (y41.1 < (((att T814c y41.2.1 y36.1).2).length : Int))))))], [(.buf 49 T814c y41.2.1, []), (.box 1, [.int .i64 y41.2.2.1]), (.box 6, [.int .i64 y41.2.2.2.1.1.1, .int .i64 y41.2.2.2.1.1.2, .int .i64 y41.2.2.2.1.2.1, .int .i64 y41.2.2.2.1.2.2.1, .int .i64 y41.2.2.2.1.2.2.2.1, .int .i64 y41.2.2.2.1.2.2.2.2])]⟩) hV 0 [] {live := [0, 3, 5, 6, 10, 11, 12, 50], src := [some 0, some 1, some 2]} (by kernel_rfl) (by kernel_rfl) trivial ?_
      refine th_n ?_
      refine D_condB (t := 50) (b := (decide (y41.1 < (((att T814c y41.2.1 y36.1).2).length : Int)))) (by kernel_rfl) (by kernel_rfl) (fun hb43 => ?_) (fun hb43 => ?_)
      · rw [if_pos hb43] at H
        cases H
      · rw [if_neg (by rw [hb43]; decide)] at H
        refine D_skip (by kernel_rfl) ?_
        refine th_n ?_
        refine W_tell (τ := f_table_Put.s4 p1 y36.1 y41.2.1 y41.2.2.1 y41.2.2.2.1) {fz := [], gr := 0, ad := [], live := [0, 3, 5, 6, 10], src := [some 0, some 1, some 2]} (by kernel_rfl) (by kernel_rfl) ?_
        exact f_table_Put.j4_ok hV k p1 y36.1 y41.2.1 y41.2.2.1 y41.2.2.2.1 H
    · rw [if_neg (by rw [hb38]; decide)] at H
      refine D_skip (by kernel_rfl) ?_
      refine th_n ?_
      refine W_tell (τ := f_table_Put.s4 p1 y36.1 p3 p4 p5) {fz := [], gr := 0, ad := [], live := [0, 3, 5, 6, 10], src := [some 0, some 1, some 2]} (by kernel_rfl) (by kernel_rfl) ?_
      exact f_table_Put.j4_ok hV k p1 y36.1 p3 p4 p5 H
noncomputable def f_table_Put.f (k : Nat) (a1 : List T814c.T) (a2 : Int) (a3 : T1383.T) (a4 : Int) : Option f_table_Put.R :=
  (f_table_at.f k a1 a2).bind fun y1 =>
    if 0 ≤ y1.1 ∧ y1.1.toNat < a1.length then
      if y1.1.toNat < a1.length ∧ lnkFit 32 48 a1 = true then
        (f_rule_May.f k a3).bind fun y5 =>
          if (!y5.1) = true then
            f_table_Put.j1 k a4 true a1 y1.1.toNat a2 a3 ((att T814c a1 (y1.1.toNat : Int)).2)
          else
            if (decide (a2 < (1 : Int))) = true then
              f_table_Put.j1 k a4 true a1 y1.1.toNat a2 a3 ((att T814c a1 (y1.1.toNat : Int)).2)
            else
              f_table_Put.j1 k a4 (decide (a2 > (4095 : Int))) a1 y1.1.toNat a2 a3 ((att T814c a1 (y1.1.toNat : Int)).2)
      else none
    else
      (i_table_own_6f4.f k a1 a2 a3).bind fun y30 =>
        (f_rule_May.f k y30.2.1).bind fun y32 =>
          if (!y32.1) = true then
            f_table_Put.j3 k a4 true y30.2.2.1 y30.1 y30.2.1
          else
            if (decide (y30.1 < (1 : Int))) = true then
              f_table_Put.j3 k a4 true y30.2.2.1 y30.1 y30.2.1
            else
              f_table_Put.j3 k a4 (decide (y30.1 > (4095 : Int))) y30.2.2.1 y30.1 y30.2.1
noncomputable def f_table_Put.S : Spec := ⟨f_table_Put.ps, f_table_Put.rs, .any, none, fun x r => ∃ k, f_table_Put.f k x.1 x.2.1 x.2.2.1 x.2.2.2.1 = some r⟩
theorem f_table_Put.f_ok (hV : EnvOk P f_table_Put.V) {r : f_table_Put.R} (k : Nat) (a1 : List T814c.T) (a2 : Int) (a3 : T1383.T) (a4 : Int) (H : f_table_Put.f k a1 a2 a3 a4 = some r) : W P 0 f_table_Put.c0 (⟨107, [(0, .cv (.one (.sl T814c a1 .any))), (1, .cv (.one (.int .i64 a2))), (2, .cv (.agg [.int .i64 a3.1.1, .int .i64 a3.1.2, .int .i64 a3.2.1, .int .i64 a3.2.2.1, .int .i64 a3.2.2.2.1, .int .i64 a3.2.2.2.2])), (3, .cv (.one (.int .i64 a4)))], []⟩) (f_table_Put.Q r) := by
  unfold f_table_Put.f at H
  obtain ⟨y1, e2, H⟩ := of_bind H
  rcases of_ifx H with ⟨hb3, H⟩ | ⟨hb3, H⟩
  · refine D_seq (by kernel_rfl) ?_
    refine D_reg (cs := []) (τ := ⟨107, [(0, .cv (.one (.sl T814c a1 .any))), (3, .cv (.one (.int .i64 a4))), (5, .cv (.one (.ptr 0 0))), (6, .cv (.one (.ptr 1 0)))], [(.box 1, [.int .i64 a2]), (.box 6, [.int .i64 a3.1.1, .int .i64 a3.1.2, .int .i64 a3.2.1, .int .i64 a3.2.2.1, .int .i64 a3.2.2.2.1, .int .i64 a3.2.2.2.2])]⟩) hV 2 [(0, {sb := 0}), (1, {sb := 1})] {live := [0, 3, 5, 6], src := [some 0, some 1]} (by kernel_rfl) (by kernel_rfl) trivial ?_
    refine th_n ?_
    refine D_seq (by kernel_rfl) ?_
    obtain ⟨n4, H⟩ := of_if H
    refine D_reg (cs := [y1.1.toNat < a1.length ∧ lnkFit 32 48 a1 = true]) (τ := ⟨107, [(0, .cv (.one (.own 0))), (3, .cv (.one (.int .i64 a4))), (5, .cv (.one (.ptr 1 0))), (6, .cv (.one (.ptr 2 0)))], [(.lnk 49 (.int .i64) T1383 a1 3 y1.1.toNat, []), (.box 1, [.int .i64 a2]), (.box 6, [.int .i64 a3.1.1, .int .i64 a3.1.2, .int .i64 a3.2.1, .int .i64 a3.2.2.1, .int .i64 a3.2.2.2.1, .int .i64 a3.2.2.2.2]), (.buf 39 T1383 ((att T814c a1 (y1.1.toNat : Int)).2), [])]⟩) hV 2 [(1, {ph := {sb := 2, sb2 := 3, i := y1.1.toNat}})] {live := [0, 3, 5, 6], src := [some 2, some 0, some 1, some 3]} (by kernel_rfl) (by kernel_rfl) ⟨n4, trivial⟩ ?_
    refine th_n ?_
    refine D_seq (by kernel_rfl) ?_
    refine D_seq (by kernel_rfl) ?_
    obtain ⟨y5, e6, H⟩ := of_bind H
    rcases of_ite H with ⟨hb7, H⟩ | ⟨hb7, H⟩
    · refine D_reg (cs := [f_rule_May.S.rel (a3, ()) y5, ((!y5.1)) = true]) (τ := ⟨107, [(0, .cv (.one (.own 0))), (3, .cv (.one (.int .i64 a4))), (5, .cv (.one (.ptr 1 0))), (6, .cv (.one (.ptr 2 0))), (26, .cv (.one (.bool true)))], [(.lnk 49 (.int .i64) T1383 a1 3 y1.1.toNat, []), (.box 1, [.int .i64 a2]), (.box 6, [.int .i64 a3.1.1, .int .i64 a3.1.2, .int .i64 a3.2.1, .int .i64 a3.2.2.1, .int .i64 a3.2.2.2.1, .int .i64 a3.2.2.2.2]), (.buf 39 T1383 ((att T814c a1 (y1.1.toNat : Int)).2), [])]⟩) hV 0 [(1, {res := some ⟨f_rule_May.S.rs, y5⟩}), (2, {bv := some true})] {live := [0, 3, 5, 6, 26], src := [some 0, some 1, some 2, some 3]} (by kernel_rfl) (by kernel_rfl) ⟨⟨k, e6⟩, hb7, trivial⟩ ?_
      refine th_n ?_
      refine W_tell (τ := f_table_Put.s1 a4 true a1 y1.1.toNat a2 a3 ((att T814c a1 (y1.1.toNat : Int)).2)) {fz := [], gr := 0, ad := [], live := [0, 3, 5, 6, 26], src := [some 0, some 1, some 2, some 3]} (by kernel_rfl) (by kernel_rfl) ?_
      exact f_table_Put.j1_ok hV k a4 true a1 y1.1.toNat a2 a3 ((att T814c a1 (y1.1.toNat : Int)).2) H
    · rcases of_ite H with ⟨hb29, H⟩ | ⟨hb29, H⟩
      · refine D_reg (cs := [f_rule_May.S.rel (a3, ()) y5, ((!y5.1)) = false, ((decide (a2 < (1 : Int)))) = true]) (τ := ⟨107, [(0, .cv (.one (.own 0))), (3, .cv (.one (.int .i64 a4))), (5, .cv (.one (.ptr 1 0))), (6, .cv (.one (.ptr 2 0))), (26, .cv (.one (.bool true)))], [(.lnk 49 (.int .i64) T1383 a1 3 y1.1.toNat, []), (.box 1, [.int .i64 a2]), (.box 6, [.int .i64 a3.1.1, .int .i64 a3.1.2, .int .i64 a3.2.1, .int .i64 a3.2.2.1, .int .i64 a3.2.2.2.1, .int .i64 a3.2.2.2.2]), (.buf 39 T1383 ((att T814c a1 (y1.1.toNat : Int)).2), [])]⟩) hV 0 [(1, {res := some ⟨f_rule_May.S.rs, y5⟩}), (2, {bv := some false}), (6, {bv := some true})] {live := [0, 3, 5, 6, 26], src := [some 0, some 1, some 2, some 3]} (by kernel_rfl) (by kernel_rfl) ⟨⟨k, e6⟩, hb7, hb29, trivial⟩ ?_
        refine th_n ?_
        refine W_tell (τ := f_table_Put.s1 a4 true a1 y1.1.toNat a2 a3 ((att T814c a1 (y1.1.toNat : Int)).2)) {fz := [], gr := 0, ad := [], live := [0, 3, 5, 6, 26], src := [some 0, some 1, some 2, some 3]} (by kernel_rfl) (by kernel_rfl) ?_
        exact f_table_Put.j1_ok hV k a4 true a1 y1.1.toNat a2 a3 ((att T814c a1 (y1.1.toNat : Int)).2) H
      · refine D_reg (cs := [f_rule_May.S.rel (a3, ()) y5, ((!y5.1)) = false, ((decide (a2 < (1 : Int)))) = false]) (τ := ⟨107, [(0, .cv (.one (.own 0))), (3, .cv (.one (.int .i64 a4))), (5, .cv (.one (.ptr 1 0))), (6, .cv (.one (.ptr 2 0))), (26, .cv (.one (.bool (decide (a2 > (4095 : Int))))))], [(.lnk 49 (.int .i64) T1383 a1 3 y1.1.toNat, []), (.box 1, [.int .i64 a2]), (.box 6, [.int .i64 a3.1.1, .int .i64 a3.1.2, .int .i64 a3.2.1, .int .i64 a3.2.2.1, .int .i64 a3.2.2.2.1, .int .i64 a3.2.2.2.2]), (.buf 39 T1383 ((att T814c a1 (y1.1.toNat : Int)).2), [])]⟩) hV 0 [(1, {res := some ⟨f_rule_May.S.rs, y5⟩}), (2, {bv := some false}), (6, {bv := some false})] {live := [0, 3, 5, 6, 26], src := [some 0, some 1, some 2, some 3]} (by kernel_rfl) (by kernel_rfl) ⟨⟨k, e6⟩, hb7, hb29, trivial⟩ ?_
        refine th_n ?_
        refine W_tell (τ := f_table_Put.s1 a4 (decide (a2 > (4095 : Int))) a1 y1.1.toNat a2 a3 ((att T814c a1 (y1.1.toNat : Int)).2)) {fz := [], gr := 0, ad := [], live := [0, 3, 5, 6, 26], src := [some 0, some 1, some 2, some 3]} (by kernel_rfl) (by kernel_rfl) ?_
        exact f_table_Put.j1_ok hV k a4 (decide (a2 > (4095 : Int))) a1 y1.1.toNat a2 a3 ((att T814c a1 (y1.1.toNat : Int)).2) H
  · refine D_seq (by kernel_rfl) ?_
    refine D_reg (cs := []) (τ := ⟨107, [(0, .cv (.one (.sl T814c a1 .any))), (3, .cv (.one (.int .i64 a4))), (5, .cv (.one (.ptr 0 0))), (6, .cv (.one (.ptr 1 0)))], [(.box 1, [.int .i64 a2]), (.box 6, [.int .i64 a3.1.1, .int .i64 a3.1.2, .int .i64 a3.2.1, .int .i64 a3.2.2.1, .int .i64 a3.2.2.2.1, .int .i64 a3.2.2.2.2])]⟩) hV 2 [(0, {sb := 0}), (1, {sb := 1})] {live := [0, 3, 5, 6], src := [some 0, some 1]} (by kernel_rfl) (by kernel_rfl) trivial ?_
    refine th_n ?_
    refine D_seq (by kernel_rfl) ?_
    refine D_regI [0, 1, 2] (by kernel_rfl) (by kernel_rfl) ?_
    refine D_ev (cs := []) (τ := ⟨107, [(0, .cv (.one (.sl T814c a1 .any))), (3, .cv (.one (.int .i64 a4))), (5, .cv (.one (.ptr 0 0))), (6, .cv (.one (.ptr 1 0))), (14, .cv (.one (.sl T814c a1 .any)))], [(.box 1, [.int .i64 a2]), (.box 6, [.int .i64 a3.1.1, .int .i64 a3.1.2, .int .i64 a3.2.1, .int .i64 a3.2.2.1, .int .i64 a3.2.2.2.1, .int .i64 a3.2.2.2.2])]⟩) hV 0 [] [0] [1, 2] rfl (by kernel_rfl) trivial ?_
    obtain ⟨y30, e31, H⟩ := of_bind H
    refine D_call (f := 44) (N := 2) (cvs := [.one (.sl T814c a1 .any)]) (σ0 := i_table_own_6f4.s0 a1 a2 a3) (τ := i_table_own_6f4.out y30) (σ2 := ⟨107, [(0, .cv (.one (.sl T814c a1 .any))), (3, .cv (.one (.int .i64 a4))), (5, .cv (.one (.ptr 0 0))), (6, .cv (.one (.ptr 1 0))), (14, .cv (.one (.sl T814c a1 .any))), (15, .cv (.one (.own 2)))], [(.box 1, [.int .i64 y30.1]), (.box 6, [.int .i64 y30.2.1.1.1, .int .i64 y30.2.1.1.2, .int .i64 y30.2.1.2.1, .int .i64 y30.2.1.2.2.1, .int .i64 y30.2.1.2.2.2.1, .int .i64 y30.2.1.2.2.2.2]), (.buf 49 T814c y30.2.2.1, [])]⟩) hV 1 (by kernel_rfl) Go.Proofs.Try.func44 (by kernel_rfl) (by decide) (by kernel_rfl) (by kernel_rfl) (by kernel_rfl) (i_table_own_6f4.ok k a1 a2 a3 e31) (by kernel_rfl) ?_
    refine D_ev (cs := []) (τ := ⟨107, [(0, .cv (.one (.own 2))), (3, .cv (.one (.int .i64 a4))), (5, .cv (.one (.ptr 0 0))), (6, .cv (.one (.ptr 1 0))), (14, .cv (.one (.sl T814c a1 .any))), (15, .cv (.one (.own 2)))], [(.box 1, [.int .i64 y30.1]), (.box 6, [.int .i64 y30.2.1.1.1, .int .i64 y30.2.1.1.2, .int .i64 y30.2.1.2.1, .int .i64 y30.2.1.2.2.1, .int .i64 y30.2.1.2.2.2.1, .int .i64 y30.2.1.2.2.2.2]), (.buf 49 T814c y30.2.2.1, [])]⟩) hV 0 [] [2] [] rfl (by kernel_rfl) trivial ?_
    refine WO_tell (τ := ⟨107, [(0, .cv (.one (.own 0))), (3, .cv (.one (.int .i64 a4))), (5, .cv (.one (.ptr 1 0))), (6, .cv (.one (.ptr 2 0)))], [(.buf 49 T814c y30.2.2.1, []), (.box 1, [.int .i64 y30.1]), (.box 6, [.int .i64 y30.2.1.1.1, .int .i64 y30.2.1.1.2, .int .i64 y30.2.1.2.1, .int .i64 y30.2.1.2.2.1, .int .i64 y30.2.1.2.2.2.1, .int .i64 y30.2.1.2.2.2.2])]⟩) {live := [0, 3, 5, 6], src := [some 2, some 0, some 1]} (by kernel_rfl) (by kernel_rfl) ?_
    refine WO_nil ?_
    refine th_n ?_
    refine D_seq (by kernel_rfl) ?_
    refine D_seq (by kernel_rfl) ?_
    obtain ⟨y32, e33, H⟩ := of_bind H
    rcases of_ite H with ⟨hb34, H⟩ | ⟨hb34, H⟩
    · refine D_reg (cs := [f_rule_May.S.rel (y30.2.1, ()) y32, ((!y32.1)) = true]) (τ := ⟨107, [(0, .cv (.one (.own 0))), (3, .cv (.one (.int .i64 a4))), (5, .cv (.one (.ptr 1 0))), (6, .cv (.one (.ptr 2 0))), (26, .cv (.one (.bool true)))], [(.buf 49 T814c y30.2.2.1, []), (.box 1, [.int .i64 y30.1]), (.box 6, [.int .i64 y30.2.1.1.1, .int .i64 y30.2.1.1.2, .int .i64 y30.2.1.2.1, .int .i64 y30.2.1.2.2.1, .int .i64 y30.2.1.2.2.2.1, .int .i64 y30.2.1.2.2.2.2])]⟩) hV 0 [(1, {res := some ⟨f_rule_May.S.rs, y32⟩}), (2, {bv := some true})] {live := [0, 3, 5, 6, 26], src := [some 0, some 1, some 2]} (by kernel_rfl) (by kernel_rfl) ⟨⟨k, e33⟩, hb34, trivial⟩ ?_
      refine th_n ?_
      refine W_tell (τ := f_table_Put.s3 a4 true y30.2.2.1 y30.1 y30.2.1) {fz := [], gr := 0, ad := [], live := [0, 3, 5, 6, 26], src := [some 0, some 1, some 2]} (by kernel_rfl) (by kernel_rfl) ?_
      exact f_table_Put.j3_ok hV k a4 true y30.2.2.1 y30.1 y30.2.1 H
    · rcases of_ite H with ⟨hb55, H⟩ | ⟨hb55, H⟩
      · refine D_reg (cs := [f_rule_May.S.rel (y30.2.1, ()) y32, ((!y32.1)) = false, ((decide (y30.1 < (1 : Int)))) = true]) (τ := ⟨107, [(0, .cv (.one (.own 0))), (3, .cv (.one (.int .i64 a4))), (5, .cv (.one (.ptr 1 0))), (6, .cv (.one (.ptr 2 0))), (26, .cv (.one (.bool true)))], [(.buf 49 T814c y30.2.2.1, []), (.box 1, [.int .i64 y30.1]), (.box 6, [.int .i64 y30.2.1.1.1, .int .i64 y30.2.1.1.2, .int .i64 y30.2.1.2.1, .int .i64 y30.2.1.2.2.1, .int .i64 y30.2.1.2.2.2.1, .int .i64 y30.2.1.2.2.2.2])]⟩) hV 0 [(1, {res := some ⟨f_rule_May.S.rs, y32⟩}), (2, {bv := some false}), (6, {bv := some true})] {live := [0, 3, 5, 6, 26], src := [some 0, some 1, some 2]} (by kernel_rfl) (by kernel_rfl) ⟨⟨k, e33⟩, hb34, hb55, trivial⟩ ?_
        refine th_n ?_
        refine W_tell (τ := f_table_Put.s3 a4 true y30.2.2.1 y30.1 y30.2.1) {fz := [], gr := 0, ad := [], live := [0, 3, 5, 6, 26], src := [some 0, some 1, some 2]} (by kernel_rfl) (by kernel_rfl) ?_
        exact f_table_Put.j3_ok hV k a4 true y30.2.2.1 y30.1 y30.2.1 H
      · refine D_reg (cs := [f_rule_May.S.rel (y30.2.1, ()) y32, ((!y32.1)) = false, ((decide (y30.1 < (1 : Int)))) = false]) (τ := ⟨107, [(0, .cv (.one (.own 0))), (3, .cv (.one (.int .i64 a4))), (5, .cv (.one (.ptr 1 0))), (6, .cv (.one (.ptr 2 0))), (26, .cv (.one (.bool (decide (y30.1 > (4095 : Int))))))], [(.buf 49 T814c y30.2.2.1, []), (.box 1, [.int .i64 y30.1]), (.box 6, [.int .i64 y30.2.1.1.1, .int .i64 y30.2.1.1.2, .int .i64 y30.2.1.2.1, .int .i64 y30.2.1.2.2.1, .int .i64 y30.2.1.2.2.2.1, .int .i64 y30.2.1.2.2.2.2])]⟩) hV 0 [(1, {res := some ⟨f_rule_May.S.rs, y32⟩}), (2, {bv := some false}), (6, {bv := some false})] {live := [0, 3, 5, 6, 26], src := [some 0, some 1, some 2]} (by kernel_rfl) (by kernel_rfl) ⟨⟨k, e33⟩, hb34, hb55, trivial⟩ ?_
        refine th_n ?_
        refine W_tell (τ := f_table_Put.s3 a4 (decide (y30.1 > (4095 : Int))) y30.2.2.1 y30.1 y30.2.1) {fz := [], gr := 0, ad := [], live := [0, 3, 5, 6, 26], src := [some 0, some 1, some 2]} (by kernel_rfl) (by kernel_rfl) ?_
        exact f_table_Put.j3_ok hV k a4 (decide (y30.1 > (4095 : Int))) y30.2.2.1 y30.1 y30.2.1 H
theorem f_table_Put.V_ok : EnvOk P f_table_Put.V := { ck := tt_ck, fits := slk_cons f_table_Size.fits (slk_cons f_rule_May.fits (slk_cons f_table_at.fits (slk_nil))), mixed := mixed, prims := plk_cons (show PrimOk P 44 _ from L44.prim) (plk_cons (show PrimOk P 50 _ from N50.ok) (plk_nil)) }
theorem f_table_Put.fits : Fits P 24 f_table_Put.S := fits_of f_table_Put.V_ok Go.Proofs.Try.func24 (by kernel_rfl) (by decide) (by decide) rfl (fun x r ⟨k, H⟩ => f_table_Put.f_ok f_table_Put.V_ok k x.1 x.2.1 x.2.2.1 x.2.2.2.1 H)
/-! ### f_bits_Cut: function 78, wayfinder/bits.Cut -/
abbrev f_bits_Cut.ps : Sg := [(false, (.int .i64)), (false, (.int .i64))]
abbrev f_bits_Cut.rs : Sg := [(true, T713d)]
noncomputable def f_bits_Cut.c0 : Code := (Go.Proofs.Try.f78.body).getD .skip
noncomputable def f_bits_Cut.G : List (Nat × Spec) := [(71, f_bits_Mask.S), (77, f_bits_bound.S)]
noncomputable def f_bits_Cut.V : Env := { tt := tt, Γ := slk f_bits_Cut.G }
noncomputable abbrev f_bits_Cut.Q (r : Tup f_bits_Cut.rs) : Exit → St → Prop := Qr tt Go.Proofs.Try.f78.results ⟨f_bits_Cut.ps, f_bits_Cut.rs, .any, none, fun _ _ => True⟩ r
abbrev f_bits_Cut.R := Tup f_bits_Cut.rs
noncomputable def f_bits_Cut.f (k : Nat) (a1 : Int) (a2 : Int) : Option f_bits_Cut.R :=
  (f_bits_Mask.f k a2).bind fun y1 =>
    (f_bits_bound.f k a2).bind fun y2 =>
      some (((IntKind.i64.wrap (((BitVec.ofInt IntKind.i64.bits a1 &&& BitVec.ofInt IntKind.i64.bits y1.1).toNat : Int))), y2.1), ())
noncomputable def f_bits_Cut.S : Spec := ⟨f_bits_Cut.ps, f_bits_Cut.rs, .any, none, fun x r => ∃ k, f_bits_Cut.f k x.1 x.2.1 = some r⟩
theorem f_bits_Cut.f_ok (hV : EnvOk P f_bits_Cut.V) {r : f_bits_Cut.R} (k : Nat) (a1 : Int) (a2 : Int) (H : f_bits_Cut.f k a1 a2 = some r) : W P 0 f_bits_Cut.c0 (⟨12, [(0, .cv (.one (.int .i64 a1))), (1, .cv (.one (.int .i64 a2)))], []⟩) (f_bits_Cut.Q r) := by
  unfold f_bits_Cut.f at H
  refine D_seq (by kernel_rfl) ?_
  refine D_reg (cs := []) (τ := ⟨12, [(0, .cv (.one (.int .i64 a1))), (1, .cv (.one (.int .i64 a2))), (4, .cv (.one (.ptr 0 0)))], [(.box 2, [.int .i64 0, .int .i64 0])]⟩) hV 1 [(0, {sb := 0})] {live := [0, 1, 4], src := [some 0]} (by kernel_rfl) (by kernel_rfl) trivial ?_
  refine th_n ?_
  refine D_seq (by kernel_rfl) ?_
  obtain ⟨y1, e3, H⟩ := of_bind H
  obtain ⟨y2, e4, H⟩ := of_bind H
  refine D_reg (cs := [f_bits_Mask.S.rel (a2, ()) y1, f_bits_bound.S.rel (a2, ()) y2]) (τ := ⟨12, [(4, .cv (.one (.ptr 0 0)))], [(.box 2, [.int .i64 (IntKind.i64.wrap (((BitVec.ofInt IntKind.i64.bits a1 &&& BitVec.ofInt IntKind.i64.bits y1.1).toNat : Int))), .int .i64 y2.1])]⟩) hV 0 [(2, {res := some ⟨f_bits_Mask.S.rs, y1⟩}), (5, {res := some ⟨f_bits_bound.S.rs, y2⟩})] {live := [4], src := [some 0]} (by kernel_rfl) (by kernel_rfl) ⟨⟨k, e3⟩, ⟨k, e4⟩, trivial⟩ ?_
  refine th_n ?_
  refine D_ret (by kernel_rfl) ?_
  exact lf_r (Eq.trans (by kernel_rfl) H)
theorem f_bits_Cut.V_ok : EnvOk P f_bits_Cut.V := { ck := tt_ck, fits := slk_cons f_bits_Mask.fits (slk_cons f_bits_bound.fits (slk_nil)), mixed := mixed }
theorem f_bits_Cut.fits : Fits P 78 f_bits_Cut.S := fits_of f_bits_Cut.V_ok Go.Proofs.Try.func78 (by kernel_rfl) (by decide) (by decide) rfl (fun x r ⟨k, H⟩ => f_bits_Cut.f_ok f_bits_Cut.V_ok k x.1 x.2.1 H)
/-! ### f_bits_Has: function 72, wayfinder/bits.Has -/
abbrev f_bits_Has.ps : Sg := [(true, T713d), (false, (.int .i64))]
abbrev f_bits_Has.rs : Sg := [(false, .bool)]
noncomputable def f_bits_Has.c0 : Code := (Go.Proofs.Try.f72.body).getD .skip
noncomputable def f_bits_Has.G : List (Nat × Spec) := [(78, f_bits_Cut.S)]
noncomputable def f_bits_Has.V : Env := { tt := tt, Γ := slk f_bits_Has.G }
noncomputable abbrev f_bits_Has.Q (r : Tup f_bits_Has.rs) : Exit → St → Prop := Qr tt Go.Proofs.Try.f72.results ⟨f_bits_Has.ps, f_bits_Has.rs, .any, none, fun _ _ => True⟩ r
abbrev f_bits_Has.R := Tup f_bits_Has.rs
noncomputable def f_bits_Has.f (k : Nat) (a1 : T713d.T) (a2 : Int) : Option f_bits_Has.R :=
  (f_bits_Cut.f k a2 a1.2).bind fun y1 =>
    some (((y1.1.1 == a1.1) && ((y1.1.2 == a1.2) && true)), ())
noncomputable def f_bits_Has.S : Spec := ⟨f_bits_Has.ps, f_bits_Has.rs, .any, none, fun x r => ∃ k, f_bits_Has.f k x.1 x.2.1 = some r⟩
theorem f_bits_Has.f_ok (hV : EnvOk P f_bits_Has.V) {r : f_bits_Has.R} (k : Nat) (a1 : T713d.T) (a2 : Int) (H : f_bits_Has.f k a1 a2 = some r) : W P 0 f_bits_Has.c0 (⟨11, [(0, .cv (.agg [.int .i64 a1.1, .int .i64 a1.2])), (1, .cv (.one (.int .i64 a2)))], []⟩) (f_bits_Has.Q r) := by
  unfold f_bits_Has.f at H
  refine D_seq (by kernel_rfl) ?_
  refine D_reg (cs := []) (τ := ⟨11, [(1, .cv (.one (.int .i64 a2))), (2, .cv (.one (.ptr 0 0)))], [(.box 2, [.int .i64 a1.1, .int .i64 a1.2])]⟩) hV 1 [(0, {sb := 0})] {live := [1, 2], src := [some 0]} (by kernel_rfl) (by kernel_rfl) trivial ?_
  refine th_n ?_
  refine D_seq (by kernel_rfl) ?_
  obtain ⟨y1, e2, H⟩ := of_bind H
  refine D_reg (cs := [f_bits_Cut.S.rel (a2, a1.2, ()) y1]) (τ := ⟨11, [(4, .cv (.one (.bool ((y1.1.1 == a1.1) && ((y1.1.2 == a1.2) && true)))))], []⟩) hV 0 [(3, {res := some ⟨f_bits_Cut.S.rs, y1⟩})] {live := [4], src := []} (by kernel_rfl) (by kernel_rfl) ⟨⟨k, e2⟩, trivial⟩ ?_
  refine th_n ?_
  refine D_ret (by kernel_rfl) ?_
  exact lf_r (Eq.trans (by kernel_rfl) H)
theorem f_bits_Has.V_ok : EnvOk P f_bits_Has.V := { ck := tt_ck, fits := slk_cons f_bits_Cut.fits (slk_nil), mixed := mixed }
theorem f_bits_Has.fits : Fits P 72 f_bits_Has.S := fits_of f_bits_Has.V_ok Go.Proofs.Try.func72 (by kernel_rfl) (by decide) (by decide) rfl (fun x r ⟨k, H⟩ => f_bits_Has.f_ok f_bits_Has.V_ok k x.1 x.2.1 H)
/-! ### f_rule_Fits: function 62, wayfinder/rule.Fits -/
abbrev f_rule_Fits.ps : Sg := [(true, T1383), (false, (.int .i64)), (false, (.int .i64))]
abbrev f_rule_Fits.rs : Sg := [(false, .bool)]
noncomputable def f_rule_Fits.c0 : Code := (Go.Proofs.Try.f62.body).getD .skip
noncomputable def f_rule_Fits.G : List (Nat × Spec) := [(72, f_bits_Has.S)]
noncomputable def f_rule_Fits.V : Env := { tt := tt, Γ := slk f_rule_Fits.G }
noncomputable abbrev f_rule_Fits.Q (r : Tup f_rule_Fits.rs) : Exit → St → Prop := Qr tt Go.Proofs.Try.f62.results ⟨f_rule_Fits.ps, f_rule_Fits.rs, .any, none, fun _ _ => True⟩ r
abbrev f_rule_Fits.R := Tup f_rule_Fits.rs
noncomputable def f_rule_Fits.f (k : Nat) (a1 : T1383.T) (a2 : Int) (a3 : Int) : Option f_rule_Fits.R :=
  (f_bits_Has.f k a1.1 a3).bind fun y1 =>
    if y1.1 = true then
      if (a1.2.1 == (-1 : Int)) = true then
        some (true, ())
      else
        some ((a1.2.1 == a2), ())
    else
      some (false, ())
noncomputable def f_rule_Fits.S : Spec := ⟨f_rule_Fits.ps, f_rule_Fits.rs, .any, none, fun x r => ∃ k, f_rule_Fits.f k x.1 x.2.1 x.2.2.1 = some r⟩
theorem f_rule_Fits.f_ok (hV : EnvOk P f_rule_Fits.V) {r : f_rule_Fits.R} (k : Nat) (a1 : T1383.T) (a2 : Int) (a3 : Int) (H : f_rule_Fits.f k a1 a2 a3 = some r) : W P 0 f_rule_Fits.c0 (⟨22, [(0, .cv (.agg [.int .i64 a1.1.1, .int .i64 a1.1.2, .int .i64 a1.2.1, .int .i64 a1.2.2.1, .int .i64 a1.2.2.2.1, .int .i64 a1.2.2.2.2])), (1, .cv (.one (.int .i64 a2))), (2, .cv (.one (.int .i64 a3)))], []⟩) (f_rule_Fits.Q r) := by
  unfold f_rule_Fits.f at H
  refine D_seq (by kernel_rfl) ?_
  refine D_reg (cs := []) (τ := ⟨22, [(1, .cv (.one (.int .i64 a2))), (2, .cv (.one (.int .i64 a3))), (3, .cv (.one (.ptr 0 0)))], [(.box 6, [.int .i64 a1.1.1, .int .i64 a1.1.2, .int .i64 a1.2.1, .int .i64 a1.2.2.1, .int .i64 a1.2.2.2.1, .int .i64 a1.2.2.2.2])]⟩) hV 1 [(0, {sb := 0})] {live := [1, 2, 3], src := [some 0]} (by kernel_rfl) (by kernel_rfl) trivial ?_
  refine th_n ?_
  refine D_seq (by kernel_rfl) ?_
  obtain ⟨y1, e2, H⟩ := of_bind H
  rcases of_ite H with ⟨hb3, H⟩ | ⟨hb3, H⟩
  · rcases of_ite H with ⟨hb4, H⟩ | ⟨hb4, H⟩
    · refine D_reg (cs := [f_bits_Has.S.rel (a1.1, a3, ()) y1, (y1.1) = true, ((a1.2.1 == (-1 : Int))) = true]) (τ := ⟨22, [(6, .cv (.one (.bool true)))], []⟩) hV 0 [(3, {res := some ⟨f_bits_Has.S.rs, y1⟩, bv := some true}), (7, {bv := some true})] {live := [6], src := []} (by kernel_rfl) (by kernel_rfl) ⟨⟨k, e2⟩, hb3, hb4, trivial⟩ ?_
      refine th_n ?_
      refine D_ret (by kernel_rfl) ?_
      exact lf_r (Eq.trans (by kernel_rfl) H)
    · refine D_reg (cs := [f_bits_Has.S.rel (a1.1, a3, ()) y1, (y1.1) = true, ((a1.2.1 == (-1 : Int))) = false]) (τ := ⟨22, [(6, .cv (.one (.bool (a1.2.1 == a2))))], []⟩) hV 0 [(3, {res := some ⟨f_bits_Has.S.rs, y1⟩, bv := some true}), (7, {bv := some false})] {live := [6], src := []} (by kernel_rfl) (by kernel_rfl) ⟨⟨k, e2⟩, hb3, hb4, trivial⟩ ?_
      refine th_n ?_
      refine D_ret (by kernel_rfl) ?_
      exact lf_r (Eq.trans (by kernel_rfl) H)
  · refine D_reg (cs := [f_bits_Has.S.rel (a1.1, a3, ()) y1, (y1.1) = false]) (τ := ⟨22, [(6, .cv (.one (.bool false)))], []⟩) hV 0 [(3, {res := some ⟨f_bits_Has.S.rs, y1⟩, bv := some false})] {live := [6], src := []} (by kernel_rfl) (by kernel_rfl) ⟨⟨k, e2⟩, hb3, trivial⟩ ?_
    refine th_n ?_
    refine D_ret (by kernel_rfl) ?_
    exact lf_r (Eq.trans (by kernel_rfl) H)
theorem f_rule_Fits.V_ok : EnvOk P f_rule_Fits.V := { ck := tt_ck, fits := slk_cons f_bits_Has.fits (slk_nil), mixed := mixed }
theorem f_rule_Fits.fits : Fits P 62 f_rule_Fits.S := fits_of f_rule_Fits.V_ok Go.Proofs.Try.func62 (by kernel_rfl) (by decide) (by decide) rfl (fun x r ⟨k, H⟩ => f_rule_Fits.f_ok f_rule_Fits.V_ok k x.1 x.2.1 x.2.2.1 H)
/-! ### f_rule_greater: function 73, wayfinder/rule.greater -/
abbrev f_rule_greater.ps : Sg := [(false, (.slice T713d))]
abbrev f_rule_greater.rs : Sg := [(false, .bool)]
noncomputable def f_rule_greater.c0 : Code := (Go.Proofs.Try.f73.body).getD .skip
noncomputable def f_rule_greater.G : List (Nat × Spec) := []
noncomputable def f_rule_greater.V : Env := { tt := tt, Γ := slk f_rule_greater.G }
noncomputable abbrev f_rule_greater.Q (r : Tup f_rule_greater.rs) : Exit → St → Prop := Qr tt Go.Proofs.Try.f73.results ⟨f_rule_greater.ps, f_rule_greater.rs, .any, none, fun _ _ => True⟩ r
abbrev f_rule_greater.R := Tup f_rule_greater.rs
noncomputable def f_rule_greater.s1 (p1 : List T713d.T) (p2 : Int) (p3 : Int) : St := ⟨22, [(5, .cv (.one (.sl T713d p1 .any))), (6, .cv (.one (.int .i64 p2))), (7, .cv (.one (.int .i64 p3)))], []⟩
noncomputable def f_rule_greater.b1 (L1 : List T713d.T → Int → Int → Option f_rule_greater.R) (k : Nat) (p1 : List T713d.T) (p2 : Int) (p3 : Int) : Option f_rule_greater.R :=
  if (decide (p3 < p2)) = true then
  if 0 ≤ p3 then
    if p3 < (p1.length : Int) then
      if (((att T713d p1 p3).1) != ((att T713d p1 p3).2)) = true then
        some ((decide (((att T713d p1 p3).1) > ((att T713d p1 p3).2))), ())
      else
        L1 p1 p2 (IntKind.i64.wrap (p3 + 1))
    else none
  else none
else
  some (false, ())
theorem f_rule_greater.b1_ok (hV : EnvOk P f_rule_greater.V) {r : f_rule_greater.R} (L1 : List T713d.T → Int → Int → Option f_rule_greater.R) (m1 : Nat) (hL1 : ∀ (p1 : List T713d.T) (p2 : Int) (p3 : Int), L1 p1 p2 p3 = some r → WL P 0 (Code.l (Code.l (Code.r (Code.l (Code.r f_rule_greater.c0))))) (blockW 0 (thenW P 0 (Code.r (Code.r f_rule_greater.c0)) (f_rule_greater.Q r))) m1 (f_rule_greater.s1 p1 p2 p3)) (k : Nat) (p1 : List T713d.T) (p2 : Int) (p3 : Int) (H : f_rule_greater.b1 L1 k p1 p2 p3 = some r) : W P 0 (Code.l (Code.l (Code.r (Code.l (Code.r f_rule_greater.c0))))) (f_rule_greater.s1 p1 p2 p3) (roundW P 0 (Code.l (Code.l (Code.r (Code.l (Code.r f_rule_greater.c0))))) (blockW 0 (thenW P 0 (Code.r (Code.r f_rule_greater.c0)) (f_rule_greater.Q r))) m1) := by
  unfold f_rule_greater.b1 at H
  refine D_seq (by kernel_rfl) ?_
  refine D_reg (cs := []) (τ := ⟨22, [(5, .cv (.one (.sl T713d p1 .any))), (6, .cv (.one (.int .i64 p2))), (7, .cv (.one (.int .i64 p3))), (8, .cv (.one (.bool (decide (p3 < p2)))))], []⟩) hV 0 [] {live := [5, 6, 7, 8], src := []} (by kernel_rfl) (by kernel_rfl) trivial ?_
  refine th_n ?_
  refine D_seq (by kernel_rfl) ?_
  refine D_condB (t := 8) (b := (decide (p3 < p2))) (by kernel_rfl) (by kernel_rfl) (fun hb1 => ?_) (fun hb1 => ?_)
  · rw [if_pos hb1] at H
    refine D_skip (by kernel_rfl) ?_
    refine th_n ?_
    refine D_seq (by kernel_rfl) ?_
    refine D_block (id := 1) (by kernel_rfl) ?_
    refine D_seq (by kernel_rfl) ?_
    obtain ⟨n2, H⟩ := of_if H
    obtain ⟨n3, H⟩ := of_if H
    refine D_reg (cs := [0 ≤ p3, p3 < (p1.length : Int)]) (τ := ⟨22, [(4, .cv (.one (.ptr 0 0))), (5, .cv (.one (.sl T713d p1 .any))), (6, .cv (.one (.int .i64 p2))), (7, .cv (.one (.int .i64 p3)))], [(.box 2, [.int .i64 ((att T713d p1 p3).1), .int .i64 ((att T713d p1 p3).2)])]⟩) hV 1 [(2, {sb := 0})] {live := [4, 5, 6, 7], src := [some 0]} (by kernel_rfl) (by kernel_rfl) ⟨n2, n3, trivial⟩ ?_
    refine th_n ?_
    refine D_seq (by kernel_rfl) ?_
    refine D_reg (cs := [0 ≤ (0 : Int), (0 : Int) < (2 : Int), 0 ≤ (1 : Int), (1 : Int) < (2 : Int)]) (τ := ⟨22, [(4, .cv (.one (.ptr 0 0))), (5, .cv (.one (.sl T713d p1 .any))), (6, .cv (.one (.int .i64 p2))), (7, .cv (.one (.int .i64 p3))), (15, .cv (.one (.bool (((att T713d p1 p3).1) != ((att T713d p1 p3).2)))))], [(.box 2, [.int .i64 ((att T713d p1 p3).1), .int .i64 ((att T713d p1 p3).2)])]⟩) hV 0 [] {live := [4, 5, 6, 7, 15], src := [some 0]} (by kernel_rfl) (by kernel_rfl) ⟨(by decide), (by decide), (by decide), (by decide), trivial⟩ ?_
    refine th_n ?_
    refine D_condB (t := 15) (b := (((att T713d p1 p3).1) != ((att T713d p1 p3).2))) (by kernel_rfl) (by kernel_rfl) (fun hb4 => ?_) (fun hb4 => ?_)
    · rw [if_pos hb4] at H
      refine D_seq (by kernel_rfl) ?_
      refine D_reg (cs := [0 ≤ (0 : Int), (0 : Int) < (2 : Int), 0 ≤ (1 : Int), (1 : Int) < (2 : Int)]) (τ := ⟨22, [(2, .cv (.one (.bool (decide (((att T713d p1 p3).1) > ((att T713d p1 p3).2))))))], []⟩) hV 0 [] {live := [2], src := []} (by kernel_rfl) (by kernel_rfl) ⟨(by decide), (by decide), (by decide), (by decide), trivial⟩ ?_
      refine th_n ?_
      refine D_ret (by kernel_rfl) ?_
      refine bl_r ?_
      refine th_r ?_
      refine ro_r ?_
      refine bl_r ?_
      refine th_r ?_
      exact lf_r (Eq.trans (by kernel_rfl) H)
    · rw [if_neg (by rw [hb4]; decide)] at H
      refine D_skip (by kernel_rfl) ?_
      refine bl_n ?_
      refine th_n ?_
      refine D_reg (cs := []) (τ := ⟨22, [(5, .cv (.one (.sl T713d p1 .any))), (6, .cv (.one (.int .i64 p2))), (7, .cv (.one (.int .i64 (IntKind.i64.wrap (p3 + 1)))))], []⟩) hV 0 [] {live := [5, 6, 7], src := []} (by kernel_rfl) (by kernel_rfl) trivial ?_
      refine ro_n (WL_tell (τ := f_rule_greater.s1 p1 p2 (IntKind.i64.wrap (p3 + 1))) {fz := [], gr := 0, ad := [], live := [5, 6, 7], src := []} (by kernel_rfl) (by kernel_rfl) ?_)
      exact hL1 p1 p2 (IntKind.i64.wrap (p3 + 1)) H
  · rw [if_neg (by rw [hb1]; decide)] at H
    refine D_exit (id := 0) (by kernel_rfl) ?_
    refine th_x ?_
    refine ro_x ?_
    refine bl_h ?_
    refine th_n ?_
    refine D_seq (by kernel_rfl) ?_
    refine D_reg (cs := []) (τ := ⟨22, [(2, .cv (.one (.bool false)))], []⟩) hV 0 [] {live := [2], src := []} (by kernel_rfl) (by kernel_rfl) trivial ?_
    refine th_n ?_
    refine D_ret (by kernel_rfl) ?_
    exact lf_r (Eq.trans (by kernel_rfl) H)
noncomputable def f_rule_greater.l1 (k : Nat) : Nat → List T713d.T → Int → Int → Option f_rule_greater.R
  | 0, _, _, _ => none
  | m + 1, p1, p2, p3 => f_rule_greater.b1 (f_rule_greater.l1 k m) k p1 p2 p3
theorem f_rule_greater.l1_ok (hV : EnvOk P f_rule_greater.V) {r : f_rule_greater.R} (k : Nat) : ∀ (m1 : Nat) (p1 : List T713d.T) (p2 : Int) (p3 : Int), f_rule_greater.l1 k m1 p1 p2 p3 = some r → WL P 0 (Code.l (Code.l (Code.r (Code.l (Code.r f_rule_greater.c0))))) (blockW 0 (thenW P 0 (Code.r (Code.r f_rule_greater.c0)) (f_rule_greater.Q r))) m1 (f_rule_greater.s1 p1 p2 p3)
  | 0, _, _, _, H => by cases H
  | m1 + 1, p1, p2, p3, H => WL_succ (f_rule_greater.b1_ok hV (f_rule_greater.l1 k m1) m1 (fun p1 p2 p3 H => f_rule_greater.l1_ok hV k m1 p1 p2 p3 H) k p1 p2 p3 H)
noncomputable def f_rule_greater.f (k : Nat) (a1 : List T713d.T) : Option f_rule_greater.R :=
  f_rule_greater.l1 k k a1 (a1.length : Int) 0
noncomputable def f_rule_greater.S : Spec := ⟨f_rule_greater.ps, f_rule_greater.rs, .any, none, fun x r => ∃ k, f_rule_greater.f k x.1 = some r⟩
theorem f_rule_greater.f_ok (hV : EnvOk P f_rule_greater.V) {r : f_rule_greater.R} (k : Nat) (a1 : List T713d.T) (H : f_rule_greater.f k a1 = some r) : W P 0 f_rule_greater.c0 (⟨22, [(0, .cv (.one (.sl T713d a1 .any)))], []⟩) (f_rule_greater.Q r) := by
  unfold f_rule_greater.f at H
  refine D_seq (by kernel_rfl) ?_
  refine D_reg (cs := []) (τ := ⟨22, [(0, .cv (.one (.sl T713d a1 .any)))], []⟩) hV 0 [] {live := [0], src := []} (by kernel_rfl) (by kernel_rfl) trivial ?_
  refine th_n ?_
  refine D_seq (by kernel_rfl) ?_
  refine D_seq (by kernel_rfl) ?_
  refine D_reg (cs := []) (τ := ⟨22, [(5, .cv (.one (.sl T713d a1 .any))), (6, .cv (.one (.int .i64 (a1.length : Int)))), (7, .cv (.one (.int .i64 0)))], []⟩) hV 0 [] {live := [5, 6, 7], src := []} (by kernel_rfl) (by kernel_rfl) trivial ?_
  refine th_n ?_
  refine D_block (id := 0) (by kernel_rfl) ?_
  refine W_tell (τ := f_rule_greater.s1 a1 (a1.length : Int) 0) {fz := [], gr := 0, ad := [], live := [5, 6, 7], src := []} (by kernel_rfl) (by kernel_rfl) ?_
  exact D_loop (by kernel_rfl) k (f_rule_greater.l1_ok hV k k a1 (a1.length : Int) 0 H)
theorem f_rule_greater.V_ok : EnvOk P f_rule_greater.V := { ck := tt_ck, fits := slk_nil, mixed := mixed }
theorem f_rule_greater.fits : Fits P 73 f_rule_greater.S := fits_of f_rule_greater.V_ok Go.Proofs.Try.func73 (by kernel_rfl) (by decide) (by decide) rfl (fun x r ⟨k, H⟩ => f_rule_greater.f_ok f_rule_greater.V_ok k x.1 H)
/-! ### f_rule_Ahead: function 63, wayfinder/rule.Ahead -/
abbrev f_rule_Ahead.ps : Sg := [(true, T1383), (true, T1383)]
abbrev f_rule_Ahead.rs : Sg := [(false, .bool)]
noncomputable def f_rule_Ahead.c0 : Code := (Go.Proofs.Try.f63.body).getD .skip
noncomputable def f_rule_Ahead.G : List (Nat × Spec) := [(73, f_rule_greater.S)]
noncomputable def f_rule_Ahead.V : Env := { tt := tt, Γ := slk f_rule_Ahead.G }
noncomputable abbrev f_rule_Ahead.Q (r : Tup f_rule_Ahead.rs) : Exit → St → Prop := Qr tt Go.Proofs.Try.f63.results ⟨f_rule_Ahead.ps, f_rule_Ahead.rs, .any, none, fun _ _ => True⟩ r
abbrev f_rule_Ahead.R := Tup f_rule_Ahead.rs
noncomputable def f_rule_Ahead.f (k : Nat) (a1 : T1383.T) (a2 : T1383.T) : Option f_rule_Ahead.R :=
  (f_rule_greater.f k [(a1.1.2, a2.1.2), (a1.2.2.1, a2.2.2.1), (a1.2.1, a2.2.1)]).bind fun y1 =>
    some (y1.1, ())
noncomputable def f_rule_Ahead.S : Spec := ⟨f_rule_Ahead.ps, f_rule_Ahead.rs, .any, none, fun x r => ∃ k, f_rule_Ahead.f k x.1 x.2.1 = some r⟩
theorem f_rule_Ahead.f_ok (hV : EnvOk P f_rule_Ahead.V) {r : f_rule_Ahead.R} (k : Nat) (a1 : T1383.T) (a2 : T1383.T) (H : f_rule_Ahead.f k a1 a2 = some r) : W P 0 f_rule_Ahead.c0 (⟨24, [(0, .cv (.agg [.int .i64 a1.1.1, .int .i64 a1.1.2, .int .i64 a1.2.1, .int .i64 a1.2.2.1, .int .i64 a1.2.2.2.1, .int .i64 a1.2.2.2.2])), (1, .cv (.agg [.int .i64 a2.1.1, .int .i64 a2.1.2, .int .i64 a2.2.1, .int .i64 a2.2.2.1, .int .i64 a2.2.2.2.1, .int .i64 a2.2.2.2.2]))], []⟩) (f_rule_Ahead.Q r) := by
  unfold f_rule_Ahead.f at H
  refine D_seq (by kernel_rfl) ?_
  refine D_reg (cs := []) (τ := ⟨24, [(2, .cv (.one (.ptr 0 0))), (3, .cv (.one (.ptr 1 0)))], [(.box 6, [.int .i64 a1.1.1, .int .i64 a1.1.2, .int .i64 a1.2.1, .int .i64 a1.2.2.1, .int .i64 a1.2.2.2.1, .int .i64 a1.2.2.2.2]), (.box 6, [.int .i64 a2.1.1, .int .i64 a2.1.2, .int .i64 a2.2.1, .int .i64 a2.2.2.1, .int .i64 a2.2.2.2.1, .int .i64 a2.2.2.2.2])]⟩) hV 2 [(0, {sb := 0}), (1, {sb := 1})] {live := [2, 3], src := [some 0, some 1]} (by kernel_rfl) (by kernel_rfl) trivial ?_
  refine th_n ?_
  refine D_seq (by kernel_rfl) ?_
  obtain ⟨y1, e2, H⟩ := of_bind H
  refine D_reg (cs := [f_rule_greater.S.rel ([(a1.1.2, a2.1.2), (a1.2.2.1, a2.2.2.1), (a1.2.1, a2.2.1)], ()) y1]) (τ := ⟨24, [(4, .cv (.one (.bool y1.1)))], []⟩) hV 0 [(18, {res := some ⟨f_rule_greater.S.rs, y1⟩})] {live := [4], src := []} (by kernel_rfl) (by kernel_rfl) ⟨⟨k, e2⟩, trivial⟩ ?_
  refine th_n ?_
  refine D_ret (by kernel_rfl) ?_
  exact lf_r (Eq.trans (by kernel_rfl) H)
theorem f_rule_Ahead.V_ok : EnvOk P f_rule_Ahead.V := { ck := tt_ck, fits := slk_cons f_rule_greater.fits (slk_nil), mixed := mixed }
theorem f_rule_Ahead.fits : Fits P 63 f_rule_Ahead.S := fits_of f_rule_Ahead.V_ok Go.Proofs.Try.func63 (by kernel_rfl) (by decide) (by decide) rfl (fun x r ⟨k, H⟩ => f_rule_Ahead.f_ok f_rule_Ahead.V_ok k x.1 x.2.1 H)
/-! ### f_pick_First: function 42, wayfinder/pick.First -/
abbrev f_pick_First.ps : Sg := [(false, (.slice T1383)), (false, (.int .i64)), (false, (.int .i64))]
abbrev f_pick_First.rs : Sg := [(false, (.int .i64))]
noncomputable def f_pick_First.c0 : Code := (Go.Proofs.Try.f42.body).getD .skip
noncomputable def f_pick_First.G : List (Nat × Spec) := [(62, f_rule_Fits.S), (63, f_rule_Ahead.S)]
noncomputable def f_pick_First.V : Env := { tt := tt, Γ := slk f_pick_First.G }
noncomputable abbrev f_pick_First.Q (r : Tup f_pick_First.rs) : Exit → St → Prop := Qr tt Go.Proofs.Try.f42.results ⟨f_pick_First.ps, f_pick_First.rs, .any, none, fun _ _ => True⟩ r
abbrev f_pick_First.R := Tup f_pick_First.rs
noncomputable def f_pick_First.s1 (p1 : List T1383.T) (p2 : Int) (p3 : Int) (p4 : Int) (p5 : List T1383.T) (p6 : Int) (p7 : Int) : St := ⟨36, [(0, .cv (.one (.sl T1383 p1 .any))), (1, .cv (.one (.int .i64 p2))), (2, .cv (.one (.int .i64 p3))), (7, .cv (.one (.int .i64 p4))), (10, .cv (.one (.sl T1383 p5 .any))), (11, .cv (.one (.int .i64 p6))), (12, .cv (.one (.int .i64 p7)))], []⟩
noncomputable def f_pick_First.s2 (p1 : List T1383.T) (p2 : Int) (p3 : Int) (p4 : Int) (p5 : Int) (p6 : List T1383.T) (p7 : Int) (p8 : Int) (p9 : Bool) : St := ⟨36, [(0, .cv (.one (.sl T1383 p1 .any))), (1, .cv (.one (.int .i64 p2))), (2, .cv (.one (.int .i64 p3))), (7, .cv (.one (.int .i64 p4))), (8, .cv (.one (.int .i64 p5))), (10, .cv (.one (.sl T1383 p6 .any))), (11, .cv (.one (.int .i64 p7))), (12, .cv (.one (.int .i64 p8))), (32, .cv (.one (.bool p9)))], []⟩
noncomputable def f_pick_First.s3 (p1 : List T1383.T) (p2 : Int) (p3 : Int) (p4 : Int) (p5 : List T1383.T) (p6 : Int) (p7 : Int) : St := ⟨36, [(0, .cv (.one (.sl T1383 p1 .any))), (1, .cv (.one (.int .i64 p2))), (2, .cv (.one (.int .i64 p3))), (7, .cv (.one (.int .i64 p4))), (10, .cv (.one (.sl T1383 p5 .any))), (11, .cv (.one (.int .i64 p6))), (12, .cv (.one (.int .i64 p7)))], []⟩
noncomputable def f_pick_First.j3 (L1 : List T1383.T → Int → Int → Int → List T1383.T → Int → Int → Option f_pick_First.R) (k : Nat) (p1 : List T1383.T) (p2 : Int) (p3 : Int) (p4 : Int) (p5 : List T1383.T) (p6 : Int) (p7 : Int) : Option f_pick_First.R :=
  L1 p1 p2 p3 p4 p5 p6 (IntKind.i64.wrap (p7 + 1))
theorem f_pick_First.j3_ok (hV : EnvOk P f_pick_First.V) {r : f_pick_First.R} (L1 : List T1383.T → Int → Int → Int → List T1383.T → Int → Int → Option f_pick_First.R) (m1 : Nat) (hL1 : ∀ (p1 : List T1383.T) (p2 : Int) (p3 : Int) (p4 : Int) (p5 : List T1383.T) (p6 : Int) (p7 : Int), L1 p1 p2 p3 p4 p5 p6 p7 = some r → WL P 0 (Code.l (Code.l (Code.r (Code.l (Code.r (Code.r f_pick_First.c0)))))) (blockW 0 (thenW P 0 (Code.r (Code.r (Code.r f_pick_First.c0))) (f_pick_First.Q r))) m1 (f_pick_First.s1 p1 p2 p3 p4 p5 p6 p7)) (k : Nat) (p1 : List T1383.T) (p2 : Int) (p3 : Int) (p4 : Int) (p5 : List T1383.T) (p6 : Int) (p7 : Int) (H : f_pick_First.j3 L1 k p1 p2 p3 p4 p5 p6 p7 = some r) : W P 0 (Code.r (Code.r (Code.r (Code.l (Code.l (Code.r (Code.l (Code.r (Code.r f_pick_First.c0))))))))) (f_pick_First.s3 p1 p2 p3 p4 p5 p6 p7) (roundW P 0 (Code.l (Code.l (Code.r (Code.l (Code.r (Code.r f_pick_First.c0)))))) (blockW 0 (thenW P 0 (Code.r (Code.r (Code.r f_pick_First.c0))) (f_pick_First.Q r))) m1) := by
  unfold f_pick_First.j3 at H
  refine D_reg (cs := []) (τ := ⟨36, [(0, .cv (.one (.sl T1383 p1 .any))), (1, .cv (.one (.int .i64 p2))), (2, .cv (.one (.int .i64 p3))), (7, .cv (.one (.int .i64 p4))), (10, .cv (.one (.sl T1383 p5 .any))), (11, .cv (.one (.int .i64 p6))), (12, .cv (.one (.int .i64 (IntKind.i64.wrap (p7 + 1)))))], []⟩) hV 0 [] {live := [0, 1, 2, 7, 10, 11, 12], src := []} (by kernel_rfl) (by kernel_rfl) trivial ?_
  refine ro_n (WL_tell (τ := f_pick_First.s1 p1 p2 p3 p4 p5 p6 (IntKind.i64.wrap (p7 + 1))) {fz := [], gr := 0, ad := [], live := [0, 1, 2, 7, 10, 11, 12], src := []} (by kernel_rfl) (by kernel_rfl) ?_)
  exact hL1 p1 p2 p3 p4 p5 p6 (IntKind.i64.wrap (p7 + 1)) H
noncomputable def f_pick_First.j2 (L1 : List T1383.T → Int → Int → Int → List T1383.T → Int → Int → Option f_pick_First.R) (k : Nat) (p1 : List T1383.T) (p2 : Int) (p3 : Int) (p4 : Int) (p5 : Int) (p6 : List T1383.T) (p7 : Int) (p8 : Int) (p9 : Bool) : Option f_pick_First.R :=
  if p9 = true then
  f_pick_First.j3 L1 k p1 p2 p3 p5 p6 p7 p8
else
  f_pick_First.j3 L1 k p1 p2 p3 p4 p6 p7 p8
theorem f_pick_First.j2_ok (hV : EnvOk P f_pick_First.V) {r : f_pick_First.R} (L1 : List T1383.T → Int → Int → Int → List T1383.T → Int → Int → Option f_pick_First.R) (m1 : Nat) (hL1 : ∀ (p1 : List T1383.T) (p2 : Int) (p3 : Int) (p4 : Int) (p5 : List T1383.T) (p6 : Int) (p7 : Int), L1 p1 p2 p3 p4 p5 p6 p7 = some r → WL P 0 (Code.l (Code.l (Code.r (Code.l (Code.r (Code.r f_pick_First.c0)))))) (blockW 0 (thenW P 0 (Code.r (Code.r (Code.r f_pick_First.c0))) (f_pick_First.Q r))) m1 (f_pick_First.s1 p1 p2 p3 p4 p5 p6 p7)) (k : Nat) (p1 : List T1383.T) (p2 : Int) (p3 : Int) (p4 : Int) (p5 : Int) (p6 : List T1383.T) (p7 : Int) (p8 : Int) (p9 : Bool) (H : f_pick_First.j2 L1 k p1 p2 p3 p4 p5 p6 p7 p8 p9 = some r) : W P 0 (Code.r (Code.r (Code.l (Code.l (Code.r (Code.r (Code.l (Code.l (Code.r (Code.l (Code.r (Code.r f_pick_First.c0)))))))))))) (f_pick_First.s2 p1 p2 p3 p4 p5 p6 p7 p8 p9) (blockW 1 (thenW P 0 (Code.r (Code.r (Code.r (Code.l (Code.l (Code.r (Code.l (Code.r (Code.r f_pick_First.c0))))))))) (roundW P 0 (Code.l (Code.l (Code.r (Code.l (Code.r (Code.r f_pick_First.c0)))))) (blockW 0 (thenW P 0 (Code.r (Code.r (Code.r f_pick_First.c0))) (f_pick_First.Q r))) m1))) := by
  unfold f_pick_First.j2 at H
  refine D_condB (t := 32) (b := p9) (by kernel_rfl) (by kernel_rfl) (fun hb9 => ?_) (fun hb9 => ?_)
  · rw [if_pos hb9] at H
    refine D_reg (cs := []) (τ := ⟨36, [(0, .cv (.one (.sl T1383 p1 .any))), (1, .cv (.one (.int .i64 p2))), (2, .cv (.one (.int .i64 p3))), (7, .cv (.one (.int .i64 p5))), (10, .cv (.one (.sl T1383 p6 .any))), (11, .cv (.one (.int .i64 p7))), (12, .cv (.one (.int .i64 p8)))], []⟩) hV 0 [] {live := [0, 1, 2, 7, 10, 11, 12], src := []} (by kernel_rfl) (by kernel_rfl) trivial ?_
    refine bl_n ?_
    refine th_n ?_
    refine W_tell (τ := f_pick_First.s3 p1 p2 p3 p5 p6 p7 p8) {fz := [], gr := 0, ad := [], live := [0, 1, 2, 7, 10, 11, 12], src := []} (by kernel_rfl) (by kernel_rfl) ?_
    exact f_pick_First.j3_ok hV L1 m1 hL1 k p1 p2 p3 p5 p6 p7 p8 H
  · rw [if_neg (by rw [hb9]; decide)] at H
    refine D_skip (by kernel_rfl) ?_
    refine bl_n ?_
    refine th_n ?_
    refine W_tell (τ := f_pick_First.s3 p1 p2 p3 p4 p6 p7 p8) {fz := [], gr := 0, ad := [], live := [0, 1, 2, 7, 10, 11, 12], src := []} (by kernel_rfl) (by kernel_rfl) ?_
    exact f_pick_First.j3_ok hV L1 m1 hL1 k p1 p2 p3 p4 p6 p7 p8 H
noncomputable def f_pick_First.b1 (L1 : List T1383.T → Int → Int → Int → List T1383.T → Int → Int → Option f_pick_First.R) (k : Nat) (p1 : List T1383.T) (p2 : Int) (p3 : Int) (p4 : Int) (p5 : List T1383.T) (p6 : Int) (p7 : Int) : Option f_pick_First.R :=
  if (decide (p7 < p6)) = true then
  if 0 ≤ p7 then
    if p7 < (p5.length : Int) then
      (f_rule_Fits.f k (att T1383 p5 p7) p2 p3).bind fun y4 =>
        if y4.1 = true then
          if (decide (p4 < (0 : Int))) = true then
            f_pick_First.j2 L1 k p1 p2 p3 p4 p7 p5 p6 p7 true
          else
            if 0 ≤ p4 then
              if p4 < (p1.length : Int) then
                (f_rule_Ahead.f k (att T1383 p5 p7) (att T1383 p1 p4)).bind fun y5 =>
                  f_pick_First.j2 L1 k p1 p2 p3 p4 p7 p5 p6 p7 y5.1
              else none
            else none
        else
          f_pick_First.j2 L1 k p1 p2 p3 p4 p7 p5 p6 p7 false
    else none
  else none
else
  some (p4, ())
theorem f_pick_First.b1_ok (hV : EnvOk P f_pick_First.V) {r : f_pick_First.R} (L1 : List T1383.T → Int → Int → Int → List T1383.T → Int → Int → Option f_pick_First.R) (m1 : Nat) (hL1 : ∀ (p1 : List T1383.T) (p2 : Int) (p3 : Int) (p4 : Int) (p5 : List T1383.T) (p6 : Int) (p7 : Int), L1 p1 p2 p3 p4 p5 p6 p7 = some r → WL P 0 (Code.l (Code.l (Code.r (Code.l (Code.r (Code.r f_pick_First.c0)))))) (blockW 0 (thenW P 0 (Code.r (Code.r (Code.r f_pick_First.c0))) (f_pick_First.Q r))) m1 (f_pick_First.s1 p1 p2 p3 p4 p5 p6 p7)) (k : Nat) (p1 : List T1383.T) (p2 : Int) (p3 : Int) (p4 : Int) (p5 : List T1383.T) (p6 : Int) (p7 : Int) (H : f_pick_First.b1 L1 k p1 p2 p3 p4 p5 p6 p7 = some r) : W P 0 (Code.l (Code.l (Code.r (Code.l (Code.r (Code.r f_pick_First.c0)))))) (f_pick_First.s1 p1 p2 p3 p4 p5 p6 p7) (roundW P 0 (Code.l (Code.l (Code.r (Code.l (Code.r (Code.r f_pick_First.c0)))))) (blockW 0 (thenW P 0 (Code.r (Code.r (Code.r f_pick_First.c0))) (f_pick_First.Q r))) m1) := by
  unfold f_pick_First.b1 at H
  refine D_seq (by kernel_rfl) ?_
  refine D_reg (cs := []) (τ := ⟨36, [(0, .cv (.one (.sl T1383 p1 .any))), (1, .cv (.one (.int .i64 p2))), (2, .cv (.one (.int .i64 p3))), (7, .cv (.one (.int .i64 p4))), (10, .cv (.one (.sl T1383 p5 .any))), (11, .cv (.one (.int .i64 p6))), (12, .cv (.one (.int .i64 p7))), (13, .cv (.one (.bool (decide (p7 < p6)))))], []⟩) hV 0 [] {live := [0, 1, 2, 7, 10, 11, 12, 13], src := []} (by kernel_rfl) (by kernel_rfl) trivial ?_
  refine th_n ?_
  refine D_seq (by kernel_rfl) ?_
  refine D_condB (t := 13) (b := (decide (p7 < p6))) (by kernel_rfl) (by kernel_rfl) (fun hb1 => ?_) (fun hb1 => ?_)
  · rw [if_pos hb1] at H
    refine D_skip (by kernel_rfl) ?_
    refine th_n ?_
    refine D_seq (by kernel_rfl) ?_
    refine D_block (id := 1) (by kernel_rfl) ?_
    refine D_seq (by kernel_rfl) ?_
    obtain ⟨n2, H⟩ := of_if H
    obtain ⟨n3, H⟩ := of_if H
    refine D_reg (cs := [0 ≤ p7, p7 < (p5.length : Int)]) (τ := ⟨36, [(0, .cv (.one (.sl T1383 p1 .any))), (1, .cv (.one (.int .i64 p2))), (2, .cv (.one (.int .i64 p3))), (7, .cv (.one (.int .i64 p4))), (8, .cv (.one (.int .i64 p7))), (9, .cv (.one (.ptr 0 0))), (10, .cv (.one (.sl T1383 p5 .any))), (11, .cv (.one (.int .i64 p6))), (12, .cv (.one (.int .i64 p7)))], [(.box 6, [.int .i64 (((att T1383 p5 p7).1).1), .int .i64 (((att T1383 p5 p7).1).2), .int .i64 (((att T1383 p5 p7).2).1), .int .i64 ((((att T1383 p5 p7).2).2).1), .int .i64 (((((att T1383 p5 p7).2).2).2).1), .int .i64 (((((att T1383 p5 p7).2).2).2).2)])]⟩) hV 1 [(3, {sb := 0})] {live := [0, 1, 2, 7, 8, 9, 10, 11, 12], src := [some 0]} (by kernel_rfl) (by kernel_rfl) ⟨n2, n3, trivial⟩ ?_
    refine th_n ?_
    refine D_seq (by kernel_rfl) ?_
    obtain ⟨y4, e6, H⟩ := of_bind H
    rcases of_ite H with ⟨hb7, H⟩ | ⟨hb7, H⟩
    · rcases of_ite H with ⟨hb8, H⟩ | ⟨hb8, H⟩
      · refine D_reg (cs := [f_rule_Fits.S.rel ((att T1383 p5 p7), p2, p3, ()) y4, (y4.1) = true, ((decide (p4 < (0 : Int)))) = true]) (τ := ⟨36, [(0, .cv (.one (.sl T1383 p1 .any))), (1, .cv (.one (.int .i64 p2))), (2, .cv (.one (.int .i64 p3))), (7, .cv (.one (.int .i64 p4))), (8, .cv (.one (.int .i64 p7))), (10, .cv (.one (.sl T1383 p5 .any))), (11, .cv (.one (.int .i64 p6))), (12, .cv (.one (.int .i64 p7))), (32, .cv (.one (.bool true)))], []⟩) hV 0 [(3, {res := some ⟨f_rule_Fits.S.rs, y4⟩, bv := some true}), (6, {bv := some true})] {live := [0, 1, 2, 7, 8, 10, 11, 12, 32], src := []} (by kernel_rfl) (by kernel_rfl) ⟨⟨k, e6⟩, hb7, hb8, trivial⟩ ?_
        refine th_n ?_
        refine W_tell (τ := f_pick_First.s2 p1 p2 p3 p4 p7 p5 p6 p7 true) {fz := [], gr := 0, ad := [], live := [0, 1, 2, 7, 8, 10, 11, 12, 32], src := []} (by kernel_rfl) (by kernel_rfl) ?_
        exact f_pick_First.j2_ok hV L1 m1 hL1 k p1 p2 p3 p4 p7 p5 p6 p7 true H
      · obtain ⟨n10, H⟩ := of_if H
        obtain ⟨n11, H⟩ := of_if H
        obtain ⟨y5, e12, H⟩ := of_bind H
        refine D_reg (cs := [f_rule_Fits.S.rel ((att T1383 p5 p7), p2, p3, ()) y4, (y4.1) = true, ((decide (p4 < (0 : Int)))) = false, 0 ≤ p4, p4 < (p1.length : Int), f_rule_Ahead.S.rel ((att T1383 p5 p7), (att T1383 p1 p4), ()) y5]) (τ := ⟨36, [(0, .cv (.one (.sl T1383 p1 .any))), (1, .cv (.one (.int .i64 p2))), (2, .cv (.one (.int .i64 p3))), (7, .cv (.one (.int .i64 p4))), (8, .cv (.one (.int .i64 p7))), (10, .cv (.one (.sl T1383 p5 .any))), (11, .cv (.one (.int .i64 p6))), (12, .cv (.one (.int .i64 p7))), (32, .cv (.one (.bool y5.1)))], []⟩) hV 0 [(3, {res := some ⟨f_rule_Fits.S.rs, y4⟩, bv := some true}), (6, {bv := some false}), (13, {res := some ⟨f_rule_Ahead.S.rs, y5⟩})] {live := [0, 1, 2, 7, 8, 10, 11, 12, 32], src := []} (by kernel_rfl) (by kernel_rfl) ⟨⟨k, e6⟩, hb7, hb8, n10, n11, ⟨k, e12⟩, trivial⟩ ?_
        refine th_n ?_
        refine W_tell (τ := f_pick_First.s2 p1 p2 p3 p4 p7 p5 p6 p7 y5.1) {fz := [], gr := 0, ad := [], live := [0, 1, 2, 7, 8, 10, 11, 12, 32], src := []} (by kernel_rfl) (by kernel_rfl) ?_
        exact f_pick_First.j2_ok hV L1 m1 hL1 k p1 p2 p3 p4 p7 p5 p6 p7 y5.1 H
    · refine D_reg (cs := [f_rule_Fits.S.rel ((att T1383 p5 p7), p2, p3, ()) y4, (y4.1) = false]) (τ := ⟨36, [(0, .cv (.one (.sl T1383 p1 .any))), (1, .cv (.one (.int .i64 p2))), (2, .cv (.one (.int .i64 p3))), (7, .cv (.one (.int .i64 p4))), (8, .cv (.one (.int .i64 p7))), (10, .cv (.one (.sl T1383 p5 .any))), (11, .cv (.one (.int .i64 p6))), (12, .cv (.one (.int .i64 p7))), (32, .cv (.one (.bool false)))], []⟩) hV 0 [(3, {res := some ⟨f_rule_Fits.S.rs, y4⟩, bv := some false})] {live := [0, 1, 2, 7, 8, 10, 11, 12, 32], src := []} (by kernel_rfl) (by kernel_rfl) ⟨⟨k, e6⟩, hb7, trivial⟩ ?_
      refine th_n ?_
      refine W_tell (τ := f_pick_First.s2 p1 p2 p3 p4 p7 p5 p6 p7 false) {fz := [], gr := 0, ad := [], live := [0, 1, 2, 7, 8, 10, 11, 12, 32], src := []} (by kernel_rfl) (by kernel_rfl) ?_
      exact f_pick_First.j2_ok hV L1 m1 hL1 k p1 p2 p3 p4 p7 p5 p6 p7 false H
  · rw [if_neg (by rw [hb1]; decide)] at H
    refine D_exit (id := 0) (by kernel_rfl) ?_
    refine th_x ?_
    refine ro_x ?_
    refine bl_h ?_
    refine th_n ?_
    refine D_seq (by kernel_rfl) ?_
    refine D_reg (cs := []) (τ := ⟨36, [(6, .cv (.one (.int .i64 p4)))], []⟩) hV 0 [] {live := [6], src := []} (by kernel_rfl) (by kernel_rfl) trivial ?_
    refine th_n ?_
    refine D_ret (by kernel_rfl) ?_
    exact lf_r (Eq.trans (by kernel_rfl) H)
noncomputable def f_pick_First.l1 (k : Nat) : Nat → List T1383.T → Int → Int → Int → List T1383.T → Int → Int → Option f_pick_First.R
  | 0, _, _, _, _, _, _, _ => none
  | m + 1, p1, p2, p3, p4, p5, p6, p7 => f_pick_First.b1 (f_pick_First.l1 k m) k p1 p2 p3 p4 p5 p6 p7
theorem f_pick_First.l1_ok (hV : EnvOk P f_pick_First.V) {r : f_pick_First.R} (k : Nat) : ∀ (m1 : Nat) (p1 : List T1383.T) (p2 : Int) (p3 : Int) (p4 : Int) (p5 : List T1383.T) (p6 : Int) (p7 : Int), f_pick_First.l1 k m1 p1 p2 p3 p4 p5 p6 p7 = some r → WL P 0 (Code.l (Code.l (Code.r (Code.l (Code.r (Code.r f_pick_First.c0)))))) (blockW 0 (thenW P 0 (Code.r (Code.r (Code.r f_pick_First.c0))) (f_pick_First.Q r))) m1 (f_pick_First.s1 p1 p2 p3 p4 p5 p6 p7)
  | 0, _, _, _, _, _, _, _, H => by cases H
  | m1 + 1, p1, p2, p3, p4, p5, p6, p7, H => WL_succ (f_pick_First.b1_ok hV (f_pick_First.l1 k m1) m1 (fun p1 p2 p3 p4 p5 p6 p7 H => f_pick_First.l1_ok hV k m1 p1 p2 p3 p4 p5 p6 p7 H) k p1 p2 p3 p4 p5 p6 p7 H)
noncomputable def f_pick_First.f (k : Nat) (a1 : List T1383.T) (a2 : Int) (a3 : Int) : Option f_pick_First.R :=
  f_pick_First.l1 k k a1 a2 a3 (-1) a1 (a1.length : Int) 0
noncomputable def f_pick_First.S : Spec := ⟨f_pick_First.ps, f_pick_First.rs, .any, none, fun x r => ∃ k, f_pick_First.f k x.1 x.2.1 x.2.2.1 = some r⟩
theorem f_pick_First.f_ok (hV : EnvOk P f_pick_First.V) {r : f_pick_First.R} (k : Nat) (a1 : List T1383.T) (a2 : Int) (a3 : Int) (H : f_pick_First.f k a1 a2 a3 = some r) : W P 0 f_pick_First.c0 (⟨36, [(0, .cv (.one (.sl T1383 a1 .any))), (1, .cv (.one (.int .i64 a2))), (2, .cv (.one (.int .i64 a3)))], []⟩) (f_pick_First.Q r) := by
  unfold f_pick_First.f at H
  refine D_seq (by kernel_rfl) ?_
  refine D_reg (cs := []) (τ := ⟨36, [(0, .cv (.one (.sl T1383 a1 .any))), (1, .cv (.one (.int .i64 a2))), (2, .cv (.one (.int .i64 a3)))], []⟩) hV 0 [] {live := [0, 1, 2], src := []} (by kernel_rfl) (by kernel_rfl) trivial ?_
  refine th_n ?_
  refine D_seq (by kernel_rfl) ?_
  refine D_reg (cs := []) (τ := ⟨36, [(0, .cv (.one (.sl T1383 a1 .any))), (1, .cv (.one (.int .i64 a2))), (2, .cv (.one (.int .i64 a3))), (7, .cv (.one (.int .i64 (-1))))], []⟩) hV 0 [] {live := [0, 1, 2, 7], src := []} (by kernel_rfl) (by kernel_rfl) trivial ?_
  refine th_n ?_
  refine D_seq (by kernel_rfl) ?_
  refine D_seq (by kernel_rfl) ?_
  refine D_reg (cs := []) (τ := ⟨36, [(0, .cv (.one (.sl T1383 a1 .any))), (1, .cv (.one (.int .i64 a2))), (2, .cv (.one (.int .i64 a3))), (7, .cv (.one (.int .i64 (-1)))), (10, .cv (.one (.sl T1383 a1 .any))), (11, .cv (.one (.int .i64 (a1.length : Int)))), (12, .cv (.one (.int .i64 0)))], []⟩) hV 0 [] {live := [0, 1, 2, 7, 10, 11, 12], src := []} (by kernel_rfl) (by kernel_rfl) trivial ?_
  refine th_n ?_
  refine D_block (id := 0) (by kernel_rfl) ?_
  refine W_tell (τ := f_pick_First.s1 a1 a2 a3 (-1) a1 (a1.length : Int) 0) {fz := [], gr := 0, ad := [], live := [0, 1, 2, 7, 10, 11, 12], src := []} (by kernel_rfl) (by kernel_rfl) ?_
  exact D_loop (by kernel_rfl) k (f_pick_First.l1_ok hV k k a1 a2 a3 (-1) a1 (a1.length : Int) 0 H)
theorem f_pick_First.V_ok : EnvOk P f_pick_First.V := { ck := tt_ck, fits := slk_cons f_rule_Fits.fits (slk_cons f_rule_Ahead.fits (slk_nil)), mixed := mixed }
theorem f_pick_First.fits : Fits P 42 f_pick_First.S := fits_of f_pick_First.V_ok Go.Proofs.Try.func42 (by kernel_rfl) (by decide) (by decide) rfl (fun x r ⟨k, H⟩ => f_pick_First.f_ok f_pick_First.V_ok k x.1 x.2.1 x.2.2.1 H)
/-! ### f_table_Look: function 22, wayfinder/table.Look -/
abbrev f_table_Look.ps : Sg := [(false, (.slice T814c)), (false, (.int .i64)), (false, (.int .i64)), (false, (.int .i64))]
abbrev f_table_Look.rs : Sg := [(true, T713d), (false, (.int .i64))]
noncomputable def f_table_Look.c0 : Code := (Go.Proofs.Try.f22.body).getD .skip
noncomputable def f_table_Look.G : List (Nat × Spec) := [(41, f_table_at.S), (42, f_pick_First.S)]
noncomputable def f_table_Look.V : Env := { tt := tt, Γ := slk f_table_Look.G }
noncomputable abbrev f_table_Look.Q (r : Tup f_table_Look.rs) : Exit → St → Prop := Qr tt Go.Proofs.Try.f22.results ⟨f_table_Look.ps, f_table_Look.rs, .any, none, fun _ _ => True⟩ r
abbrev f_table_Look.R := Tup f_table_Look.rs
noncomputable def f_table_Look.f (k : Nat) (a1 : List T814c.T) (a2 : Int) (a3 : Int) (a4 : Int) : Option f_table_Look.R :=
  (f_table_at.f k a1 a2).bind fun y1 =>
    if (y1.1 == (a1.length : Int)) = true then
      some ((0, 0), ((4 : Int), ()))
    else
      if 0 ≤ y1.1 then
        if y1.1 < (a1.length : Int) then
          (f_pick_First.f k ((att T814c a1 y1.1).2) a3 a4).bind fun y4 =>
            if (decide (y4.1 < (0 : Int))) = true then
              some ((0, 0), ((3 : Int), ()))
            else
              if 0 ≤ y4.1 then
                if y4.1 < (((att T814c a1 y1.1).2).length : Int) then
                  if ((((((att T1383 ((att T814c a1 y1.1).2) y4.1).2).2).2).1) != (1 : Int)) = true then
                    some (((((att T1383 ((att T814c a1 y1.1).2) y4.1).2).2).2), ((2 : Int), ()))
                  else
                    some (((((att T1383 ((att T814c a1 y1.1).2) y4.1).2).2).2), ((0 : Int), ()))
                else none
              else none
        else none
      else none
noncomputable def f_table_Look.S : Spec := ⟨f_table_Look.ps, f_table_Look.rs, .any, none, fun x r => ∃ k, f_table_Look.f k x.1 x.2.1 x.2.2.1 x.2.2.2.1 = some r⟩
theorem f_table_Look.f_ok (hV : EnvOk P f_table_Look.V) {r : f_table_Look.R} (k : Nat) (a1 : List T814c.T) (a2 : Int) (a3 : Int) (a4 : Int) (H : f_table_Look.f k a1 a2 a3 a4 = some r) : W P 0 f_table_Look.c0 (⟨46, [(0, .cv (.one (.sl T814c a1 .any))), (1, .cv (.one (.int .i64 a2))), (2, .cv (.one (.int .i64 a3))), (3, .cv (.one (.int .i64 a4)))], []⟩) (f_table_Look.Q r) := by
  unfold f_table_Look.f at H
  refine D_seq (by kernel_rfl) ?_
  refine D_reg (cs := []) (τ := ⟨46, [(0, .cv (.one (.sl T814c a1 .any))), (1, .cv (.one (.int .i64 a2))), (2, .cv (.one (.int .i64 a3))), (3, .cv (.one (.int .i64 a4))), (8, .cv (.one (.ptr 0 0)))], [(.box 2, [.int .i64 0, .int .i64 0])]⟩) hV 1 [(0, {sb := 0})] {live := [0, 1, 2, 3, 8], src := [some 0]} (by kernel_rfl) (by kernel_rfl) trivial ?_
  refine th_n ?_
  refine D_seq (by kernel_rfl) ?_
  obtain ⟨y1, e2, H⟩ := of_bind H
  refine D_reg (cs := [f_table_at.S.rel (a1, a2, ()) y1]) (τ := ⟨46, [(0, .cv (.one (.sl T814c a1 .any))), (2, .cv (.one (.int .i64 a3))), (3, .cv (.one (.int .i64 a4))), (8, .cv (.one (.ptr 0 0))), (10, .cv (.one (.int .i64 y1.1)))], [(.box 2, [.int .i64 0, .int .i64 0])]⟩) hV 0 [(2, {res := some ⟨f_table_at.S.rs, y1⟩})] {live := [0, 2, 3, 8, 10], src := [some 0]} (by kernel_rfl) (by kernel_rfl) ⟨⟨k, e2⟩, trivial⟩ ?_
  refine th_n ?_
  refine D_seq (by kernel_rfl) ?_
  refine D_seq (by kernel_rfl) ?_
  refine D_reg (cs := []) (τ := ⟨46, [(0, .cv (.one (.sl T814c a1 .any))), (2, .cv (.one (.int .i64 a3))), (3, .cv (.one (.int .i64 a4))), (8, .cv (.one (.ptr 0 0))), (10, .cv (.one (.int .i64 y1.1))), (19, .cv (.one (.bool (y1.1 == (a1.length : Int)))))], [(.box 2, [.int .i64 0, .int .i64 0])]⟩) hV 0 [] {live := [0, 2, 3, 8, 10, 19], src := [some 0]} (by kernel_rfl) (by kernel_rfl) trivial ?_
  refine th_n ?_
  refine D_condB (t := 19) (b := (y1.1 == (a1.length : Int))) (by kernel_rfl) (by kernel_rfl) (fun hb3 => ?_) (fun hb3 => ?_)
  · rw [if_pos hb3] at H
    refine D_seq (by kernel_rfl) ?_
    refine D_reg (cs := []) (τ := ⟨46, [(8, .cv (.one (.ptr 0 0))), (9, .cv (.one (.int .i64 4)))], [(.box 2, [.int .i64 0, .int .i64 0])]⟩) hV 0 [] {live := [8, 9], src := [some 0]} (by kernel_rfl) (by kernel_rfl) trivial ?_
    refine th_n ?_
    refine D_ret (by kernel_rfl) ?_
    refine th_r ?_
    exact lf_r (Eq.trans (by kernel_rfl) H)
  · rw [if_neg (by rw [hb3]; decide)] at H
    refine D_skip (by kernel_rfl) ?_
    refine th_n ?_
    refine D_seq (by kernel_rfl) ?_
    obtain ⟨n5, H⟩ := of_if H
    obtain ⟨n6, H⟩ := of_if H
    obtain ⟨y4, e7, H⟩ := of_bind H
    refine D_reg (cs := [0 ≤ y1.1, y1.1 < (a1.length : Int), f_pick_First.S.rel ((att T814c a1 y1.1).2, a3, a4, ()) y4]) (τ := ⟨46, [(0, .cv (.one (.sl T814c a1 .any))), (8, .cv (.one (.ptr 0 0))), (10, .cv (.one (.int .i64 y1.1))), (11, .cv (.one (.int .i64 y4.1)))], [(.box 2, [.int .i64 0, .int .i64 0])]⟩) hV 0 [(7, {res := some ⟨f_pick_First.S.rs, y4⟩})] {live := [0, 8, 10, 11], src := [some 0]} (by kernel_rfl) (by kernel_rfl) ⟨n5, n6, ⟨k, e7⟩, trivial⟩ ?_
    refine th_n ?_
    refine D_seq (by kernel_rfl) ?_
    refine D_seq (by kernel_rfl) ?_
    refine D_reg (cs := []) (τ := ⟨46, [(0, .cv (.one (.sl T814c a1 .any))), (8, .cv (.one (.ptr 0 0))), (10, .cv (.one (.int .i64 y1.1))), (11, .cv (.one (.int .i64 y4.1))), (30, .cv (.one (.bool (decide (y4.1 < (0 : Int))))))], [(.box 2, [.int .i64 0, .int .i64 0])]⟩) hV 0 [] {live := [0, 8, 10, 11, 30], src := [some 0]} (by kernel_rfl) (by kernel_rfl) trivial ?_
    refine th_n ?_
    refine D_condB (t := 30) (b := (decide (y4.1 < (0 : Int)))) (by kernel_rfl) (by kernel_rfl) (fun hb8 => ?_) (fun hb8 => ?_)
    · rw [if_pos hb8] at H
      refine D_seq (by kernel_rfl) ?_
      refine D_reg (cs := []) (τ := ⟨46, [(8, .cv (.one (.ptr 0 0))), (9, .cv (.one (.int .i64 3)))], [(.box 2, [.int .i64 0, .int .i64 0])]⟩) hV 0 [] {live := [8, 9], src := [some 0]} (by kernel_rfl) (by kernel_rfl) trivial ?_
      refine th_n ?_
      refine D_ret (by kernel_rfl) ?_
      refine th_r ?_
      exact lf_r (Eq.trans (by kernel_rfl) H)
    · rw [if_neg (by rw [hb8]; decide)] at H
      refine D_skip (by kernel_rfl) ?_
      refine th_n ?_
      refine D_seq (by kernel_rfl) ?_
      obtain ⟨n9, H⟩ := of_if H
      obtain ⟨n10, H⟩ := of_if H
      refine D_reg (cs := [0 ≤ y1.1, y1.1 < (a1.length : Int), 0 ≤ y4.1, y4.1 < (((att T814c a1 y1.1).2).length : Int)]) (τ := ⟨46, [(8, .cv (.one (.ptr 0 0))), (12, .cv (.one (.ptr 1 0)))], [(.box 2, [.int .i64 0, .int .i64 0]), (.box 2, [.int .i64 (((((att T1383 ((att T814c a1 y1.1).2) y4.1).2).2).2).1), .int .i64 (((((att T1383 ((att T814c a1 y1.1).2) y4.1).2).2).2).2)])]⟩) hV 1 [(9, {sb := 1})] {live := [8, 12], src := [some 0, some 1]} (by kernel_rfl) (by kernel_rfl) ⟨n5, n6, n9, n10, trivial⟩ ?_
      refine th_n ?_
      refine D_seq (by kernel_rfl) ?_
      refine D_seq (by kernel_rfl) ?_
      refine D_reg (cs := []) (τ := ⟨46, [(8, .cv (.one (.ptr 0 0))), (12, .cv (.one (.ptr 1 0))), (43, .cv (.one (.bool ((((((att T1383 ((att T814c a1 y1.1).2) y4.1).2).2).2).1) != (1 : Int)))))], [(.box 2, [.int .i64 0, .int .i64 0]), (.box 2, [.int .i64 (((((att T1383 ((att T814c a1 y1.1).2) y4.1).2).2).2).1), .int .i64 (((((att T1383 ((att T814c a1 y1.1).2) y4.1).2).2).2).2)])]⟩) hV 0 [] {live := [8, 12, 43], src := [some 0, some 1]} (by kernel_rfl) (by kernel_rfl) trivial ?_
      refine th_n ?_
      refine D_condB (t := 43) (b := ((((((att T1383 ((att T814c a1 y1.1).2) y4.1).2).2).2).1) != (1 : Int))) (by kernel_rfl) (by kernel_rfl) (fun hb11 => ?_) (fun hb11 => ?_)
      · rw [if_pos hb11] at H
        refine D_seq (by kernel_rfl) ?_
        refine D_reg (cs := []) (τ := ⟨46, [(8, .cv (.one (.ptr 0 0))), (9, .cv (.one (.int .i64 2)))], [(.box 2, [.int .i64 (((((att T1383 ((att T814c a1 y1.1).2) y4.1).2).2).2).1), .int .i64 (((((att T1383 ((att T814c a1 y1.1).2) y4.1).2).2).2).2)])]⟩) hV 0 [] {live := [8, 9], src := [some 0]} (by kernel_rfl) (by kernel_rfl) trivial ?_
        refine th_n ?_
        refine D_ret (by kernel_rfl) ?_
        refine th_r ?_
        exact lf_r (Eq.trans (by kernel_rfl) H)
      · rw [if_neg (by rw [hb11]; decide)] at H
        refine D_skip (by kernel_rfl) ?_
        refine th_n ?_
        refine D_seq (by kernel_rfl) ?_
        refine D_reg (cs := []) (τ := ⟨46, [(8, .cv (.one (.ptr 0 0))), (9, .cv (.one (.int .i64 0)))], [(.box 2, [.int .i64 (((((att T1383 ((att T814c a1 y1.1).2) y4.1).2).2).2).1), .int .i64 (((((att T1383 ((att T814c a1 y1.1).2) y4.1).2).2).2).2)])]⟩) hV 0 [] {live := [8, 9], src := [some 0]} (by kernel_rfl) (by kernel_rfl) trivial ?_
        refine th_n ?_
        refine D_ret (by kernel_rfl) ?_
        exact lf_r (Eq.trans (by kernel_rfl) H)
theorem f_table_Look.V_ok : EnvOk P f_table_Look.V := { ck := tt_ck, fits := slk_cons f_table_at.fits (slk_cons f_pick_First.fits (slk_nil)), mixed := mixed }
theorem f_table_Look.fits : Fits P 22 f_table_Look.S := fits_of f_table_Look.V_ok Go.Proofs.Try.func22 (by kernel_rfl) (by decide) (by decide) rfl (fun x r ⟨k, H⟩ => f_table_Look.f_ok f_table_Look.V_ok k x.1 x.2.1 x.2.2.1 x.2.2.2.1 H)
/-! ### f_law09_awake: function 21, wayfinder/wayfinderlaw09.awake -/
abbrev f_law09_awake.ps : Sg := []
abbrev f_law09_awake.rs : Sg := [(false, .bool)]
noncomputable def f_law09_awake.c0 : Code := (Go.Proofs.Try.f21.body).getD .skip
noncomputable def f_law09_awake.G : List (Nat × Spec) := [(22, f_table_Look.S), (24, f_table_Put.S), (32, f_table_Size.S)]
noncomputable def f_law09_awake.V : Env := { tt := tt, Γ := slk f_law09_awake.G }
noncomputable abbrev f_law09_awake.Q (r : Tup f_law09_awake.rs) : Exit → St → Prop := Qr tt Go.Proofs.Try.f21.results ⟨f_law09_awake.ps, f_law09_awake.rs, .any, none, fun _ _ => True⟩ r
abbrev f_law09_awake.R := Tup f_law09_awake.rs
noncomputable def f_law09_awake.f (k : Nat) : Option f_law09_awake.R :=
  (f_table_Put.f k [] (2 : Int) ((0, 0), (-1, (0, (0, 0)))) (9 : Int)).bind fun y1 =>
    (f_table_Put.f k y1.1 (1 : Int) ((0, 0), (3, (0, (0, 0)))) (9 : Int)).bind fun y3 =>
      (f_table_Look.f k y3.1 (3 : Int) (0 : Int) (0 : Int)).bind fun y5 =>
        (f_table_Look.f k y3.1 (2 : Int) (0 : Int) (0 : Int)).bind fun y7 =>
          if (y1.2.1 == (0 : Int)) = true then
            if (y3.2.1 == (0 : Int)) = true then
              if ((y3.1.length : Int) == (2 : Int)) = true then
                if (0 : Int) < (y3.1.length : Int) then
                  if (((att T814c y3.1 0).1) == (1 : Int)) = true then
                    if (1 : Int) < (y3.1.length : Int) then
                      if (((att T814c y3.1 1).1) == (2 : Int)) = true then
                        if (y5.2.1 == (4 : Int)) = true then
                          if (y7.2.1 == (2 : Int)) = true then
                            (f_table_Size.f k y3.1).bind fun y9 =>
                              some ((y9.1 == (2 : Int)), ())
                          else
                            some (false, ())
                        else
                          some (false, ())
                      else
                        some (false, ())
                    else none
                  else
                    some (false, ())
                else none
              else
                some (false, ())
            else
              some (false, ())
          else
            some (false, ())
noncomputable def f_law09_awake.S : Spec := ⟨f_law09_awake.ps, f_law09_awake.rs, .any, none, fun x r => ∃ k, f_law09_awake.f k = some r⟩
theorem f_law09_awake.f_ok (hV : EnvOk P f_law09_awake.V) {r : f_law09_awake.R} (k : Nat) (H : f_law09_awake.f k = some r) : W P 0 f_law09_awake.c0 (⟨68, [], []⟩) (f_law09_awake.Q r) := by
  unfold f_law09_awake.f at H
  refine D_seq (by kernel_rfl) ?_
  refine D_reg (cs := []) (τ := ⟨68, [], []⟩) hV 0 [] {live := [], src := []} (by kernel_rfl) (by kernel_rfl) trivial ?_
  refine th_n ?_
  refine D_seq (by kernel_rfl) ?_
  obtain ⟨y1, e2, H⟩ := of_bind H
  refine D_reg (cs := [f_table_Put.S.rel ([], 2, ((0, 0), (-1, (0, (0, 0)))), 9, ()) y1]) (τ := ⟨68, [(1, .cv (.one (.sl T814c y1.1 .any))), (2, .cv (.one (.int .i64 y1.2.1)))], []⟩) hV 0 [(1, {res := some ⟨f_table_Put.S.rs, y1⟩})] {live := [1, 2], src := []} (by kernel_rfl) (by kernel_rfl) ⟨⟨k, e2⟩, trivial⟩ ?_
  refine th_n ?_
  refine D_seq (by kernel_rfl) ?_
  obtain ⟨y3, e4, H⟩ := of_bind H
  refine D_reg (cs := [f_table_Put.S.rel (y1.1, 1, ((0, 0), (3, (0, (0, 0)))), 9, ()) y3]) (τ := ⟨68, [(2, .cv (.one (.int .i64 y1.2.1))), (3, .cv (.one (.sl T814c y3.1 .any))), (4, .cv (.one (.int .i64 y3.2.1)))], []⟩) hV 0 [(2, {res := some ⟨f_table_Put.S.rs, y3⟩})] {live := [2, 3, 4], src := []} (by kernel_rfl) (by kernel_rfl) ⟨⟨k, e4⟩, trivial⟩ ?_
  refine th_n ?_
  refine D_seq (by kernel_rfl) ?_
  obtain ⟨y5, e6, H⟩ := of_bind H
  refine D_reg (cs := [f_table_Look.S.rel (y3.1, 3, 0, 0, ()) y5]) (τ := ⟨68, [(2, .cv (.one (.int .i64 y1.2.1))), (3, .cv (.one (.sl T814c y3.1 .any))), (4, .cv (.one (.int .i64 y3.2.1))), (6, .cv (.one (.int .i64 y5.2.1)))], []⟩) hV 1 [(1, {res := some ⟨f_table_Look.S.rs, y5⟩}), (5, {sb := 0})] {live := [2, 3, 4, 6], src := []} (by kernel_rfl) (by kernel_rfl) ⟨⟨k, e6⟩, trivial⟩ ?_
  refine th_n ?_
  refine D_seq (by kernel_rfl) ?_
  obtain ⟨y7, e8, H⟩ := of_bind H
  refine D_reg (cs := [f_table_Look.S.rel (y3.1, 2, 0, 0, ()) y7]) (τ := ⟨68, [(2, .cv (.one (.int .i64 y1.2.1))), (3, .cv (.one (.sl T814c y3.1 .any))), (4, .cv (.one (.int .i64 y3.2.1))), (6, .cv (.one (.int .i64 y5.2.1))), (8, .cv (.one (.int .i64 y7.2.1)))], []⟩) hV 1 [(1, {res := some ⟨f_table_Look.S.rs, y7⟩}), (5, {sb := 0})] {live := [2, 3, 4, 6, 8], src := []} (by kernel_rfl) (by kernel_rfl) ⟨⟨k, e8⟩, trivial⟩ ?_
  refine th_n ?_
  refine D_seq (by kernel_rfl) ?_
  rcases of_ite H with ⟨hb10, H⟩ | ⟨hb10, H⟩
  · rcases of_ite H with ⟨hb11, H⟩ | ⟨hb11, H⟩
    · rcases of_ite H with ⟨hb12, H⟩ | ⟨hb12, H⟩
      · obtain ⟨n13, H⟩ := of_if H
        rcases of_ite H with ⟨hb14, H⟩ | ⟨hb14, H⟩
        · obtain ⟨n15, H⟩ := of_if H
          rcases of_ite H with ⟨hb16, H⟩ | ⟨hb16, H⟩
          · rcases of_ite H with ⟨hb17, H⟩ | ⟨hb17, H⟩
            · rcases of_ite H with ⟨hb18, H⟩ | ⟨hb18, H⟩
              · obtain ⟨y9, e19, H⟩ := of_bind H
                refine D_reg (cs := [((y1.2.1 == (0 : Int))) = true, ((y3.2.1 == (0 : Int))) = true, (((y3.1.length : Int) == (2 : Int))) = true, 0 ≤ (0 : Int), (0 : Int) < (y3.1.length : Int), ((((att T814c y3.1 0).1) == (1 : Int))) = true, 0 ≤ (1 : Int), (1 : Int) < (y3.1.length : Int), ((((att T814c y3.1 1).1) == (2 : Int))) = true, ((y5.2.1 == (4 : Int))) = true, ((y7.2.1 == (2 : Int))) = true, f_table_Size.S.rel (y3.1, ()) y9]) (τ := ⟨68, [(0, .cv (.one (.bool (y9.1 == (2 : Int)))))], []⟩) hV 0 [(1, {bv := some true}), (5, {bv := some true}), (10, {bv := some true}), (17, {bv := some true}), (24, {bv := some true}), (28, {bv := some true}), (32, {bv := some true}), (35, {res := some ⟨f_table_Size.S.rs, y9⟩})] {live := [0], src := []} (by kernel_rfl) (by kernel_rfl) ⟨hb10, hb11, hb12, (by decide), n13, hb14, (by decide), n15, hb16, hb17, hb18, ⟨k, e19⟩, trivial⟩ ?_
                refine th_n ?_
                refine D_ret (by kernel_rfl) ?_
                exact lf_r (Eq.trans (by kernel_rfl) H)
              · refine D_reg (cs := [((y1.2.1 == (0 : Int))) = true, ((y3.2.1 == (0 : Int))) = true, (((y3.1.length : Int) == (2 : Int))) = true, 0 ≤ (0 : Int), (0 : Int) < (y3.1.length : Int), ((((att T814c y3.1 0).1) == (1 : Int))) = true, 0 ≤ (1 : Int), (1 : Int) < (y3.1.length : Int), ((((att T814c y3.1 1).1) == (2 : Int))) = true, ((y5.2.1 == (4 : Int))) = true, ((y7.2.1 == (2 : Int))) = false]) (τ := ⟨68, [(0, .cv (.one (.bool false)))], []⟩) hV 0 [(1, {bv := some true}), (5, {bv := some true}), (10, {bv := some true}), (17, {bv := some true}), (24, {bv := some true}), (28, {bv := some true}), (32, {bv := some false})] {live := [0], src := []} (by kernel_rfl) (by kernel_rfl) ⟨hb10, hb11, hb12, (by decide), n13, hb14, (by decide), n15, hb16, hb17, hb18, trivial⟩ ?_
                refine th_n ?_
                refine D_ret (by kernel_rfl) ?_
                exact lf_r (Eq.trans (by kernel_rfl) H)
            · refine D_reg (cs := [((y1.2.1 == (0 : Int))) = true, ((y3.2.1 == (0 : Int))) = true, (((y3.1.length : Int) == (2 : Int))) = true, 0 ≤ (0 : Int), (0 : Int) < (y3.1.length : Int), ((((att T814c y3.1 0).1) == (1 : Int))) = true, 0 ≤ (1 : Int), (1 : Int) < (y3.1.length : Int), ((((att T814c y3.1 1).1) == (2 : Int))) = true, ((y5.2.1 == (4 : Int))) = false]) (τ := ⟨68, [(0, .cv (.one (.bool false)))], []⟩) hV 0 [(1, {bv := some true}), (5, {bv := some true}), (10, {bv := some true}), (17, {bv := some true}), (24, {bv := some true}), (28, {bv := some false})] {live := [0], src := []} (by kernel_rfl) (by kernel_rfl) ⟨hb10, hb11, hb12, (by decide), n13, hb14, (by decide), n15, hb16, hb17, trivial⟩ ?_
              refine th_n ?_
              refine D_ret (by kernel_rfl) ?_
              exact lf_r (Eq.trans (by kernel_rfl) H)
          · refine D_reg (cs := [((y1.2.1 == (0 : Int))) = true, ((y3.2.1 == (0 : Int))) = true, (((y3.1.length : Int) == (2 : Int))) = true, 0 ≤ (0 : Int), (0 : Int) < (y3.1.length : Int), ((((att T814c y3.1 0).1) == (1 : Int))) = true, 0 ≤ (1 : Int), (1 : Int) < (y3.1.length : Int), ((((att T814c y3.1 1).1) == (2 : Int))) = false]) (τ := ⟨68, [(0, .cv (.one (.bool false)))], []⟩) hV 0 [(1, {bv := some true}), (5, {bv := some true}), (10, {bv := some true}), (17, {bv := some true}), (24, {bv := some false})] {live := [0], src := []} (by kernel_rfl) (by kernel_rfl) ⟨hb10, hb11, hb12, (by decide), n13, hb14, (by decide), n15, hb16, trivial⟩ ?_
            refine th_n ?_
            refine D_ret (by kernel_rfl) ?_
            exact lf_r (Eq.trans (by kernel_rfl) H)
        · refine D_reg (cs := [((y1.2.1 == (0 : Int))) = true, ((y3.2.1 == (0 : Int))) = true, (((y3.1.length : Int) == (2 : Int))) = true, 0 ≤ (0 : Int), (0 : Int) < (y3.1.length : Int), ((((att T814c y3.1 0).1) == (1 : Int))) = false]) (τ := ⟨68, [(0, .cv (.one (.bool false)))], []⟩) hV 0 [(1, {bv := some true}), (5, {bv := some true}), (10, {bv := some true}), (17, {bv := some false})] {live := [0], src := []} (by kernel_rfl) (by kernel_rfl) ⟨hb10, hb11, hb12, (by decide), n13, hb14, trivial⟩ ?_
          refine th_n ?_
          refine D_ret (by kernel_rfl) ?_
          exact lf_r (Eq.trans (by kernel_rfl) H)
      · refine D_reg (cs := [((y1.2.1 == (0 : Int))) = true, ((y3.2.1 == (0 : Int))) = true, (((y3.1.length : Int) == (2 : Int))) = false]) (τ := ⟨68, [(0, .cv (.one (.bool false)))], []⟩) hV 0 [(1, {bv := some true}), (5, {bv := some true}), (10, {bv := some false})] {live := [0], src := []} (by kernel_rfl) (by kernel_rfl) ⟨hb10, hb11, hb12, trivial⟩ ?_
        refine th_n ?_
        refine D_ret (by kernel_rfl) ?_
        exact lf_r (Eq.trans (by kernel_rfl) H)
    · refine D_reg (cs := [((y1.2.1 == (0 : Int))) = true, ((y3.2.1 == (0 : Int))) = false]) (τ := ⟨68, [(0, .cv (.one (.bool false)))], []⟩) hV 0 [(1, {bv := some true}), (5, {bv := some false})] {live := [0], src := []} (by kernel_rfl) (by kernel_rfl) ⟨hb10, hb11, trivial⟩ ?_
      refine th_n ?_
      refine D_ret (by kernel_rfl) ?_
      exact lf_r (Eq.trans (by kernel_rfl) H)
  · refine D_reg (cs := [((y1.2.1 == (0 : Int))) = false]) (τ := ⟨68, [(0, .cv (.one (.bool false)))], []⟩) hV 0 [(1, {bv := some false})] {live := [0], src := []} (by kernel_rfl) (by kernel_rfl) ⟨hb10, trivial⟩ ?_
    refine th_n ?_
    refine D_ret (by kernel_rfl) ?_
    exact lf_r (Eq.trans (by kernel_rfl) H)
theorem f_law09_awake.V_ok : EnvOk P f_law09_awake.V := { ck := tt_ck, fits := slk_cons f_table_Look.fits (slk_cons f_table_Put.fits (slk_cons f_table_Size.fits (slk_nil))), mixed := mixed }
theorem f_law09_awake.fits : Fits P 21 f_law09_awake.S := fits_of f_law09_awake.V_ok Go.Proofs.Try.func21 (by kernel_rfl) (by decide) (by decide) rfl (fun x r ⟨k, H⟩ => f_law09_awake.f_ok f_law09_awake.V_ok k H)
/-! ### f_law09_Few: function 18, wayfinder/wayfinderlaw09.Few -/
abbrev f_law09_Few.ps : Sg := [(false, (.slice T814c))]
abbrev f_law09_Few.rs : Sg := [(false, .bool)]
noncomputable def f_law09_Few.c0 : Code := (Go.Proofs.Try.f18.body).getD .skip
noncomputable def f_law09_Few.G : List (Nat × Spec) := []
noncomputable def f_law09_Few.V : Env := { tt := tt, Γ := slk f_law09_Few.G }
noncomputable abbrev f_law09_Few.Q (r : Tup f_law09_Few.rs) : Exit → St → Prop := Qr tt Go.Proofs.Try.f18.results ⟨f_law09_Few.ps, f_law09_Few.rs, .any, none, fun _ _ => True⟩ r
abbrev f_law09_Few.R := Tup f_law09_Few.rs
noncomputable def f_law09_Few.s1 (p1 : List T814c.T) (p2 : Int) : St := ⟨20, [(0, .cv (.one (.sl T814c p1 .any))), (3, .cv (.one (.int .i64 p2)))], []⟩
noncomputable def f_law09_Few.b1 (L1 : List T814c.T → Int → Option f_law09_Few.R) (k : Nat) (p1 : List T814c.T) (p2 : Int) : Option f_law09_Few.R :=
  if (decide (p2 < (p1.length : Int))) = true then
  if 0 ≤ p2 then
    if p2 < (p1.length : Int) then
      if (decide ((((att T814c p1 p2).2).length : Int) > (60 : Int))) = true then
        some (false, ())
      else
        L1 p1 (IntKind.i64.wrap (p2 + 1))
    else none
  else none
else
  some (true, ())
theorem f_law09_Few.b1_ok (hV : EnvOk P f_law09_Few.V) {r : f_law09_Few.R} (L1 : List T814c.T → Int → Option f_law09_Few.R) (m1 : Nat) (hL1 : ∀ (p1 : List T814c.T) (p2 : Int), L1 p1 p2 = some r → WL P 0 (Code.l (Code.l (Code.r (Code.l (Code.r (Code.r f_law09_Few.c0)))))) (blockW 0 (thenW P 0 (Code.r (Code.r (Code.r f_law09_Few.c0))) (f_law09_Few.Q r))) m1 (f_law09_Few.s1 p1 p2)) (k : Nat) (p1 : List T814c.T) (p2 : Int) (H : f_law09_Few.b1 L1 k p1 p2 = some r) : W P 0 (Code.l (Code.l (Code.r (Code.l (Code.r (Code.r f_law09_Few.c0)))))) (f_law09_Few.s1 p1 p2) (roundW P 0 (Code.l (Code.l (Code.r (Code.l (Code.r (Code.r f_law09_Few.c0)))))) (blockW 0 (thenW P 0 (Code.r (Code.r (Code.r f_law09_Few.c0))) (f_law09_Few.Q r))) m1) := by
  unfold f_law09_Few.b1 at H
  refine D_seq (by kernel_rfl) ?_
  refine D_seq (by kernel_rfl) ?_
  refine D_reg (cs := []) (τ := ⟨20, [(0, .cv (.one (.sl T814c p1 .any))), (3, .cv (.one (.int .i64 p2))), (10, .cv (.one (.bool (decide (p2 < (p1.length : Int))))))], []⟩) hV 0 [] {live := [0, 3, 10], src := []} (by kernel_rfl) (by kernel_rfl) trivial ?_
  refine th_n ?_
  refine D_condB (t := 10) (b := (decide (p2 < (p1.length : Int)))) (by kernel_rfl) (by kernel_rfl) (fun hb2 => ?_) (fun hb2 => ?_)
  · rw [if_pos hb2] at H
    refine D_skip (by kernel_rfl) ?_
    refine th_n ?_
    refine D_seq (by kernel_rfl) ?_
    refine D_block (id := 1) (by kernel_rfl) ?_
    refine D_seq (by kernel_rfl) ?_
    obtain ⟨n3, H⟩ := of_if H
    obtain ⟨n4, H⟩ := of_if H
    refine D_reg (cs := [0 ≤ p2, p2 < (p1.length : Int)]) (τ := ⟨20, [(0, .cv (.one (.sl T814c p1 .any))), (3, .cv (.one (.int .i64 p2))), (19, .cv (.one (.bool (decide ((((att T814c p1 p2).2).length : Int) > (60 : Int))))))], []⟩) hV 0 [] {live := [0, 3, 19], src := []} (by kernel_rfl) (by kernel_rfl) ⟨n3, n4, trivial⟩ ?_
    refine th_n ?_
    refine D_condB (t := 19) (b := (decide ((((att T814c p1 p2).2).length : Int) > (60 : Int)))) (by kernel_rfl) (by kernel_rfl) (fun hb5 => ?_) (fun hb5 => ?_)
    · rw [if_pos hb5] at H
      refine D_seq (by kernel_rfl) ?_
      refine D_reg (cs := []) (τ := ⟨20, [(2, .cv (.one (.bool false)))], []⟩) hV 0 [] {live := [2], src := []} (by kernel_rfl) (by kernel_rfl) trivial ?_
      refine th_n ?_
      refine D_ret (by kernel_rfl) ?_
      refine bl_r ?_
      refine th_r ?_
      refine ro_r ?_
      refine bl_r ?_
      refine th_r ?_
      exact lf_r (Eq.trans (by kernel_rfl) H)
    · rw [if_neg (by rw [hb5]; decide)] at H
      refine D_skip (by kernel_rfl) ?_
      refine bl_n ?_
      refine th_n ?_
      refine D_reg (cs := []) (τ := ⟨20, [(0, .cv (.one (.sl T814c p1 .any))), (3, .cv (.one (.int .i64 (IntKind.i64.wrap (p2 + 1)))))], []⟩) hV 0 [] {live := [0, 3], src := []} (by kernel_rfl) (by kernel_rfl) trivial ?_
      refine ro_n (WL_tell (τ := f_law09_Few.s1 p1 (IntKind.i64.wrap (p2 + 1))) {fz := [], gr := 0, ad := [], live := [0, 3], src := []} (by kernel_rfl) (by kernel_rfl) ?_)
      exact hL1 p1 (IntKind.i64.wrap (p2 + 1)) H
  · rw [if_neg (by rw [hb2]; decide)] at H
    refine D_exit (id := 0) (by kernel_rfl) ?_
    refine th_x ?_
    refine ro_x ?_
    refine bl_h ?_
    refine th_n ?_
    refine D_seq (by kernel_rfl) ?_
    refine D_reg (cs := []) (τ := ⟨20, [(2, .cv (.one (.bool true)))], []⟩) hV 0 [] {live := [2], src := []} (by kernel_rfl) (by kernel_rfl) trivial ?_
    refine th_n ?_
    refine D_ret (by kernel_rfl) ?_
    exact lf_r (Eq.trans (by kernel_rfl) H)
noncomputable def f_law09_Few.l1 (k : Nat) : Nat → List T814c.T → Int → Option f_law09_Few.R
  | 0, _, _ => none
  | m + 1, p1, p2 => f_law09_Few.b1 (f_law09_Few.l1 k m) k p1 p2
theorem f_law09_Few.l1_ok (hV : EnvOk P f_law09_Few.V) {r : f_law09_Few.R} (k : Nat) : ∀ (m1 : Nat) (p1 : List T814c.T) (p2 : Int), f_law09_Few.l1 k m1 p1 p2 = some r → WL P 0 (Code.l (Code.l (Code.r (Code.l (Code.r (Code.r f_law09_Few.c0)))))) (blockW 0 (thenW P 0 (Code.r (Code.r (Code.r f_law09_Few.c0))) (f_law09_Few.Q r))) m1 (f_law09_Few.s1 p1 p2)
  | 0, _, _, H => by cases H
  | m1 + 1, p1, p2, H => WL_succ (f_law09_Few.b1_ok hV (f_law09_Few.l1 k m1) m1 (fun p1 p2 H => f_law09_Few.l1_ok hV k m1 p1 p2 H) k p1 p2 H)
noncomputable def f_law09_Few.f (k : Nat) (a1 : List T814c.T) : Option f_law09_Few.R :=
  if (decide ((a1.length : Int) > (20 : Int))) = true then
    some (false, ())
  else
    f_law09_Few.l1 k k a1 0
noncomputable def f_law09_Few.S : Spec := ⟨f_law09_Few.ps, f_law09_Few.rs, .any, none, fun x r => ∃ k, f_law09_Few.f k x.1 = some r⟩
theorem f_law09_Few.f_ok (hV : EnvOk P f_law09_Few.V) {r : f_law09_Few.R} (k : Nat) (a1 : List T814c.T) (H : f_law09_Few.f k a1 = some r) : W P 0 f_law09_Few.c0 (⟨20, [(0, .cv (.one (.sl T814c a1 .any)))], []⟩) (f_law09_Few.Q r) := by
  unfold f_law09_Few.f at H
  refine D_seq (by kernel_rfl) ?_
  refine D_reg (cs := []) (τ := ⟨20, [(0, .cv (.one (.sl T814c a1 .any)))], []⟩) hV 0 [] {live := [0], src := []} (by kernel_rfl) (by kernel_rfl) trivial ?_
  refine th_n ?_
  refine D_seq (by kernel_rfl) ?_
  refine D_seq (by kernel_rfl) ?_
  refine D_reg (cs := []) (τ := ⟨20, [(0, .cv (.one (.sl T814c a1 .any))), (6, .cv (.one (.bool (decide ((a1.length : Int) > (20 : Int))))))], []⟩) hV 0 [] {live := [0, 6], src := []} (by kernel_rfl) (by kernel_rfl) trivial ?_
  refine th_n ?_
  refine D_condB (t := 6) (b := (decide ((a1.length : Int) > (20 : Int)))) (by kernel_rfl) (by kernel_rfl) (fun hb1 => ?_) (fun hb1 => ?_)
  · rw [if_pos hb1] at H
    refine D_seq (by kernel_rfl) ?_
    refine D_reg (cs := []) (τ := ⟨20, [(2, .cv (.one (.bool false)))], []⟩) hV 0 [] {live := [2], src := []} (by kernel_rfl) (by kernel_rfl) trivial ?_
    refine th_n ?_
    refine D_ret (by kernel_rfl) ?_
    refine th_r ?_
    exact lf_r (Eq.trans (by kernel_rfl) H)
  · rw [if_neg (by rw [hb1]; decide)] at H
    refine D_skip (by kernel_rfl) ?_
    refine th_n ?_
    refine D_seq (by kernel_rfl) ?_
    refine D_seq (by kernel_rfl) ?_
    refine D_reg (cs := []) (τ := ⟨20, [(0, .cv (.one (.sl T814c a1 .any))), (3, .cv (.one (.int .i64 0)))], []⟩) hV 0 [] {live := [0, 3], src := []} (by kernel_rfl) (by kernel_rfl) trivial ?_
    refine th_n ?_
    refine D_block (id := 0) (by kernel_rfl) ?_
    refine W_tell (τ := f_law09_Few.s1 a1 0) {fz := [], gr := 0, ad := [], live := [0, 3], src := []} (by kernel_rfl) (by kernel_rfl) ?_
    exact D_loop (by kernel_rfl) k (f_law09_Few.l1_ok hV k k a1 0 H)
theorem f_law09_Few.V_ok : EnvOk P f_law09_Few.V := { ck := tt_ck, fits := slk_nil, mixed := mixed }
theorem f_law09_Few.fits : Fits P 18 f_law09_Few.S := fits_of f_law09_Few.V_ok Go.Proofs.Try.func18 (by kernel_rfl) (by decide) (by decide) rfl (fun x r ⟨k, H⟩ => f_law09_Few.f_ok f_law09_Few.V_ok k x.1 H)
/-! ### f_ref09_where: function 55, wayfinder/wayfinderref09.where -/
abbrev f_ref09_where.ps : Sg := [(false, (.slice T814c)), (false, (.int .i64))]
abbrev f_ref09_where.rs : Sg := [(false, (.int .i64))]
noncomputable def f_ref09_where.c0 : Code := (Go.Proofs.Try.f55.body).getD .skip
noncomputable def f_ref09_where.G : List (Nat × Spec) := []
noncomputable def f_ref09_where.V : Env := { tt := tt, Γ := slk f_ref09_where.G }
noncomputable abbrev f_ref09_where.Q (r : Tup f_ref09_where.rs) : Exit → St → Prop := Qr tt Go.Proofs.Try.f55.results ⟨f_ref09_where.ps, f_ref09_where.rs, .any, none, fun _ _ => True⟩ r
abbrev f_ref09_where.R := Tup f_ref09_where.rs
noncomputable def f_ref09_where.s1 (p1 : List T814c.T) (p2 : Int) (p3 : Int) : St := ⟨20, [(0, .cv (.one (.sl T814c p1 .any))), (1, .cv (.one (.int .i64 p2))), (5, .cv (.one (.int .i64 p3)))], []⟩
noncomputable def f_ref09_where.b1 (L1 : List T814c.T → Int → Int → Option f_ref09_where.R) (k : Nat) (p1 : List T814c.T) (p2 : Int) (p3 : Int) : Option f_ref09_where.R :=
  if (decide (p3 < (p1.length : Int))) = true then
  if 0 ≤ p3 then
    if p3 < (p1.length : Int) then
      if (((att T814c p1 p3).1) == p2) = true then
        some (p3, ())
      else
        L1 p1 p2 (IntKind.i64.wrap (p3 + 1))
    else none
  else none
else
  some ((-1 : Int), ())
theorem f_ref09_where.b1_ok (hV : EnvOk P f_ref09_where.V) {r : f_ref09_where.R} (L1 : List T814c.T → Int → Int → Option f_ref09_where.R) (m1 : Nat) (hL1 : ∀ (p1 : List T814c.T) (p2 : Int) (p3 : Int), L1 p1 p2 p3 = some r → WL P 0 (Code.l (Code.l (Code.r (Code.l (Code.r f_ref09_where.c0))))) (blockW 0 (thenW P 0 (Code.r (Code.r f_ref09_where.c0)) (f_ref09_where.Q r))) m1 (f_ref09_where.s1 p1 p2 p3)) (k : Nat) (p1 : List T814c.T) (p2 : Int) (p3 : Int) (H : f_ref09_where.b1 L1 k p1 p2 p3 = some r) : W P 0 (Code.l (Code.l (Code.r (Code.l (Code.r f_ref09_where.c0))))) (f_ref09_where.s1 p1 p2 p3) (roundW P 0 (Code.l (Code.l (Code.r (Code.l (Code.r f_ref09_where.c0))))) (blockW 0 (thenW P 0 (Code.r (Code.r f_ref09_where.c0)) (f_ref09_where.Q r))) m1) := by
  unfold f_ref09_where.b1 at H
  refine D_seq (by kernel_rfl) ?_
  refine D_seq (by kernel_rfl) ?_
  refine D_reg (cs := []) (τ := ⟨20, [(0, .cv (.one (.sl T814c p1 .any))), (1, .cv (.one (.int .i64 p2))), (5, .cv (.one (.int .i64 p3))), (9, .cv (.one (.bool (decide (p3 < (p1.length : Int))))))], []⟩) hV 0 [] {live := [0, 1, 5, 9], src := []} (by kernel_rfl) (by kernel_rfl) trivial ?_
  refine th_n ?_
  refine D_condB (t := 9) (b := (decide (p3 < (p1.length : Int)))) (by kernel_rfl) (by kernel_rfl) (fun hb1 => ?_) (fun hb1 => ?_)
  · rw [if_pos hb1] at H
    refine D_skip (by kernel_rfl) ?_
    refine th_n ?_
    refine D_seq (by kernel_rfl) ?_
    refine D_block (id := 1) (by kernel_rfl) ?_
    refine D_seq (by kernel_rfl) ?_
    obtain ⟨n2, H⟩ := of_if H
    obtain ⟨n3, H⟩ := of_if H
    refine D_reg (cs := [0 ≤ p3, p3 < (p1.length : Int)]) (τ := ⟨20, [(0, .cv (.one (.sl T814c p1 .any))), (1, .cv (.one (.int .i64 p2))), (5, .cv (.one (.int .i64 p3))), (18, .cv (.one (.bool (((att T814c p1 p3).1) == p2))))], []⟩) hV 0 [] {live := [0, 1, 5, 18], src := []} (by kernel_rfl) (by kernel_rfl) ⟨n2, n3, trivial⟩ ?_
    refine th_n ?_
    refine D_condB (t := 18) (b := (((att T814c p1 p3).1) == p2)) (by kernel_rfl) (by kernel_rfl) (fun hb4 => ?_) (fun hb4 => ?_)
    · rw [if_pos hb4] at H
      refine D_seq (by kernel_rfl) ?_
      refine D_reg (cs := []) (τ := ⟨20, [(4, .cv (.one (.int .i64 p3)))], []⟩) hV 0 [] {live := [4], src := []} (by kernel_rfl) (by kernel_rfl) trivial ?_
      refine th_n ?_
      refine D_ret (by kernel_rfl) ?_
      refine bl_r ?_
      refine th_r ?_
      refine ro_r ?_
      refine bl_r ?_
      refine th_r ?_
      exact lf_r (Eq.trans (by kernel_rfl) H)
    · rw [if_neg (by rw [hb4]; decide)] at H
      refine D_skip (by kernel_rfl) ?_
      refine bl_n ?_
      refine th_n ?_
      refine D_reg (cs := []) (τ := ⟨20, [(0, .cv (.one (.sl T814c p1 .any))), (1, .cv (.one (.int .i64 p2))), (5, .cv (.one (.int .i64 (IntKind.i64.wrap (p3 + 1)))))], []⟩) hV 0 [] {live := [0, 1, 5], src := []} (by kernel_rfl) (by kernel_rfl) trivial ?_
      refine ro_n (WL_tell (τ := f_ref09_where.s1 p1 p2 (IntKind.i64.wrap (p3 + 1))) {fz := [], gr := 0, ad := [], live := [0, 1, 5], src := []} (by kernel_rfl) (by kernel_rfl) ?_)
      exact hL1 p1 p2 (IntKind.i64.wrap (p3 + 1)) H
  · rw [if_neg (by rw [hb1]; decide)] at H
    refine D_exit (id := 0) (by kernel_rfl) ?_
    refine th_x ?_
    refine ro_x ?_
    refine bl_h ?_
    refine th_n ?_
    refine D_seq (by kernel_rfl) ?_
    refine D_reg (cs := []) (τ := ⟨20, [(4, .cv (.one (.int .i64 (-1))))], []⟩) hV 0 [] {live := [4], src := []} (by kernel_rfl) (by kernel_rfl) trivial ?_
    refine th_n ?_
    refine D_ret (by kernel_rfl) ?_
    exact lf_r (Eq.trans (by kernel_rfl) H)
noncomputable def f_ref09_where.l1 (k : Nat) : Nat → List T814c.T → Int → Int → Option f_ref09_where.R
  | 0, _, _, _ => none
  | m + 1, p1, p2, p3 => f_ref09_where.b1 (f_ref09_where.l1 k m) k p1 p2 p3
theorem f_ref09_where.l1_ok (hV : EnvOk P f_ref09_where.V) {r : f_ref09_where.R} (k : Nat) : ∀ (m1 : Nat) (p1 : List T814c.T) (p2 : Int) (p3 : Int), f_ref09_where.l1 k m1 p1 p2 p3 = some r → WL P 0 (Code.l (Code.l (Code.r (Code.l (Code.r f_ref09_where.c0))))) (blockW 0 (thenW P 0 (Code.r (Code.r f_ref09_where.c0)) (f_ref09_where.Q r))) m1 (f_ref09_where.s1 p1 p2 p3)
  | 0, _, _, _, H => by cases H
  | m1 + 1, p1, p2, p3, H => WL_succ (f_ref09_where.b1_ok hV (f_ref09_where.l1 k m1) m1 (fun p1 p2 p3 H => f_ref09_where.l1_ok hV k m1 p1 p2 p3 H) k p1 p2 p3 H)
noncomputable def f_ref09_where.f (k : Nat) (a1 : List T814c.T) (a2 : Int) : Option f_ref09_where.R :=
  f_ref09_where.l1 k k a1 a2 0
noncomputable def f_ref09_where.S : Spec := ⟨f_ref09_where.ps, f_ref09_where.rs, .any, none, fun x r => ∃ k, f_ref09_where.f k x.1 x.2.1 = some r⟩
theorem f_ref09_where.f_ok (hV : EnvOk P f_ref09_where.V) {r : f_ref09_where.R} (k : Nat) (a1 : List T814c.T) (a2 : Int) (H : f_ref09_where.f k a1 a2 = some r) : W P 0 f_ref09_where.c0 (⟨20, [(0, .cv (.one (.sl T814c a1 .any))), (1, .cv (.one (.int .i64 a2)))], []⟩) (f_ref09_where.Q r) := by
  unfold f_ref09_where.f at H
  refine D_seq (by kernel_rfl) ?_
  refine D_reg (cs := []) (τ := ⟨20, [(0, .cv (.one (.sl T814c a1 .any))), (1, .cv (.one (.int .i64 a2)))], []⟩) hV 0 [] {live := [0, 1], src := []} (by kernel_rfl) (by kernel_rfl) trivial ?_
  refine th_n ?_
  refine D_seq (by kernel_rfl) ?_
  refine D_seq (by kernel_rfl) ?_
  refine D_reg (cs := []) (τ := ⟨20, [(0, .cv (.one (.sl T814c a1 .any))), (1, .cv (.one (.int .i64 a2))), (5, .cv (.one (.int .i64 0)))], []⟩) hV 0 [] {live := [0, 1, 5], src := []} (by kernel_rfl) (by kernel_rfl) trivial ?_
  refine th_n ?_
  refine D_block (id := 0) (by kernel_rfl) ?_
  refine W_tell (τ := f_ref09_where.s1 a1 a2 0) {fz := [], gr := 0, ad := [], live := [0, 1, 5], src := []} (by kernel_rfl) (by kernel_rfl) ?_
  exact D_loop (by kernel_rfl) k (f_ref09_where.l1_ok hV k k a1 a2 0 H)
theorem f_ref09_where.V_ok : EnvOk P f_ref09_where.V := { ck := tt_ck, fits := slk_nil, mixed := mixed }
theorem f_ref09_where.fits : Fits P 55 f_ref09_where.S := fits_of f_ref09_where.V_ok Go.Proofs.Try.func55 (by kernel_rfl) (by decide) (by decide) rfl (fun x r ⟨k, H⟩ => f_ref09_where.f_ok f_ref09_where.V_ok k x.1 x.2.1 H)
/-! ### f_ref09_Of: function 30, wayfinder/wayfinderref09.Of -/
abbrev f_ref09_Of.ps : Sg := [(false, (.slice T814c)), (false, (.int .i64))]
abbrev f_ref09_Of.rs : Sg := [(false, (.slice T1383)), (false, .bool)]
noncomputable def f_ref09_Of.c0 : Code := (Go.Proofs.Try.f30.body).getD .skip
noncomputable def f_ref09_Of.G : List (Nat × Spec) := [(55, f_ref09_where.S)]
noncomputable def f_ref09_Of.V : Env := { tt := tt, Γ := slk f_ref09_Of.G }
noncomputable abbrev f_ref09_Of.Q (r : Tup f_ref09_Of.rs) : Exit → St → Prop := Qr tt Go.Proofs.Try.f30.results ⟨f_ref09_Of.ps, f_ref09_Of.rs, .any, none, fun _ _ => True⟩ r
abbrev f_ref09_Of.R := Tup f_ref09_Of.rs
noncomputable def f_ref09_Of.f (k : Nat) (a1 : List T814c.T) (a2 : Int) : Option f_ref09_Of.R :=
  (f_ref09_where.f k a1 a2).bind fun y1 =>
    if (decide (y1.1 < (0 : Int))) = true then
      some ([], (false, ()))
    else
      if 0 ≤ y1.1 then
        if y1.1 < (a1.length : Int) then
          if ((att T814c a1 y1.1).2).length * 48 ≤ 140737488355328 then
            some ((att T814c a1 y1.1).2, (true, ()))
          else none
        else none
      else none
noncomputable def f_ref09_Of.S : Spec := ⟨f_ref09_Of.ps, f_ref09_Of.rs, .any, none, fun x r => ∃ k, f_ref09_Of.f k x.1 x.2.1 = some r⟩
theorem f_ref09_Of.f_ok (hV : EnvOk P f_ref09_Of.V) {r : f_ref09_Of.R} (k : Nat) (a1 : List T814c.T) (a2 : Int) (H : f_ref09_Of.f k a1 a2 = some r) : W P 0 f_ref09_Of.c0 (⟨18, [(0, .cv (.one (.sl T814c a1 .any))), (1, .cv (.one (.int .i64 a2)))], []⟩) (f_ref09_Of.Q r) := by
  unfold f_ref09_Of.f at H
  refine D_seq (by kernel_rfl) ?_
  refine D_reg (cs := []) (τ := ⟨18, [(0, .cv (.one (.sl T814c a1 .any))), (1, .cv (.one (.int .i64 a2)))], []⟩) hV 0 [] {live := [0, 1], src := []} (by kernel_rfl) (by kernel_rfl) trivial ?_
  refine th_n ?_
  refine D_seq (by kernel_rfl) ?_
  obtain ⟨y1, e2, H⟩ := of_bind H
  refine D_reg (cs := [f_ref09_where.S.rel (a1, a2, ()) y1]) (τ := ⟨18, [(0, .cv (.one (.sl T814c a1 .any))), (6, .cv (.one (.int .i64 y1.1)))], []⟩) hV 0 [(2, {res := some ⟨f_ref09_where.S.rs, y1⟩})] {live := [0, 6], src := []} (by kernel_rfl) (by kernel_rfl) ⟨⟨k, e2⟩, trivial⟩ ?_
  refine th_n ?_
  refine D_seq (by kernel_rfl) ?_
  refine D_seq (by kernel_rfl) ?_
  refine D_reg (cs := []) (τ := ⟨18, [(0, .cv (.one (.sl T814c a1 .any))), (6, .cv (.one (.int .i64 y1.1))), (11, .cv (.one (.bool (decide (y1.1 < (0 : Int))))))], []⟩) hV 0 [] {live := [0, 6, 11], src := []} (by kernel_rfl) (by kernel_rfl) trivial ?_
  refine th_n ?_
  refine D_condB (t := 11) (b := (decide (y1.1 < (0 : Int)))) (by kernel_rfl) (by kernel_rfl) (fun hb3 => ?_) (fun hb3 => ?_)
  · rw [if_pos hb3] at H
    refine D_seq (by kernel_rfl) ?_
    refine D_reg (cs := []) (τ := ⟨18, [(4, .cv (.one (.nils))), (5, .cv (.one (.bool false)))], []⟩) hV 0 [] {live := [4, 5], src := []} (by kernel_rfl) (by kernel_rfl) trivial ?_
    refine th_n ?_
    refine D_ret (by kernel_rfl) ?_
    refine th_r ?_
    exact lf_r (Eq.trans (by kernel_rfl) H)
  · rw [if_neg (by rw [hb3]; decide)] at H
    refine D_skip (by kernel_rfl) ?_
    refine th_n ?_
    refine D_seq (by kernel_rfl) ?_
    obtain ⟨n4, H⟩ := of_if H
    obtain ⟨n5, H⟩ := of_if H
    obtain ⟨n6, H⟩ := of_if H
    refine D_reg (cs := [0 ≤ y1.1, y1.1 < (a1.length : Int), ((att T814c a1 y1.1).2).length * 48 ≤ 140737488355328]) (τ := ⟨18, [(4, .cv (.one (.own 0))), (5, .cv (.one (.bool true)))], [(.buf 39 T1383 ((att T814c a1 y1.1).2), [])]⟩) hV 1 [(5, {sb := 0})] {live := [4, 5], src := [some 0]} (by kernel_rfl) (by kernel_rfl) ⟨n4, n5, n6, trivial⟩ ?_
    refine th_n ?_
    refine D_ret (by kernel_rfl) ?_
    exact lf_r (Eq.trans (by kernel_rfl) H)
theorem f_ref09_Of.V_ok : EnvOk P f_ref09_Of.V := { ck := tt_ck, fits := slk_cons f_ref09_where.fits (slk_nil), mixed := mixed }
theorem f_ref09_Of.fits : Fits P 30 f_ref09_Of.S := fits_of f_ref09_Of.V_ok Go.Proofs.Try.func30 (by kernel_rfl) (by decide) (by decide) rfl (fun x r ⟨k, H⟩ => f_ref09_Of.f_ok f_ref09_Of.V_ok k x.1 x.2.1 H)
/-! ### f_ref01_bound: function 81, wayfinder/wayfinderref01.bound -/
abbrev f_ref01_bound.ps : Sg := [(false, (.int .i64))]
abbrev f_ref01_bound.rs : Sg := [(false, (.int .i64))]
noncomputable def f_ref01_bound.c0 : Code := (Go.Proofs.Try.f81.body).getD .skip
noncomputable def f_ref01_bound.G : List (Nat × Spec) := []
noncomputable def f_ref01_bound.V : Env := { tt := tt, Γ := slk f_ref01_bound.G }
noncomputable abbrev f_ref01_bound.Q (r : Tup f_ref01_bound.rs) : Exit → St → Prop := Qr tt Go.Proofs.Try.f81.results ⟨f_ref01_bound.ps, f_ref01_bound.rs, .any, none, fun _ _ => True⟩ r
abbrev f_ref01_bound.R := Tup f_ref01_bound.rs
noncomputable def f_ref01_bound.f (k : Nat) (a1 : Int) : Option f_ref01_bound.R :=
  if (decide (a1 < (0 : Int))) = true then
    some ((0 : Int), ())
  else
    if (decide (a1 > (32 : Int))) = true then
      some ((32 : Int), ())
    else
      some (a1, ())
noncomputable def f_ref01_bound.S : Spec := ⟨f_ref01_bound.ps, f_ref01_bound.rs, .any, none, fun x r => ∃ k, f_ref01_bound.f k x.1 = some r⟩
theorem f_ref01_bound.f_ok (hV : EnvOk P f_ref01_bound.V) {r : f_ref01_bound.R} (k : Nat) (a1 : Int) (H : f_ref01_bound.f k a1 = some r) : W P 0 f_ref01_bound.c0 (⟨8, [(0, .cv (.one (.int .i64 a1)))], []⟩) (f_ref01_bound.Q r) := by
  unfold f_ref01_bound.f at H
  refine D_seq (by kernel_rfl) ?_
  refine D_reg (cs := []) (τ := ⟨8, [(0, .cv (.one (.int .i64 a1)))], []⟩) hV 0 [] {live := [0], src := []} (by kernel_rfl) (by kernel_rfl) trivial ?_
  refine th_n ?_
  refine D_seq (by kernel_rfl) ?_
  refine D_seq (by kernel_rfl) ?_
  refine D_reg (cs := []) (τ := ⟨8, [(0, .cv (.one (.int .i64 a1))), (4, .cv (.one (.bool (decide (a1 < (0 : Int))))))], []⟩) hV 0 [] {live := [0, 4], src := []} (by kernel_rfl) (by kernel_rfl) trivial ?_
  refine th_n ?_
  refine D_condB (t := 4) (b := (decide (a1 < (0 : Int)))) (by kernel_rfl) (by kernel_rfl) (fun hb1 => ?_) (fun hb1 => ?_)
  · rw [if_pos hb1] at H
    refine D_seq (by kernel_rfl) ?_
    refine D_reg (cs := []) (τ := ⟨8, [(2, .cv (.one (.int .i64 0)))], []⟩) hV 0 [] {live := [2], src := []} (by kernel_rfl) (by kernel_rfl) trivial ?_
    refine th_n ?_
    refine D_ret (by kernel_rfl) ?_
    refine th_r ?_
    exact lf_r (Eq.trans (by kernel_rfl) H)
  · rw [if_neg (by rw [hb1]; decide)] at H
    refine D_skip (by kernel_rfl) ?_
    refine th_n ?_
    refine D_seq (by kernel_rfl) ?_
    refine D_seq (by kernel_rfl) ?_
    refine D_reg (cs := []) (τ := ⟨8, [(0, .cv (.one (.int .i64 a1))), (6, .cv (.one (.bool (decide (a1 > (32 : Int))))))], []⟩) hV 0 [] {live := [0, 6], src := []} (by kernel_rfl) (by kernel_rfl) trivial ?_
    refine th_n ?_
    refine D_condB (t := 6) (b := (decide (a1 > (32 : Int)))) (by kernel_rfl) (by kernel_rfl) (fun hb2 => ?_) (fun hb2 => ?_)
    · rw [if_pos hb2] at H
      refine D_seq (by kernel_rfl) ?_
      refine D_reg (cs := []) (τ := ⟨8, [(2, .cv (.one (.int .i64 32)))], []⟩) hV 0 [] {live := [2], src := []} (by kernel_rfl) (by kernel_rfl) trivial ?_
      refine th_n ?_
      refine D_ret (by kernel_rfl) ?_
      refine th_r ?_
      exact lf_r (Eq.trans (by kernel_rfl) H)
    · rw [if_neg (by rw [hb2]; decide)] at H
      refine D_skip (by kernel_rfl) ?_
      refine th_n ?_
      refine D_seq (by kernel_rfl) ?_
      refine D_reg (cs := []) (τ := ⟨8, [(2, .cv (.one (.int .i64 a1)))], []⟩) hV 0 [] {live := [2], src := []} (by kernel_rfl) (by kernel_rfl) trivial ?_
      refine th_n ?_
      refine D_ret (by kernel_rfl) ?_
      exact lf_r (Eq.trans (by kernel_rfl) H)
theorem f_ref01_bound.V_ok : EnvOk P f_ref01_bound.V := { ck := tt_ck, fits := slk_nil, mixed := mixed }
theorem f_ref01_bound.fits : Fits P 81 f_ref01_bound.S := fits_of f_ref01_bound.V_ok Go.Proofs.Try.func81 (by kernel_rfl) (by decide) (by decide) rfl (fun x r ⟨k, H⟩ => f_ref01_bound.f_ok f_ref01_bound.V_ok k x.1 H)
/-! ### f_ref01_Bit: function 76, wayfinder/wayfinderref01.Bit -/
abbrev f_ref01_Bit.ps : Sg := [(false, (.int .i64)), (false, (.int .i64))]
abbrev f_ref01_Bit.rs : Sg := [(false, (.int .i64))]
noncomputable def f_ref01_Bit.c0 : Code := (Go.Proofs.Try.f76.body).getD .skip
noncomputable def f_ref01_Bit.G : List (Nat × Spec) := []
noncomputable def f_ref01_Bit.V : Env := { tt := tt, Γ := slk f_ref01_Bit.G }
noncomputable abbrev f_ref01_Bit.Q (r : Tup f_ref01_Bit.rs) : Exit → St → Prop := Qr tt Go.Proofs.Try.f76.results ⟨f_ref01_Bit.ps, f_ref01_Bit.rs, .any, none, fun _ _ => True⟩ r
abbrev f_ref01_Bit.R := Tup f_ref01_Bit.rs
noncomputable def f_ref01_Bit.s1 (p1 : Int) (p2 : Int) (p3 : Bool) : St := ⟨24, [(0, .cv (.one (.int .i64 p1))), (1, .cv (.one (.int .i64 p2))), (12, .cv (.one (.bool p3)))], []⟩
noncomputable def f_ref01_Bit.s2 (p1 : Int) (p2 : Int) (p3 : Int) : St := ⟨24, [(1, .cv (.one (.int .i64 p1))), (5, .cv (.one (.int .i64 p2))), (6, .cv (.one (.int .i64 p3)))], []⟩
noncomputable def f_ref01_Bit.b2 (L2 : Int → Int → Int → Option f_ref01_Bit.R) (k : Nat) (p1 : Int) (p2 : Int) (p3 : Int) : Option f_ref01_Bit.R :=
  if (decide (p3 > p1)) = true then
  L2 p1 (IntKind.i64.wrap (Int.tdiv p2 2)) (IntKind.i64.wrap (p3 - 1))
else
  some ((Int.tmod p2 2), ())
theorem f_ref01_Bit.b2_ok (hV : EnvOk P f_ref01_Bit.V) {r : f_ref01_Bit.R} (L2 : Int → Int → Int → Option f_ref01_Bit.R) (m2 : Nat) (hL2 : ∀ (p1 : Int) (p2 : Int) (p3 : Int), L2 p1 p2 p3 = some r → WL P 0 (Code.l (Code.l (Code.r (Code.l (Code.r (Code.r (Code.r f_ref01_Bit.c0))))))) (blockW 0 (thenW P 0 (Code.r (Code.r (Code.r (Code.r f_ref01_Bit.c0)))) (f_ref01_Bit.Q r))) m2 (f_ref01_Bit.s2 p1 p2 p3)) (k : Nat) (p1 : Int) (p2 : Int) (p3 : Int) (H : f_ref01_Bit.b2 L2 k p1 p2 p3 = some r) : W P 0 (Code.l (Code.l (Code.r (Code.l (Code.r (Code.r (Code.r f_ref01_Bit.c0))))))) (f_ref01_Bit.s2 p1 p2 p3) (roundW P 0 (Code.l (Code.l (Code.r (Code.l (Code.r (Code.r (Code.r f_ref01_Bit.c0))))))) (blockW 0 (thenW P 0 (Code.r (Code.r (Code.r (Code.r f_ref01_Bit.c0)))) (f_ref01_Bit.Q r))) m2) := by
  unfold f_ref01_Bit.b2 at H
  refine D_seq (by kernel_rfl) ?_
  refine D_seq (by kernel_rfl) ?_
  refine D_reg (cs := []) (τ := ⟨24, [(1, .cv (.one (.int .i64 p1))), (5, .cv (.one (.int .i64 p2))), (6, .cv (.one (.int .i64 p3))), (17, .cv (.one (.bool (decide (p3 > p1)))))], []⟩) hV 0 [] {live := [1, 5, 6, 17], src := []} (by kernel_rfl) (by kernel_rfl) trivial ?_
  refine th_n ?_
  refine D_condB (t := 17) (b := (decide (p3 > p1))) (by kernel_rfl) (by kernel_rfl) (fun hb3 => ?_) (fun hb3 => ?_)
  · rw [if_pos hb3] at H
    refine D_skip (by kernel_rfl) ?_
    refine th_n ?_
    refine D_seq (by kernel_rfl) ?_
    refine D_block (id := 1) (by kernel_rfl) ?_
    refine D_reg (cs := [(2 : Int) ≠ 0]) (τ := ⟨24, [(1, .cv (.one (.int .i64 p1))), (5, .cv (.one (.int .i64 (IntKind.i64.wrap (Int.tdiv p2 2))))), (6, .cv (.one (.int .i64 p3)))], []⟩) hV 0 [] {live := [1, 5, 6], src := []} (by kernel_rfl) (by kernel_rfl) ⟨(by decide), trivial⟩ ?_
    refine bl_n ?_
    refine th_n ?_
    refine D_reg (cs := []) (τ := ⟨24, [(1, .cv (.one (.int .i64 p1))), (5, .cv (.one (.int .i64 (IntKind.i64.wrap (Int.tdiv p2 2))))), (6, .cv (.one (.int .i64 (IntKind.i64.wrap (p3 - 1)))))], []⟩) hV 0 [] {live := [1, 5, 6], src := []} (by kernel_rfl) (by kernel_rfl) trivial ?_
    refine ro_n (WL_tell (τ := f_ref01_Bit.s2 p1 (IntKind.i64.wrap (Int.tdiv p2 2)) (IntKind.i64.wrap (p3 - 1))) {fz := [], gr := 0, ad := [], live := [1, 5, 6], src := []} (by kernel_rfl) (by kernel_rfl) ?_)
    exact hL2 p1 (IntKind.i64.wrap (Int.tdiv p2 2)) (IntKind.i64.wrap (p3 - 1)) H
  · rw [if_neg (by rw [hb3]; decide)] at H
    refine D_exit (id := 0) (by kernel_rfl) ?_
    refine th_x ?_
    refine ro_x ?_
    refine bl_h ?_
    refine th_n ?_
    refine D_seq (by kernel_rfl) ?_
    refine D_reg (cs := [(2 : Int) ≠ 0]) (τ := ⟨24, [(4, .cv (.one (.int .i64 (Int.tmod p2 2))))], []⟩) hV 0 [] {live := [4], src := []} (by kernel_rfl) (by kernel_rfl) ⟨(by decide), trivial⟩ ?_
    refine th_n ?_
    refine D_ret (by kernel_rfl) ?_
    exact lf_r (Eq.trans (by kernel_rfl) H)
noncomputable def f_ref01_Bit.l2 (k : Nat) : Nat → Int → Int → Int → Option f_ref01_Bit.R
  | 0, _, _, _ => none
  | m + 1, p1, p2, p3 => f_ref01_Bit.b2 (f_ref01_Bit.l2 k m) k p1 p2 p3
theorem f_ref01_Bit.l2_ok (hV : EnvOk P f_ref01_Bit.V) {r : f_ref01_Bit.R} (k : Nat) : ∀ (m2 : Nat) (p1 : Int) (p2 : Int) (p3 : Int), f_ref01_Bit.l2 k m2 p1 p2 p3 = some r → WL P 0 (Code.l (Code.l (Code.r (Code.l (Code.r (Code.r (Code.r f_ref01_Bit.c0))))))) (blockW 0 (thenW P 0 (Code.r (Code.r (Code.r (Code.r f_ref01_Bit.c0)))) (f_ref01_Bit.Q r))) m2 (f_ref01_Bit.s2 p1 p2 p3)
  | 0, _, _, _, H => by cases H
  | m2 + 1, p1, p2, p3, H => WL_succ (f_ref01_Bit.b2_ok hV (f_ref01_Bit.l2 k m2) m2 (fun p1 p2 p3 H => f_ref01_Bit.l2_ok hV k m2 p1 p2 p3 H) k p1 p2 p3 H)
noncomputable def f_ref01_Bit.j1 (k : Nat) (p1 : Int) (p2 : Int) (p3 : Bool) : Option f_ref01_Bit.R :=
  if p3 = true then
  some ((0 : Int), ())
else
  f_ref01_Bit.l2 k k p2 (IntKind.i64.wrap (((BitVec.ofInt IntKind.i64.bits p1 &&& BitVec.ofInt IntKind.i64.bits 4294967295).toNat : Int))) 31
theorem f_ref01_Bit.j1_ok (hV : EnvOk P f_ref01_Bit.V) {r : f_ref01_Bit.R} (k : Nat) (p1 : Int) (p2 : Int) (p3 : Bool) (H : f_ref01_Bit.j1 k p1 p2 p3 = some r) : W P 0 (Code.r (Code.l (Code.r f_ref01_Bit.c0))) (f_ref01_Bit.s1 p1 p2 p3) (thenW P 0 (Code.r (Code.r f_ref01_Bit.c0)) (f_ref01_Bit.Q r)) := by
  unfold f_ref01_Bit.j1 at H
  refine D_condB (t := 12) (b := p3) (by kernel_rfl) (by kernel_rfl) (fun hb2 => ?_) (fun hb2 => ?_)
  · rw [if_pos hb2] at H
    refine D_seq (by kernel_rfl) ?_
    refine D_reg (cs := []) (τ := ⟨24, [(4, .cv (.one (.int .i64 0)))], []⟩) hV 0 [] {live := [4], src := []} (by kernel_rfl) (by kernel_rfl) trivial ?_
    refine th_n ?_
    refine D_ret (by kernel_rfl) ?_
    refine th_r ?_
    exact lf_r (Eq.trans (by kernel_rfl) H)
  · rw [if_neg (by rw [hb2]; decide)] at H
    refine D_skip (by kernel_rfl) ?_
    refine th_n ?_
    refine D_seq (by kernel_rfl) ?_
    refine D_reg (cs := []) (τ := ⟨24, [(1, .cv (.one (.int .i64 p2))), (5, .cv (.one (.int .i64 (IntKind.i64.wrap (((BitVec.ofInt IntKind.i64.bits p1 &&& BitVec.ofInt IntKind.i64.bits 4294967295).toNat : Int))))))], []⟩) hV 0 [] {live := [1, 5], src := []} (by kernel_rfl) (by kernel_rfl) trivial ?_
    refine th_n ?_
    refine D_seq (by kernel_rfl) ?_
    refine D_seq (by kernel_rfl) ?_
    refine D_reg (cs := []) (τ := ⟨24, [(1, .cv (.one (.int .i64 p2))), (5, .cv (.one (.int .i64 (IntKind.i64.wrap (((BitVec.ofInt IntKind.i64.bits p1 &&& BitVec.ofInt IntKind.i64.bits 4294967295).toNat : Int)))))), (6, .cv (.one (.int .i64 31)))], []⟩) hV 0 [] {live := [1, 5, 6], src := []} (by kernel_rfl) (by kernel_rfl) trivial ?_
    refine th_n ?_
    refine D_block (id := 0) (by kernel_rfl) ?_
    refine W_tell (τ := f_ref01_Bit.s2 p2 (IntKind.i64.wrap (((BitVec.ofInt IntKind.i64.bits p1 &&& BitVec.ofInt IntKind.i64.bits 4294967295).toNat : Int))) 31) {fz := [], gr := 0, ad := [], live := [1, 5, 6], src := []} (by kernel_rfl) (by kernel_rfl) ?_
    exact D_loop (by kernel_rfl) k (f_ref01_Bit.l2_ok hV k k p2 (IntKind.i64.wrap (((BitVec.ofInt IntKind.i64.bits p1 &&& BitVec.ofInt IntKind.i64.bits 4294967295).toNat : Int))) 31 H)
noncomputable def f_ref01_Bit.f (k : Nat) (a1 : Int) (a2 : Int) : Option f_ref01_Bit.R :=
  if (decide (a2 < (0 : Int))) = true then
    f_ref01_Bit.j1 k a1 a2 true
  else
    f_ref01_Bit.j1 k a1 a2 (decide (a2 > (31 : Int)))
noncomputable def f_ref01_Bit.S : Spec := ⟨f_ref01_Bit.ps, f_ref01_Bit.rs, .any, none, fun x r => ∃ k, f_ref01_Bit.f k x.1 x.2.1 = some r⟩
theorem f_ref01_Bit.f_ok (hV : EnvOk P f_ref01_Bit.V) {r : f_ref01_Bit.R} (k : Nat) (a1 : Int) (a2 : Int) (H : f_ref01_Bit.f k a1 a2 = some r) : W P 0 f_ref01_Bit.c0 (⟨24, [(0, .cv (.one (.int .i64 a1))), (1, .cv (.one (.int .i64 a2)))], []⟩) (f_ref01_Bit.Q r) := by
  unfold f_ref01_Bit.f at H
  refine D_seq (by kernel_rfl) ?_
  refine D_reg (cs := []) (τ := ⟨24, [(0, .cv (.one (.int .i64 a1))), (1, .cv (.one (.int .i64 a2)))], []⟩) hV 0 [] {live := [0, 1], src := []} (by kernel_rfl) (by kernel_rfl) trivial ?_
  refine th_n ?_
  refine D_seq (by kernel_rfl) ?_
  refine D_seq (by kernel_rfl) ?_
  rcases of_ite H with ⟨hb1, H⟩ | ⟨hb1, H⟩
  · refine D_reg (cs := [((decide (a2 < (0 : Int)))) = true]) (τ := ⟨24, [(0, .cv (.one (.int .i64 a1))), (1, .cv (.one (.int .i64 a2))), (12, .cv (.one (.bool true)))], []⟩) hV 0 [(1, {bv := some true})] {live := [0, 1, 12], src := []} (by kernel_rfl) (by kernel_rfl) ⟨hb1, trivial⟩ ?_
    refine th_n ?_
    refine W_tell (τ := f_ref01_Bit.s1 a1 a2 true) {fz := [], gr := 0, ad := [], live := [0, 1, 12], src := []} (by kernel_rfl) (by kernel_rfl) ?_
    exact f_ref01_Bit.j1_ok hV k a1 a2 true H
  · refine D_reg (cs := [((decide (a2 < (0 : Int)))) = false]) (τ := ⟨24, [(0, .cv (.one (.int .i64 a1))), (1, .cv (.one (.int .i64 a2))), (12, .cv (.one (.bool (decide (a2 > (31 : Int))))))], []⟩) hV 0 [(1, {bv := some false})] {live := [0, 1, 12], src := []} (by kernel_rfl) (by kernel_rfl) ⟨hb1, trivial⟩ ?_
    refine th_n ?_
    refine W_tell (τ := f_ref01_Bit.s1 a1 a2 (decide (a2 > (31 : Int)))) {fz := [], gr := 0, ad := [], live := [0, 1, 12], src := []} (by kernel_rfl) (by kernel_rfl) ?_
    exact f_ref01_Bit.j1_ok hV k a1 a2 (decide (a2 > (31 : Int))) H
theorem f_ref01_Bit.V_ok : EnvOk P f_ref01_Bit.V := { ck := tt_ck, fits := slk_nil, mixed := mixed }
theorem f_ref01_Bit.fits : Fits P 76 f_ref01_Bit.S := fits_of f_ref01_Bit.V_ok Go.Proofs.Try.func76 (by kernel_rfl) (by decide) (by decide) rfl (fun x r ⟨k, H⟩ => f_ref01_Bit.f_ok f_ref01_Bit.V_ok k x.1 x.2.1 H)
/-! ### f_ref01_Cut: function 79, wayfinder/wayfinderref01.Cut -/
abbrev f_ref01_Cut.ps : Sg := [(false, (.int .i64)), (false, (.int .i64))]
abbrev f_ref01_Cut.rs : Sg := [(true, T713d)]
noncomputable def f_ref01_Cut.c0 : Code := (Go.Proofs.Try.f79.body).getD .skip
noncomputable def f_ref01_Cut.G : List (Nat × Spec) := [(76, f_ref01_Bit.S), (81, f_ref01_bound.S)]
noncomputable def f_ref01_Cut.V : Env := { tt := tt, Γ := slk f_ref01_Cut.G }
noncomputable abbrev f_ref01_Cut.Q (r : Tup f_ref01_Cut.rs) : Exit → St → Prop := Qr tt Go.Proofs.Try.f79.results ⟨f_ref01_Cut.ps, f_ref01_Cut.rs, .any, none, fun _ _ => True⟩ r
abbrev f_ref01_Cut.R := Tup f_ref01_Cut.rs
noncomputable def f_ref01_Cut.s1 (p1 : Int) (p2 : Int) (p3 : Int) (p4 : Int) (p5 : T713d.T) : St := ⟨26, [(0, .cv (.one (.int .i64 p1))), (1, .cv (.one (.int .i64 p2))), (4, .cv (.one (.ptr 0 0))), (5, .cv (.one (.int .i64 p3))), (6, .cv (.one (.int .i64 p4)))], [(.box 2, [.int .i64 p5.1, .int .i64 p5.2])]⟩
noncomputable def f_ref01_Cut.s2 (p1 : Int) (p2 : Int) (p3 : Int) (p4 : Int) (p5 : T713d.T) : St := ⟨26, [(0, .cv (.one (.int .i64 p1))), (1, .cv (.one (.int .i64 p2))), (4, .cv (.one (.ptr 0 0))), (5, .cv (.one (.int .i64 p3))), (6, .cv (.one (.int .i64 p4)))], [(.box 2, [.int .i64 p5.1, .int .i64 p5.2])]⟩
noncomputable def f_ref01_Cut.j2 (L1 : Int → Int → Int → Int → T713d.T → Option f_ref01_Cut.R) (k : Nat) (p1 : Int) (p2 : Int) (p3 : Int) (p4 : Int) (p5 : T713d.T) : Option f_ref01_Cut.R :=
  L1 p1 p2 p3 (IntKind.i64.wrap (p4 + 1)) p5
theorem f_ref01_Cut.j2_ok (hV : EnvOk P f_ref01_Cut.V) {r : f_ref01_Cut.R} (L1 : Int → Int → Int → Int → T713d.T → Option f_ref01_Cut.R) (m1 : Nat) (hL1 : ∀ (p1 : Int) (p2 : Int) (p3 : Int) (p4 : Int) (p5 : T713d.T), L1 p1 p2 p3 p4 p5 = some r → WL P 0 (Code.l (Code.l (Code.r (Code.l (Code.r (Code.r f_ref01_Cut.c0)))))) (blockW 0 (thenW P 0 (Code.r (Code.r (Code.r f_ref01_Cut.c0))) (f_ref01_Cut.Q r))) m1 (f_ref01_Cut.s1 p1 p2 p3 p4 p5)) (k : Nat) (p1 : Int) (p2 : Int) (p3 : Int) (p4 : Int) (p5 : T713d.T) (H : f_ref01_Cut.j2 L1 k p1 p2 p3 p4 p5 = some r) : W P 0 (Code.r (Code.r (Code.l (Code.l (Code.r (Code.l (Code.r (Code.r f_ref01_Cut.c0)))))))) (f_ref01_Cut.s2 p1 p2 p3 p4 p5) (roundW P 0 (Code.l (Code.l (Code.r (Code.l (Code.r (Code.r f_ref01_Cut.c0)))))) (blockW 0 (thenW P 0 (Code.r (Code.r (Code.r f_ref01_Cut.c0))) (f_ref01_Cut.Q r))) m1) := by
  unfold f_ref01_Cut.j2 at H
  refine D_reg (cs := []) (τ := ⟨26, [(0, .cv (.one (.int .i64 p1))), (1, .cv (.one (.int .i64 p2))), (4, .cv (.one (.ptr 0 0))), (5, .cv (.one (.int .i64 p3))), (6, .cv (.one (.int .i64 (IntKind.i64.wrap (p4 + 1)))))], [(.box 2, [.int .i64 p5.1, .int .i64 p5.2])]⟩) hV 0 [] {live := [0, 1, 4, 5, 6], src := [some 0]} (by kernel_rfl) (by kernel_rfl) trivial ?_
  refine ro_n (WL_tell (τ := f_ref01_Cut.s1 p1 p2 p3 (IntKind.i64.wrap (p4 + 1)) p5) {fz := [], gr := 0, ad := [], live := [0, 1, 4, 5, 6], src := [some 0]} (by kernel_rfl) (by kernel_rfl) ?_)
  exact hL1 p1 p2 p3 (IntKind.i64.wrap (p4 + 1)) p5 H
noncomputable def f_ref01_Cut.b1 (L1 : Int → Int → Int → Int → T713d.T → Option f_ref01_Cut.R) (k : Nat) (p1 : Int) (p2 : Int) (p3 : Int) (p4 : Int) (p5 : T713d.T) : Option f_ref01_Cut.R :=
  if (decide (p4 < (32 : Int))) = true then
  (f_ref01_bound.f k p2).bind fun y2 =>
    if (decide (p4 < y2.1)) = true then
      (f_ref01_Bit.f k p1 p4).bind fun y5 =>
        f_ref01_Cut.j2 L1 k p1 p2 (IntKind.i64.wrap ((IntKind.i64.wrap (p3 * 2)) + y5.1)) p4 p5
    else
      f_ref01_Cut.j2 L1 k p1 p2 (IntKind.i64.wrap (p3 * 2)) p4 p5
else
  (f_ref01_bound.f k p2).bind fun y7 =>
    some ((p3, y7.1), ())
theorem f_ref01_Cut.b1_ok (hV : EnvOk P f_ref01_Cut.V) {r : f_ref01_Cut.R} (L1 : Int → Int → Int → Int → T713d.T → Option f_ref01_Cut.R) (m1 : Nat) (hL1 : ∀ (p1 : Int) (p2 : Int) (p3 : Int) (p4 : Int) (p5 : T713d.T), L1 p1 p2 p3 p4 p5 = some r → WL P 0 (Code.l (Code.l (Code.r (Code.l (Code.r (Code.r f_ref01_Cut.c0)))))) (blockW 0 (thenW P 0 (Code.r (Code.r (Code.r f_ref01_Cut.c0))) (f_ref01_Cut.Q r))) m1 (f_ref01_Cut.s1 p1 p2 p3 p4 p5)) (k : Nat) (p1 : Int) (p2 : Int) (p3 : Int) (p4 : Int) (p5 : T713d.T) (H : f_ref01_Cut.b1 L1 k p1 p2 p3 p4 p5 = some r) : W P 0 (Code.l (Code.l (Code.r (Code.l (Code.r (Code.r f_ref01_Cut.c0)))))) (f_ref01_Cut.s1 p1 p2 p3 p4 p5) (roundW P 0 (Code.l (Code.l (Code.r (Code.l (Code.r (Code.r f_ref01_Cut.c0)))))) (blockW 0 (thenW P 0 (Code.r (Code.r (Code.r f_ref01_Cut.c0))) (f_ref01_Cut.Q r))) m1) := by
  unfold f_ref01_Cut.b1 at H
  refine D_seq (by kernel_rfl) ?_
  refine D_seq (by kernel_rfl) ?_
  refine D_reg (cs := []) (τ := ⟨26, [(0, .cv (.one (.int .i64 p1))), (1, .cv (.one (.int .i64 p2))), (4, .cv (.one (.ptr 0 0))), (5, .cv (.one (.int .i64 p3))), (6, .cv (.one (.int .i64 p4))), (8, .cv (.one (.bool (decide (p4 < (32 : Int))))))], [(.box 2, [.int .i64 p5.1, .int .i64 p5.2])]⟩) hV 0 [] {live := [0, 1, 4, 5, 6, 8], src := [some 0]} (by kernel_rfl) (by kernel_rfl) trivial ?_
  refine th_n ?_
  refine D_condB (t := 8) (b := (decide (p4 < (32 : Int)))) (by kernel_rfl) (by kernel_rfl) (fun hb1 => ?_) (fun hb1 => ?_)
  · rw [if_pos hb1] at H
    refine D_skip (by kernel_rfl) ?_
    refine th_n ?_
    refine D_seq (by kernel_rfl) ?_
    refine D_block (id := 1) (by kernel_rfl) ?_
    refine D_seq (by kernel_rfl) ?_
    refine D_reg (cs := []) (τ := ⟨26, [(0, .cv (.one (.int .i64 p1))), (1, .cv (.one (.int .i64 p2))), (4, .cv (.one (.ptr 0 0))), (5, .cv (.one (.int .i64 (IntKind.i64.wrap (p3 * 2))))), (6, .cv (.one (.int .i64 p4)))], [(.box 2, [.int .i64 p5.1, .int .i64 p5.2])]⟩) hV 0 [] {live := [0, 1, 4, 5, 6], src := [some 0]} (by kernel_rfl) (by kernel_rfl) trivial ?_
    refine th_n ?_
    refine D_seq (by kernel_rfl) ?_
    obtain ⟨y2, e3, H⟩ := of_bind H
    refine D_reg (cs := [f_ref01_bound.S.rel (p2, ()) y2]) (τ := ⟨26, [(0, .cv (.one (.int .i64 p1))), (1, .cv (.one (.int .i64 p2))), (4, .cv (.one (.ptr 0 0))), (5, .cv (.one (.int .i64 (IntKind.i64.wrap (p3 * 2))))), (6, .cv (.one (.int .i64 p4))), (16, .cv (.one (.bool (decide (p4 < y2.1)))))], [(.box 2, [.int .i64 p5.1, .int .i64 p5.2])]⟩) hV 0 [(2, {res := some ⟨f_ref01_bound.S.rs, y2⟩})] {live := [0, 1, 4, 5, 6, 16], src := [some 0]} (by kernel_rfl) (by kernel_rfl) ⟨⟨k, e3⟩, trivial⟩ ?_
    refine th_n ?_
    refine D_condB (t := 16) (b := (decide (p4 < y2.1))) (by kernel_rfl) (by kernel_rfl) (fun hb4 => ?_) (fun hb4 => ?_)
    · rw [if_pos hb4] at H
      obtain ⟨y5, e6, H⟩ := of_bind H
      refine D_reg (cs := [f_ref01_Bit.S.rel (p1, p4, ()) y5]) (τ := ⟨26, [(0, .cv (.one (.int .i64 p1))), (1, .cv (.one (.int .i64 p2))), (4, .cv (.one (.ptr 0 0))), (5, .cv (.one (.int .i64 (IntKind.i64.wrap ((IntKind.i64.wrap (p3 * 2)) + y5.1))))), (6, .cv (.one (.int .i64 p4)))], [(.box 2, [.int .i64 p5.1, .int .i64 p5.2])]⟩) hV 0 [(3, {res := some ⟨f_ref01_Bit.S.rs, y5⟩})] {live := [0, 1, 4, 5, 6], src := [some 0]} (by kernel_rfl) (by kernel_rfl) ⟨⟨k, e6⟩, trivial⟩ ?_
      refine bl_n ?_
      refine th_n ?_
      refine W_tell (τ := f_ref01_Cut.s2 p1 p2 (IntKind.i64.wrap ((IntKind.i64.wrap (p3 * 2)) + y5.1)) p4 p5) {fz := [], gr := 0, ad := [], live := [0, 1, 4, 5, 6], src := [some 0]} (by kernel_rfl) (by kernel_rfl) ?_
      exact f_ref01_Cut.j2_ok hV L1 m1 hL1 k p1 p2 (IntKind.i64.wrap ((IntKind.i64.wrap (p3 * 2)) + y5.1)) p4 p5 H
    · rw [if_neg (by rw [hb4]; decide)] at H
      refine D_skip (by kernel_rfl) ?_
      refine bl_n ?_
      refine th_n ?_
      refine W_tell (τ := f_ref01_Cut.s2 p1 p2 (IntKind.i64.wrap (p3 * 2)) p4 p5) {fz := [], gr := 0, ad := [], live := [0, 1, 4, 5, 6], src := [some 0]} (by kernel_rfl) (by kernel_rfl) ?_
      exact f_ref01_Cut.j2_ok hV L1 m1 hL1 k p1 p2 (IntKind.i64.wrap (p3 * 2)) p4 p5 H
  · rw [if_neg (by rw [hb1]; decide)] at H
    refine D_exit (id := 0) (by kernel_rfl) ?_
    refine th_x ?_
    refine ro_x ?_
    refine bl_h ?_
    refine th_n ?_
    refine D_seq (by kernel_rfl) ?_
    obtain ⟨y7, e8, H⟩ := of_bind H
    refine D_reg (cs := [f_ref01_bound.S.rel (p2, ()) y7]) (τ := ⟨26, [(4, .cv (.one (.ptr 0 0)))], [(.box 2, [.int .i64 p3, .int .i64 y7.1])]⟩) hV 0 [(2, {res := some ⟨f_ref01_bound.S.rs, y7⟩})] {live := [4], src := [some 0]} (by kernel_rfl) (by kernel_rfl) ⟨⟨k, e8⟩, trivial⟩ ?_
    refine th_n ?_
    refine D_ret (by kernel_rfl) ?_
    exact lf_r (Eq.trans (by kernel_rfl) H)
noncomputable def f_ref01_Cut.l1 (k : Nat) : Nat → Int → Int → Int → Int → T713d.T → Option f_ref01_Cut.R
  | 0, _, _, _, _, _ => none
  | m + 1, p1, p2, p3, p4, p5 => f_ref01_Cut.b1 (f_ref01_Cut.l1 k m) k p1 p2 p3 p4 p5
theorem f_ref01_Cut.l1_ok (hV : EnvOk P f_ref01_Cut.V) {r : f_ref01_Cut.R} (k : Nat) : ∀ (m1 : Nat) (p1 : Int) (p2 : Int) (p3 : Int) (p4 : Int) (p5 : T713d.T), f_ref01_Cut.l1 k m1 p1 p2 p3 p4 p5 = some r → WL P 0 (Code.l (Code.l (Code.r (Code.l (Code.r (Code.r f_ref01_Cut.c0)))))) (blockW 0 (thenW P 0 (Code.r (Code.r (Code.r f_ref01_Cut.c0))) (f_ref01_Cut.Q r))) m1 (f_ref01_Cut.s1 p1 p2 p3 p4 p5)
  | 0, _, _, _, _, _, H => by cases H
  | m1 + 1, p1, p2, p3, p4, p5, H => WL_succ (f_ref01_Cut.b1_ok hV (f_ref01_Cut.l1 k m1) m1 (fun p1 p2 p3 p4 p5 H => f_ref01_Cut.l1_ok hV k m1 p1 p2 p3 p4 p5 H) k p1 p2 p3 p4 p5 H)
noncomputable def f_ref01_Cut.f (k : Nat) (a1 : Int) (a2 : Int) : Option f_ref01_Cut.R :=
  f_ref01_Cut.l1 k k a1 a2 0 0 (0, 0)
noncomputable def f_ref01_Cut.S : Spec := ⟨f_ref01_Cut.ps, f_ref01_Cut.rs, .any, none, fun x r => ∃ k, f_ref01_Cut.f k x.1 x.2.1 = some r⟩
theorem f_ref01_Cut.f_ok (hV : EnvOk P f_ref01_Cut.V) {r : f_ref01_Cut.R} (k : Nat) (a1 : Int) (a2 : Int) (H : f_ref01_Cut.f k a1 a2 = some r) : W P 0 f_ref01_Cut.c0 (⟨26, [(0, .cv (.one (.int .i64 a1))), (1, .cv (.one (.int .i64 a2)))], []⟩) (f_ref01_Cut.Q r) := by
  unfold f_ref01_Cut.f at H
  refine D_seq (by kernel_rfl) ?_
  refine D_reg (cs := []) (τ := ⟨26, [(0, .cv (.one (.int .i64 a1))), (1, .cv (.one (.int .i64 a2))), (4, .cv (.one (.ptr 0 0)))], [(.box 2, [.int .i64 0, .int .i64 0])]⟩) hV 1 [(0, {sb := 0})] {live := [0, 1, 4], src := [some 0]} (by kernel_rfl) (by kernel_rfl) trivial ?_
  refine th_n ?_
  refine D_seq (by kernel_rfl) ?_
  refine D_reg (cs := []) (τ := ⟨26, [(0, .cv (.one (.int .i64 a1))), (1, .cv (.one (.int .i64 a2))), (4, .cv (.one (.ptr 0 0))), (5, .cv (.one (.int .i64 0)))], [(.box 2, [.int .i64 0, .int .i64 0])]⟩) hV 0 [] {live := [0, 1, 4, 5], src := [some 0]} (by kernel_rfl) (by kernel_rfl) trivial ?_
  refine th_n ?_
  refine D_seq (by kernel_rfl) ?_
  refine D_seq (by kernel_rfl) ?_
  refine D_reg (cs := []) (τ := ⟨26, [(0, .cv (.one (.int .i64 a1))), (1, .cv (.one (.int .i64 a2))), (4, .cv (.one (.ptr 0 0))), (5, .cv (.one (.int .i64 0))), (6, .cv (.one (.int .i64 0)))], [(.box 2, [.int .i64 0, .int .i64 0])]⟩) hV 0 [] {live := [0, 1, 4, 5, 6], src := [some 0]} (by kernel_rfl) (by kernel_rfl) trivial ?_
  refine th_n ?_
  refine D_block (id := 0) (by kernel_rfl) ?_
  refine W_tell (τ := f_ref01_Cut.s1 a1 a2 0 0 (0, 0)) {fz := [], gr := 0, ad := [], live := [0, 1, 4, 5, 6], src := [some 0]} (by kernel_rfl) (by kernel_rfl) ?_
  exact D_loop (by kernel_rfl) k (f_ref01_Cut.l1_ok hV k k a1 a2 0 0 (0, 0) H)
theorem f_ref01_Cut.V_ok : EnvOk P f_ref01_Cut.V := { ck := tt_ck, fits := slk_cons f_ref01_Bit.fits (slk_cons f_ref01_bound.fits (slk_nil)), mixed := mixed }
theorem f_ref01_Cut.fits : Fits P 79 f_ref01_Cut.S := fits_of f_ref01_Cut.V_ok Go.Proofs.Try.func79 (by kernel_rfl) (by decide) (by decide) rfl (fun x r ⟨k, H⟩ => f_ref01_Cut.f_ok f_ref01_Cut.V_ok k x.1 x.2.1 H)
/-! ### f_ref01_Has: function 74, wayfinder/wayfinderref01.Has -/
abbrev f_ref01_Has.ps : Sg := [(true, T713d), (false, (.int .i64))]
abbrev f_ref01_Has.rs : Sg := [(false, .bool)]
noncomputable def f_ref01_Has.c0 : Code := (Go.Proofs.Try.f74.body).getD .skip
noncomputable def f_ref01_Has.G : List (Nat × Spec) := [(79, f_ref01_Cut.S)]
noncomputable def f_ref01_Has.V : Env := { tt := tt, Γ := slk f_ref01_Has.G }
noncomputable abbrev f_ref01_Has.Q (r : Tup f_ref01_Has.rs) : Exit → St → Prop := Qr tt Go.Proofs.Try.f74.results ⟨f_ref01_Has.ps, f_ref01_Has.rs, .any, none, fun _ _ => True⟩ r
abbrev f_ref01_Has.R := Tup f_ref01_Has.rs
noncomputable def f_ref01_Has.f (k : Nat) (a1 : T713d.T) (a2 : Int) : Option f_ref01_Has.R :=
  (f_ref01_Cut.f k a2 a1.2).bind fun y1 =>
    some (((y1.1.1 == a1.1) && ((y1.1.2 == a1.2) && true)), ())
noncomputable def f_ref01_Has.S : Spec := ⟨f_ref01_Has.ps, f_ref01_Has.rs, .any, none, fun x r => ∃ k, f_ref01_Has.f k x.1 x.2.1 = some r⟩
theorem f_ref01_Has.f_ok (hV : EnvOk P f_ref01_Has.V) {r : f_ref01_Has.R} (k : Nat) (a1 : T713d.T) (a2 : Int) (H : f_ref01_Has.f k a1 a2 = some r) : W P 0 f_ref01_Has.c0 (⟨11, [(0, .cv (.agg [.int .i64 a1.1, .int .i64 a1.2])), (1, .cv (.one (.int .i64 a2)))], []⟩) (f_ref01_Has.Q r) := by
  unfold f_ref01_Has.f at H
  refine D_seq (by kernel_rfl) ?_
  refine D_reg (cs := []) (τ := ⟨11, [(1, .cv (.one (.int .i64 a2))), (2, .cv (.one (.ptr 0 0)))], [(.box 2, [.int .i64 a1.1, .int .i64 a1.2])]⟩) hV 1 [(0, {sb := 0})] {live := [1, 2], src := [some 0]} (by kernel_rfl) (by kernel_rfl) trivial ?_
  refine th_n ?_
  refine D_seq (by kernel_rfl) ?_
  obtain ⟨y1, e2, H⟩ := of_bind H
  refine D_reg (cs := [f_ref01_Cut.S.rel (a2, a1.2, ()) y1]) (τ := ⟨11, [(4, .cv (.one (.bool ((y1.1.1 == a1.1) && ((y1.1.2 == a1.2) && true)))))], []⟩) hV 0 [(3, {res := some ⟨f_ref01_Cut.S.rs, y1⟩})] {live := [4], src := []} (by kernel_rfl) (by kernel_rfl) ⟨⟨k, e2⟩, trivial⟩ ?_
  refine th_n ?_
  refine D_ret (by kernel_rfl) ?_
  exact lf_r (Eq.trans (by kernel_rfl) H)
theorem f_ref01_Has.V_ok : EnvOk P f_ref01_Has.V := { ck := tt_ck, fits := slk_cons f_ref01_Cut.fits (slk_nil), mixed := mixed }
theorem f_ref01_Has.fits : Fits P 74 f_ref01_Has.S := fits_of f_ref01_Has.V_ok Go.Proofs.Try.func74 (by kernel_rfl) (by decide) (by decide) rfl (fun x r ⟨k, H⟩ => f_ref01_Has.f_ok f_ref01_Has.V_ok k x.1 x.2.1 H)
end Go.Proofs.Ytkobhleoebgbhaa.V
