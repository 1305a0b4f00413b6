/- Functions of the program, as Lean functions, and that the code answers so. Printed by vgen.py. -/
import Derived.Test.YtkobhleoebgbhaaVF1
namespace Go.Proofs.Ytkobhleoebgbhaa.V
open Go Go.RowKit
set_option linter.unusedVariables false
set_option linter.unusedSimpArgs false
set_option maxRecDepth 100000
/-! ### f_ref04_Fits: function 64, wayfinder/wayfinderref04.Fits -/
abbrev f_ref04_Fits.ps : Sg := [(true, T1383), (false, (.int .i64)), (false, (.int .i64))]
abbrev f_ref04_Fits.rs : Sg := [(false, .bool)]
noncomputable def f_ref04_Fits.c0 : Code := (Go.Proofs.Try.f64.body).getD .skip
noncomputable def f_ref04_Fits.G : List (Nat × Spec) := [(74, f_ref01_Has.S)]
noncomputable def f_ref04_Fits.V : Env := { tt := tt, Γ := slk f_ref04_Fits.G }
noncomputable abbrev f_ref04_Fits.Q (r : Tup f_ref04_Fits.rs) : Exit → St → Prop := Qr tt Go.Proofs.Try.f64.results ⟨f_ref04_Fits.ps, f_ref04_Fits.rs, .any, none, fun _ _ => True⟩ r
abbrev f_ref04_Fits.R := Tup f_ref04_Fits.rs
noncomputable def f_ref04_Fits.f (k : Nat) (a1 : T1383.T) (a2 : Int) (a3 : Int) : Option f_ref04_Fits.R :=
  (f_ref01_Has.f k a1.1 a3).bind fun y1 =>
    if y1.1 = true then
      if (a1.2.1 == (-1 : Int)) = true then
        some (true, ())
      else
        some ((a1.2.1 == a2), ())
    else
      some (false, ())
noncomputable def f_ref04_Fits.S : Spec := ⟨f_ref04_Fits.ps, f_ref04_Fits.rs, .any, none, fun x r => ∃ k, f_ref04_Fits.f k x.1 x.2.1 x.2.2.1 = some r⟩
theorem f_ref04_Fits.f_ok (hV : EnvOk P f_ref04_Fits.V) {r : f_ref04_Fits.R} (k : Nat) (a1 : T1383.T) (a2 : Int) (a3 : Int) (H : f_ref04_Fits.f k a1 a2 a3 = some r) : W P 0 f_ref04_Fits.c0 (⟨24, [(0, .cv (.agg [.int .i64 a1.1.1, .int .i64 a1.1.2, .int .i64 a1.2.1, .int .i64 a1.2.2.1, .int .i64 a1.2.2.2.1, .int .i64 a1.2.2.2.2])), (1, .cv (.one (.int .i64 a2))), (2, .cv (.one (.int .i64 a3)))], []⟩) (f_ref04_Fits.Q r) := by
  unfold f_ref04_Fits.f at H
  refine D_seq (by kernel_rfl) ?_
  refine D_reg (cs := []) (τ := ⟨24, [(1, .cv (.one (.int .i64 a2))), (2, .cv (.one (.int .i64 a3))), (3, .cv (.one (.ptr 0 0)))], [(.box 6, [.int .i64 a1.1.1, .int .i64 a1.1.2, .int .i64 a1.2.1, .int .i64 a1.2.2.1, .int .i64 a1.2.2.2.1, .int .i64 a1.2.2.2.2])]⟩) hV 1 [(0, {sb := 0})] {live := [1, 2, 3], src := [some 0]} (by kernel_rfl) (by kernel_rfl) trivial ?_
  refine th_n ?_
  refine D_seq (by kernel_rfl) ?_
  obtain ⟨y1, e2, H⟩ := of_bind H
  refine D_reg (cs := [f_ref01_Has.S.rel (a1.1, a3, ()) y1]) (τ := ⟨24, [(1, .cv (.one (.int .i64 a2))), (3, .cv (.one (.ptr 0 0))), (7, .cv (.one (.bool y1.1)))], [(.box 6, [.int .i64 a1.1.1, .int .i64 a1.1.2, .int .i64 a1.2.1, .int .i64 a1.2.2.1, .int .i64 a1.2.2.2.1, .int .i64 a1.2.2.2.2])]⟩) hV 0 [(3, {res := some ⟨f_ref01_Has.S.rs, y1⟩})] {live := [1, 3, 7], src := [some 0]} (by kernel_rfl) (by kernel_rfl) ⟨⟨k, e2⟩, trivial⟩ ?_
  refine th_n ?_
  refine D_seq (by kernel_rfl) ?_
  rcases of_ite H with ⟨hb3, H⟩ | ⟨hb3, H⟩
  · rcases of_ite H with ⟨hb4, H⟩ | ⟨hb4, H⟩
    · refine D_reg (cs := [(y1.1) = true, ((a1.2.1 == (-1 : Int))) = true]) (τ := ⟨24, [(6, .cv (.one (.bool true)))], []⟩) hV 0 [(0, {bv := some true}), (4, {bv := some true})] {live := [6], src := []} (by kernel_rfl) (by kernel_rfl) ⟨hb3, hb4, trivial⟩ ?_
      refine th_n ?_
      refine D_ret (by kernel_rfl) ?_
      exact lf_r (Eq.trans (by kernel_rfl) H)
    · refine D_reg (cs := [(y1.1) = true, ((a1.2.1 == (-1 : Int))) = false]) (τ := ⟨24, [(6, .cv (.one (.bool (a1.2.1 == a2))))], []⟩) hV 0 [(0, {bv := some true}), (4, {bv := some false})] {live := [6], src := []} (by kernel_rfl) (by kernel_rfl) ⟨hb3, hb4, trivial⟩ ?_
      refine th_n ?_
      refine D_ret (by kernel_rfl) ?_
      exact lf_r (Eq.trans (by kernel_rfl) H)
  · refine D_reg (cs := [(y1.1) = false]) (τ := ⟨24, [(6, .cv (.one (.bool false)))], []⟩) hV 0 [(0, {bv := some false})] {live := [6], src := []} (by kernel_rfl) (by kernel_rfl) ⟨hb3, trivial⟩ ?_
    refine th_n ?_
    refine D_ret (by kernel_rfl) ?_
    exact lf_r (Eq.trans (by kernel_rfl) H)
theorem f_ref04_Fits.V_ok : EnvOk P f_ref04_Fits.V := { ck := tt_ck, fits := slk_cons f_ref01_Has.fits (slk_nil), mixed := mixed }
theorem f_ref04_Fits.fits : Fits P 64 f_ref04_Fits.S := fits_of f_ref04_Fits.V_ok Go.Proofs.Try.func64 (by kernel_rfl) (by decide) (by decide) rfl (fun x r ⟨k, H⟩ => f_ref04_Fits.f_ok f_ref04_Fits.V_ok k x.1 x.2.1 x.2.2.1 H)
/-! ### f_ref04_Ahead: function 65, wayfinder/wayfinderref04.Ahead -/
abbrev f_ref04_Ahead.ps : Sg := [(true, T1383), (true, T1383)]
abbrev f_ref04_Ahead.rs : Sg := [(false, .bool)]
noncomputable def f_ref04_Ahead.c0 : Code := (Go.Proofs.Try.f65.body).getD .skip
noncomputable def f_ref04_Ahead.G : List (Nat × Spec) := []
noncomputable def f_ref04_Ahead.V : Env := { tt := tt, Γ := slk f_ref04_Ahead.G }
noncomputable abbrev f_ref04_Ahead.Q (r : Tup f_ref04_Ahead.rs) : Exit → St → Prop := Qr tt Go.Proofs.Try.f65.results ⟨f_ref04_Ahead.ps, f_ref04_Ahead.rs, .any, none, fun _ _ => True⟩ r
abbrev f_ref04_Ahead.R := Tup f_ref04_Ahead.rs
noncomputable def f_ref04_Ahead.f (k : Nat) (a1 : T1383.T) (a2 : T1383.T) : Option f_ref04_Ahead.R :=
  if (a1.1.2 != a2.1.2) = true then
    some ((decide (a1.1.2 > a2.1.2)), ())
  else
    if (a1.2.2.1 != a2.2.2.1) = true then
      some ((decide (a1.2.2.1 > a2.2.2.1)), ())
    else
      some ((decide (a1.2.1 > a2.2.1)), ())
noncomputable def f_ref04_Ahead.S : Spec := ⟨f_ref04_Ahead.ps, f_ref04_Ahead.rs, .any, none, fun x r => ∃ k, f_ref04_Ahead.f k x.1 x.2.1 = some r⟩
theorem f_ref04_Ahead.f_ok (hV : EnvOk P f_ref04_Ahead.V) {r : f_ref04_Ahead.R} (k : Nat) (a1 : T1383.T) (a2 : T1383.T) (H : f_ref04_Ahead.f k a1 a2 = some r) : W P 0 f_ref04_Ahead.c0 (⟨34, [(0, .cv (.agg [.int .i64 a1.1.1, .int .i64 a1.1.2, .int .i64 a1.2.1, .int .i64 a1.2.2.1, .int .i64 a1.2.2.2.1, .int .i64 a1.2.2.2.2])), (1, .cv (.agg [.int .i64 a2.1.1, .int .i64 a2.1.2, .int .i64 a2.2.1, .int .i64 a2.2.2.1, .int .i64 a2.2.2.2.1, .int .i64 a2.2.2.2.2]))], []⟩) (f_ref04_Ahead.Q r) := by
  unfold f_ref04_Ahead.f at H
  refine D_seq (by kernel_rfl) ?_
  refine D_reg (cs := []) (τ := ⟨34, [(2, .cv (.one (.ptr 0 0))), (3, .cv (.one (.ptr 1 0)))], [(.box 6, [.int .i64 a1.1.1, .int .i64 a1.1.2, .int .i64 a1.2.1, .int .i64 a1.2.2.1, .int .i64 a1.2.2.2.1, .int .i64 a1.2.2.2.2]), (.box 6, [.int .i64 a2.1.1, .int .i64 a2.1.2, .int .i64 a2.2.1, .int .i64 a2.2.2.1, .int .i64 a2.2.2.2.1, .int .i64 a2.2.2.2.2])]⟩) hV 2 [(0, {sb := 0}), (1, {sb := 1})] {live := [2, 3], src := [some 0, some 1]} (by kernel_rfl) (by kernel_rfl) trivial ?_
  refine th_n ?_
  refine D_seq (by kernel_rfl) ?_
  refine D_seq (by kernel_rfl) ?_
  refine D_reg (cs := []) (τ := ⟨34, [(2, .cv (.one (.ptr 0 0))), (3, .cv (.one (.ptr 1 0))), (11, .cv (.one (.bool (a1.1.2 != a2.1.2))))], [(.box 6, [.int .i64 a1.1.1, .int .i64 a1.1.2, .int .i64 a1.2.1, .int .i64 a1.2.2.1, .int .i64 a1.2.2.2.1, .int .i64 a1.2.2.2.2]), (.box 6, [.int .i64 a2.1.1, .int .i64 a2.1.2, .int .i64 a2.2.1, .int .i64 a2.2.2.1, .int .i64 a2.2.2.2.1, .int .i64 a2.2.2.2.2])]⟩) hV 0 [] {live := [2, 3, 11], src := [some 0, some 1]} (by kernel_rfl) (by kernel_rfl) trivial ?_
  refine th_n ?_
  refine D_condB (t := 11) (b := (a1.1.2 != a2.1.2)) (by kernel_rfl) (by kernel_rfl) (fun hb1 => ?_) (fun hb1 => ?_)
  · rw [if_pos hb1] at H
    refine D_seq (by kernel_rfl) ?_
    refine D_reg (cs := []) (τ := ⟨34, [(4, .cv (.one (.bool (decide (a1.1.2 > a2.1.2)))))], []⟩) hV 0 [] {live := [4], src := []} (by kernel_rfl) (by kernel_rfl) trivial ?_
    refine th_n ?_
    refine D_ret (by kernel_rfl) ?_
    refine th_r ?_
    exact lf_r (Eq.trans (by kernel_rfl) H)
  · rw [if_neg (by rw [hb1]; decide)] at H
    refine D_skip (by kernel_rfl) ?_
    refine th_n ?_
    refine D_seq (by kernel_rfl) ?_
    refine D_seq (by kernel_rfl) ?_
    refine D_reg (cs := []) (τ := ⟨34, [(2, .cv (.one (.ptr 0 0))), (3, .cv (.one (.ptr 1 0))), (23, .cv (.one (.bool (a1.2.2.1 != a2.2.2.1))))], [(.box 6, [.int .i64 a1.1.1, .int .i64 a1.1.2, .int .i64 a1.2.1, .int .i64 a1.2.2.1, .int .i64 a1.2.2.2.1, .int .i64 a1.2.2.2.2]), (.box 6, [.int .i64 a2.1.1, .int .i64 a2.1.2, .int .i64 a2.2.1, .int .i64 a2.2.2.1, .int .i64 a2.2.2.2.1, .int .i64 a2.2.2.2.2])]⟩) hV 0 [] {live := [2, 3, 23], src := [some 0, some 1]} (by kernel_rfl) (by kernel_rfl) trivial ?_
    refine th_n ?_
    refine D_condB (t := 23) (b := (a1.2.2.1 != a2.2.2.1)) (by kernel_rfl) (by kernel_rfl) (fun hb2 => ?_) (fun hb2 => ?_)
    · rw [if_pos hb2] at H
      refine D_seq (by kernel_rfl) ?_
      refine D_reg (cs := []) (τ := ⟨34, [(4, .cv (.one (.bool (decide (a1.2.2.1 > a2.2.2.1)))))], []⟩) hV 0 [] {live := [4], src := []} (by kernel_rfl) (by kernel_rfl) trivial ?_
      refine th_n ?_
      refine D_ret (by kernel_rfl) ?_
      refine th_r ?_
      exact lf_r (Eq.trans (by kernel_rfl) H)
    · rw [if_neg (by rw [hb2]; decide)] at H
      refine D_skip (by kernel_rfl) ?_
      refine th_n ?_
      refine D_seq (by kernel_rfl) ?_
      refine D_reg (cs := []) (τ := ⟨34, [(4, .cv (.one (.bool (decide (a1.2.1 > a2.2.1)))))], []⟩) hV 0 [] {live := [4], src := []} (by kernel_rfl) (by kernel_rfl) trivial ?_
      refine th_n ?_
      refine D_ret (by kernel_rfl) ?_
      exact lf_r (Eq.trans (by kernel_rfl) H)
theorem f_ref04_Ahead.V_ok : EnvOk P f_ref04_Ahead.V := { ck := tt_ck, fits := slk_nil, mixed := mixed }
theorem f_ref04_Ahead.fits : Fits P 65 f_ref04_Ahead.S := fits_of f_ref04_Ahead.V_ok Go.Proofs.Try.func65 (by kernel_rfl) (by decide) (by decide) rfl (fun x r ⟨k, H⟩ => f_ref04_Ahead.f_ok f_ref04_Ahead.V_ok k x.1 x.2.1 H)
/-! ### f_ref08_First: function 43, wayfinder/wayfinderref08.First -/
abbrev f_ref08_First.ps : Sg := [(false, (.slice T1383)), (false, (.int .i64)), (false, (.int .i64))]
abbrev f_ref08_First.rs : Sg := [(false, (.int .i64))]
noncomputable def f_ref08_First.c0 : Code := (Go.Proofs.Try.f43.body).getD .skip
noncomputable def f_ref08_First.G : List (Nat × Spec) := [(64, f_ref04_Fits.S), (65, f_ref04_Ahead.S)]
noncomputable def f_ref08_First.V : Env := { tt := tt, Γ := slk f_ref08_First.G }
noncomputable abbrev f_ref08_First.Q (r : Tup f_ref08_First.rs) : Exit → St → Prop := Qr tt Go.Proofs.Try.f43.results ⟨f_ref08_First.ps, f_ref08_First.rs, .any, none, fun _ _ => True⟩ r
abbrev f_ref08_First.R := Tup f_ref08_First.rs
noncomputable def f_ref08_First.s1 (p1 : List T1383.T) (p2 : Int) (p3 : Int) (p4 : Int) (p5 : Int) : St := ⟨41, [(0, .cv (.one (.sl T1383 p1 .any))), (1, .cv (.one (.int .i64 p2))), (2, .cv (.one (.int .i64 p3))), (7, .cv (.one (.int .i64 p4))), (8, .cv (.one (.int .i64 p5)))], []⟩
noncomputable def f_ref08_First.s2 (p1 : List T1383.T) (p2 : Int) (p3 : Int) (p4 : Int) (p5 : Int) : St := ⟨41, [(0, .cv (.one (.sl T1383 p1 .any))), (1, .cv (.one (.int .i64 p2))), (2, .cv (.one (.int .i64 p3))), (7, .cv (.one (.int .i64 p4))), (8, .cv (.one (.int .i64 p5)))], []⟩
noncomputable def f_ref08_First.j2 (L1 : List T1383.T → Int → Int → Int → Int → Option f_ref08_First.R) (k : Nat) (p1 : List T1383.T) (p2 : Int) (p3 : Int) (p4 : Int) (p5 : Int) : Option f_ref08_First.R :=
  L1 p1 p2 p3 p4 (IntKind.i64.wrap (p5 + 1))
theorem f_ref08_First.j2_ok (hV : EnvOk P f_ref08_First.V) {r : f_ref08_First.R} (L1 : List T1383.T → Int → Int → Int → Int → Option f_ref08_First.R) (m1 : Nat) (hL1 : ∀ (p1 : List T1383.T) (p2 : Int) (p3 : Int) (p4 : Int) (p5 : Int), L1 p1 p2 p3 p4 p5 = some r → WL P 0 (Code.l (Code.l (Code.r (Code.l (Code.r (Code.r f_ref08_First.c0)))))) (blockW 0 (thenW P 0 (Code.r (Code.r (Code.r f_ref08_First.c0))) (f_ref08_First.Q r))) m1 (f_ref08_First.s1 p1 p2 p3 p4 p5)) (k : Nat) (p1 : List T1383.T) (p2 : Int) (p3 : Int) (p4 : Int) (p5 : Int) (H : f_ref08_First.j2 L1 k p1 p2 p3 p4 p5 = some r) : W P 0 (Code.r (Code.r (Code.l (Code.l (Code.r (Code.l (Code.r (Code.r f_ref08_First.c0)))))))) (f_ref08_First.s2 p1 p2 p3 p4 p5) (roundW P 0 (Code.l (Code.l (Code.r (Code.l (Code.r (Code.r f_ref08_First.c0)))))) (blockW 0 (thenW P 0 (Code.r (Code.r (Code.r f_ref08_First.c0))) (f_ref08_First.Q r))) m1) := by
  unfold f_ref08_First.j2 at H
  refine D_reg (cs := []) (τ := ⟨41, [(0, .cv (.one (.sl T1383 p1 .any))), (1, .cv (.one (.int .i64 p2))), (2, .cv (.one (.int .i64 p3))), (7, .cv (.one (.int .i64 p4))), (8, .cv (.one (.int .i64 (IntKind.i64.wrap (p5 + 1)))))], []⟩) hV 0 [] {live := [0, 1, 2, 7, 8], src := []} (by kernel_rfl) (by kernel_rfl) trivial ?_
  refine ro_n (WL_tell (τ := f_ref08_First.s1 p1 p2 p3 p4 (IntKind.i64.wrap (p5 + 1))) {fz := [], gr := 0, ad := [], live := [0, 1, 2, 7, 8], src := []} (by kernel_rfl) (by kernel_rfl) ?_)
  exact hL1 p1 p2 p3 p4 (IntKind.i64.wrap (p5 + 1)) H
noncomputable def f_ref08_First.b1 (L1 : List T1383.T → Int → Int → Int → Int → Option f_ref08_First.R) (k : Nat) (p1 : List T1383.T) (p2 : Int) (p3 : Int) (p4 : Int) (p5 : Int) : Option f_ref08_First.R :=
  if (decide (p5 < (p1.length : Int))) = true then
  if 0 ≤ p5 then
    if p5 < (p1.length : Int) then
      (f_ref04_Fits.f k (att T1383 p1 p5) p2 p3).bind fun y2 =>
        if (!y2.1) = true then
          f_ref08_First.j2 L1 k p1 p2 p3 p4 p5
        else
          if (decide (p4 < (0 : Int))) = true then
            f_ref08_First.j2 L1 k p1 p2 p3 p5 p5
          else
            if 0 ≤ p4 then
              if p4 < (p1.length : Int) then
                (f_ref04_Ahead.f k (att T1383 p1 p5) (att T1383 p1 p4)).bind fun y8 =>
                  if y8.1 = true then
                    f_ref08_First.j2 L1 k p1 p2 p3 p5 p5
                  else
                    f_ref08_First.j2 L1 k p1 p2 p3 p4 p5
              else none
            else none
    else none
  else none
else
  some (p4, ())
theorem f_ref08_First.b1_ok (hV : EnvOk P f_ref08_First.V) {r : f_ref08_First.R} (L1 : List T1383.T → Int → Int → Int → Int → Option f_ref08_First.R) (m1 : Nat) (hL1 : ∀ (p1 : List T1383.T) (p2 : Int) (p3 : Int) (p4 : Int) (p5 : Int), L1 p1 p2 p3 p4 p5 = some r → WL P 0 (Code.l (Code.l (Code.r (Code.l (Code.r (Code.r f_ref08_First.c0)))))) (blockW 0 (thenW P 0 (Code.r (Code.r (Code.r f_ref08_First.c0))) (f_ref08_First.Q r))) m1 (f_ref08_First.s1 p1 p2 p3 p4 p5)) (k : Nat) (p1 : List T1383.T) (p2 : Int) (p3 : Int) (p4 : Int) (p5 : Int) (H : f_ref08_First.b1 L1 k p1 p2 p3 p4 p5 = some r) : W P 0 (Code.l (Code.l (Code.r (Code.l (Code.r (Code.r f_ref08_First.c0)))))) (f_ref08_First.s1 p1 p2 p3 p4 p5) (roundW P 0 (Code.l (Code.l (Code.r (Code.l (Code.r (Code.r f_ref08_First.c0)))))) (blockW 0 (thenW P 0 (Code.r (Code.r (Code.r f_ref08_First.c0))) (f_ref08_First.Q r))) m1) := by
  unfold f_ref08_First.b1 at H
  refine D_seq (by kernel_rfl) ?_
  refine D_seq (by kernel_rfl) ?_
  refine D_reg (cs := []) (τ := ⟨41, [(0, .cv (.one (.sl T1383 p1 .any))), (1, .cv (.one (.int .i64 p2))), (2, .cv (.one (.int .i64 p3))), (7, .cv (.one (.int .i64 p4))), (8, .cv (.one (.int .i64 p5))), (14, .cv (.one (.bool (decide (p5 < (p1.length : Int))))))], []⟩) hV 0 [] {live := [0, 1, 2, 7, 8, 14], src := []} (by kernel_rfl) (by kernel_rfl) trivial ?_
  refine th_n ?_
  refine D_condB (t := 14) (b := (decide (p5 < (p1.length : Int)))) (by kernel_rfl) (by kernel_rfl) (fun hb1 => ?_) (fun hb1 => ?_)
  · rw [if_pos hb1] at H
    refine D_skip (by kernel_rfl) ?_
    refine th_n ?_
    refine D_seq (by kernel_rfl) ?_
    refine D_block (id := 1) (by kernel_rfl) ?_
    refine D_seq (by kernel_rfl) ?_
    obtain ⟨n3, H⟩ := of_if H
    obtain ⟨n4, H⟩ := of_if H
    obtain ⟨y2, e5, H⟩ := of_bind H
    refine D_reg (cs := [0 ≤ p5, p5 < (p1.length : Int), f_ref04_Fits.S.rel ((att T1383 p1 p5), p2, p3, ()) y2]) (τ := ⟨41, [(0, .cv (.one (.sl T1383 p1 .any))), (1, .cv (.one (.int .i64 p2))), (2, .cv (.one (.int .i64 p3))), (7, .cv (.one (.int .i64 p4))), (8, .cv (.one (.int .i64 p5))), (9, .cv (.one (.bool y2.1)))], []⟩) hV 0 [(6, {res := some ⟨f_ref04_Fits.S.rs, y2⟩})] {live := [0, 1, 2, 7, 8, 9], src := []} (by kernel_rfl) (by kernel_rfl) ⟨n3, n4, ⟨k, e5⟩, trivial⟩ ?_
    refine th_n ?_
    refine D_seq (by kernel_rfl) ?_
    refine D_seq (by kernel_rfl) ?_
    refine D_reg (cs := []) (τ := ⟨41, [(0, .cv (.one (.sl T1383 p1 .any))), (1, .cv (.one (.int .i64 p2))), (2, .cv (.one (.int .i64 p3))), (7, .cv (.one (.int .i64 p4))), (8, .cv (.one (.int .i64 p5))), (25, .cv (.one (.bool (!y2.1))))], []⟩) hV 0 [] {live := [0, 1, 2, 7, 8, 25], src := []} (by kernel_rfl) (by kernel_rfl) trivial ?_
    refine th_n ?_
    refine D_condB (t := 25) (b := (!y2.1)) (by kernel_rfl) (by kernel_rfl) (fun hb6 => ?_) (fun hb6 => ?_)
    · rw [if_pos hb6] at H
      refine D_exit (id := 1) (by kernel_rfl) ?_
      refine th_x ?_
      refine bl_h ?_
      refine th_n ?_
      refine W_tell (τ := f_ref08_First.s2 p1 p2 p3 p4 p5) {fz := [], gr := 0, ad := [], live := [0, 1, 2, 7, 8], src := []} (by kernel_rfl) (by kernel_rfl) ?_
      exact f_ref08_First.j2_ok hV L1 m1 hL1 k p1 p2 p3 p4 p5 H
    · rw [if_neg (by rw [hb6]; decide)] at H
      refine D_skip (by kernel_rfl) ?_
      refine th_n ?_
      refine D_seq (by kernel_rfl) ?_
      refine D_seq (by kernel_rfl) ?_
      refine D_reg (cs := []) (τ := ⟨41, [(0, .cv (.one (.sl T1383 p1 .any))), (1, .cv (.one (.int .i64 p2))), (2, .cv (.one (.int .i64 p3))), (7, .cv (.one (.int .i64 p4))), (8, .cv (.one (.int .i64 p5))), (27, .cv (.one (.bool (decide (p4 < (0 : Int))))))], []⟩) hV 0 [] {live := [0, 1, 2, 7, 8, 27], src := []} (by kernel_rfl) (by kernel_rfl) trivial ?_
      refine th_n ?_
      refine D_condB (t := 27) (b := (decide (p4 < (0 : Int)))) (by kernel_rfl) (by kernel_rfl) (fun hb7 => ?_) (fun hb7 => ?_)
      · rw [if_pos hb7] at H
        refine D_seq (by kernel_rfl) ?_
        refine D_reg (cs := []) (τ := ⟨41, [(0, .cv (.one (.sl T1383 p1 .any))), (1, .cv (.one (.int .i64 p2))), (2, .cv (.one (.int .i64 p3))), (7, .cv (.one (.int .i64 p5))), (8, .cv (.one (.int .i64 p5)))], []⟩) hV 0 [] {live := [0, 1, 2, 7, 8], src := []} (by kernel_rfl) (by kernel_rfl) trivial ?_
        refine th_n ?_
        refine D_exit (id := 1) (by kernel_rfl) ?_
        refine th_x ?_
        refine bl_h ?_
        refine th_n ?_
        refine W_tell (τ := f_ref08_First.s2 p1 p2 p3 p5 p5) {fz := [], gr := 0, ad := [], live := [0, 1, 2, 7, 8], src := []} (by kernel_rfl) (by kernel_rfl) ?_
        exact f_ref08_First.j2_ok hV L1 m1 hL1 k p1 p2 p3 p5 p5 H
      · rw [if_neg (by rw [hb7]; decide)] at H
        refine D_skip (by kernel_rfl) ?_
        refine th_n ?_
        refine D_seq (by kernel_rfl) ?_
        obtain ⟨n9, H⟩ := of_if H
        obtain ⟨n10, H⟩ := of_if H
        obtain ⟨y8, e11, H⟩ := of_bind H
        refine D_reg (cs := [0 ≤ p5, p5 < (p1.length : Int), 0 ≤ p4, p4 < (p1.length : Int), f_ref04_Ahead.S.rel ((att T1383 p1 p5), (att T1383 p1 p4), ()) y8]) (τ := ⟨41, [(0, .cv (.one (.sl T1383 p1 .any))), (1, .cv (.one (.int .i64 p2))), (2, .cv (.one (.int .i64 p3))), (7, .cv (.one (.int .i64 p4))), (8, .cv (.one (.int .i64 p5))), (10, .cv (.one (.bool y8.1)))], []⟩) hV 0 [(8, {res := some ⟨f_ref04_Ahead.S.rs, y8⟩})] {live := [0, 1, 2, 7, 8, 10], src := []} (by kernel_rfl) (by kernel_rfl) ⟨n3, n4, n9, n10, ⟨k, e11⟩, trivial⟩ ?_
        refine th_n ?_
        refine D_seq (by kernel_rfl) ?_
        refine D_reg (cs := []) (τ := ⟨41, [(0, .cv (.one (.sl T1383 p1 .any))), (1, .cv (.one (.int .i64 p2))), (2, .cv (.one (.int .i64 p3))), (7, .cv (.one (.int .i64 p4))), (8, .cv (.one (.int .i64 p5))), (38, .cv (.one (.bool y8.1)))], []⟩) hV 0 [] {live := [0, 1, 2, 7, 8, 38], src := []} (by kernel_rfl) (by kernel_rfl) trivial ?_
        refine th_n ?_
        refine D_condB (t := 38) (b := y8.1) (by kernel_rfl) (by kernel_rfl) (fun hb12 => ?_) (fun hb12 => ?_)
        · rw [if_pos hb12] at H
          refine D_reg (cs := []) (τ := ⟨41, [(0, .cv (.one (.sl T1383 p1 .any))), (1, .cv (.one (.int .i64 p2))), (2, .cv (.one (.int .i64 p3))), (7, .cv (.one (.int .i64 p5))), (8, .cv (.one (.int .i64 p5)))], []⟩) hV 0 [] {live := [0, 1, 2, 7, 8], src := []} (by kernel_rfl) (by kernel_rfl) trivial ?_
          refine bl_n ?_
          refine th_n ?_
          refine W_tell (τ := f_ref08_First.s2 p1 p2 p3 p5 p5) {fz := [], gr := 0, ad := [], live := [0, 1, 2, 7, 8], src := []} (by kernel_rfl) (by kernel_rfl) ?_
          exact f_ref08_First.j2_ok hV L1 m1 hL1 k p1 p2 p3 p5 p5 H
        · rw [if_neg (by rw [hb12]; decide)] at H
          refine D_skip (by kernel_rfl) ?_
          refine bl_n ?_
          refine th_n ?_
          refine W_tell (τ := f_ref08_First.s2 p1 p2 p3 p4 p5) {fz := [], gr := 0, ad := [], live := [0, 1, 2, 7, 8], src := []} (by kernel_rfl) (by kernel_rfl) ?_
          exact f_ref08_First.j2_ok hV L1 m1 hL1 k p1 p2 p3 p4 p5 H
  · rw [if_neg (by rw [hb1]; decide)] at H
    refine D_exit (id := 0) (by kernel_rfl) ?_
    refine th_x ?_
    refine ro_x ?_
    refine bl_h ?_
    refine th_n ?_
    refine D_seq (by kernel_rfl) ?_
    refine D_reg (cs := []) (τ := ⟨41, [(6, .cv (.one (.int .i64 p4)))], []⟩) hV 0 [] {live := [6], src := []} (by kernel_rfl) (by kernel_rfl) trivial ?_
    refine th_n ?_
    refine D_ret (by kernel_rfl) ?_
    exact lf_r (Eq.trans (by kernel_rfl) H)
noncomputable def f_ref08_First.l1 (k : Nat) : Nat → List T1383.T → Int → Int → Int → Int → Option f_ref08_First.R
  | 0, _, _, _, _, _ => none
  | m + 1, p1, p2, p3, p4, p5 => f_ref08_First.b1 (f_ref08_First.l1 k m) k p1 p2 p3 p4 p5
theorem f_ref08_First.l1_ok (hV : EnvOk P f_ref08_First.V) {r : f_ref08_First.R} (k : Nat) : ∀ (m1 : Nat) (p1 : List T1383.T) (p2 : Int) (p3 : Int) (p4 : Int) (p5 : Int), f_ref08_First.l1 k m1 p1 p2 p3 p4 p5 = some r → WL P 0 (Code.l (Code.l (Code.r (Code.l (Code.r (Code.r f_ref08_First.c0)))))) (blockW 0 (thenW P 0 (Code.r (Code.r (Code.r f_ref08_First.c0))) (f_ref08_First.Q r))) m1 (f_ref08_First.s1 p1 p2 p3 p4 p5)
  | 0, _, _, _, _, _, H => by cases H
  | m1 + 1, p1, p2, p3, p4, p5, H => WL_succ (f_ref08_First.b1_ok hV (f_ref08_First.l1 k m1) m1 (fun p1 p2 p3 p4 p5 H => f_ref08_First.l1_ok hV k m1 p1 p2 p3 p4 p5 H) k p1 p2 p3 p4 p5 H)
noncomputable def f_ref08_First.f (k : Nat) (a1 : List T1383.T) (a2 : Int) (a3 : Int) : Option f_ref08_First.R :=
  f_ref08_First.l1 k k a1 a2 a3 (-1) 0
noncomputable def f_ref08_First.S : Spec := ⟨f_ref08_First.ps, f_ref08_First.rs, .any, none, fun x r => ∃ k, f_ref08_First.f k x.1 x.2.1 x.2.2.1 = some r⟩
theorem f_ref08_First.f_ok (hV : EnvOk P f_ref08_First.V) {r : f_ref08_First.R} (k : Nat) (a1 : List T1383.T) (a2 : Int) (a3 : Int) (H : f_ref08_First.f k a1 a2 a3 = some r) : W P 0 f_ref08_First.c0 (⟨41, [(0, .cv (.one (.sl T1383 a1 .any))), (1, .cv (.one (.int .i64 a2))), (2, .cv (.one (.int .i64 a3)))], []⟩) (f_ref08_First.Q r) := by
  unfold f_ref08_First.f at H
  refine D_seq (by kernel_rfl) ?_
  refine D_reg (cs := []) (τ := ⟨41, [(0, .cv (.one (.sl T1383 a1 .any))), (1, .cv (.one (.int .i64 a2))), (2, .cv (.one (.int .i64 a3)))], []⟩) hV 0 [] {live := [0, 1, 2], src := []} (by kernel_rfl) (by kernel_rfl) trivial ?_
  refine th_n ?_
  refine D_seq (by kernel_rfl) ?_
  refine D_reg (cs := []) (τ := ⟨41, [(0, .cv (.one (.sl T1383 a1 .any))), (1, .cv (.one (.int .i64 a2))), (2, .cv (.one (.int .i64 a3))), (7, .cv (.one (.int .i64 (-1))))], []⟩) hV 0 [] {live := [0, 1, 2, 7], src := []} (by kernel_rfl) (by kernel_rfl) trivial ?_
  refine th_n ?_
  refine D_seq (by kernel_rfl) ?_
  refine D_seq (by kernel_rfl) ?_
  refine D_reg (cs := []) (τ := ⟨41, [(0, .cv (.one (.sl T1383 a1 .any))), (1, .cv (.one (.int .i64 a2))), (2, .cv (.one (.int .i64 a3))), (7, .cv (.one (.int .i64 (-1)))), (8, .cv (.one (.int .i64 0)))], []⟩) hV 0 [] {live := [0, 1, 2, 7, 8], src := []} (by kernel_rfl) (by kernel_rfl) trivial ?_
  refine th_n ?_
  refine D_block (id := 0) (by kernel_rfl) ?_
  refine W_tell (τ := f_ref08_First.s1 a1 a2 a3 (-1) 0) {fz := [], gr := 0, ad := [], live := [0, 1, 2, 7, 8], src := []} (by kernel_rfl) (by kernel_rfl) ?_
  exact D_loop (by kernel_rfl) k (f_ref08_First.l1_ok hV k k a1 a2 a3 (-1) 0 H)
theorem f_ref08_First.V_ok : EnvOk P f_ref08_First.V := { ck := tt_ck, fits := slk_cons f_ref04_Fits.fits (slk_cons f_ref04_Ahead.fits (slk_nil)), mixed := mixed }
theorem f_ref08_First.fits : Fits P 43 f_ref08_First.S := fits_of f_ref08_First.V_ok Go.Proofs.Try.func43 (by kernel_rfl) (by decide) (by decide) rfl (fun x r ⟨k, H⟩ => f_ref08_First.f_ok f_ref08_First.V_ok k x.1 x.2.1 x.2.2.1 H)
/-! ### f_ref09_Look: function 23, wayfinder/wayfinderref09.Look -/
abbrev f_ref09_Look.ps : Sg := [(false, (.slice T814c)), (false, (.int .i64)), (false, (.int .i64)), (false, (.int .i64))]
abbrev f_ref09_Look.rs : Sg := [(true, T713d), (false, (.int .i64))]
noncomputable def f_ref09_Look.c0 : Code := (Go.Proofs.Try.f23.body).getD .skip
noncomputable def f_ref09_Look.G : List (Nat × Spec) := [(30, f_ref09_Of.S), (43, f_ref08_First.S)]
noncomputable def f_ref09_Look.V : Env := { tt := tt, Γ := slk f_ref09_Look.G }
noncomputable abbrev f_ref09_Look.Q (r : Tup f_ref09_Look.rs) : Exit → St → Prop := Qr tt Go.Proofs.Try.f23.results ⟨f_ref09_Look.ps, f_ref09_Look.rs, .any, none, fun _ _ => True⟩ r
abbrev f_ref09_Look.R := Tup f_ref09_Look.rs
noncomputable def f_ref09_Look.f (k : Nat) (a1 : List T814c.T) (a2 : Int) (a3 : Int) (a4 : Int) : Option f_ref09_Look.R :=
  (f_ref09_Of.f k a1 a2).bind fun y1 =>
    if (!y1.2.1) = true then
      some ((0, 0), ((4 : Int), ()))
    else
      (f_ref08_First.f k y1.1 a3 a4).bind fun y4 =>
        if (decide (y4.1 < (0 : Int))) = true then
          some ((0, 0), ((3 : Int), ()))
        else
          if 0 ≤ y4.1 then
            if y4.1 < (y1.1.length : Int) then
              if ((((((att T1383 y1.1 y4.1).2).2).2).1) == (1 : Int)) = true then
                some (((((att T1383 y1.1 y4.1).2).2).2), ((0 : Int), ()))
              else
                some (((((att T1383 y1.1 y4.1).2).2).2), ((2 : Int), ()))
            else none
          else none
noncomputable def f_ref09_Look.S : Spec := ⟨f_ref09_Look.ps, f_ref09_Look.rs, .any, none, fun x r => ∃ k, f_ref09_Look.f k x.1 x.2.1 x.2.2.1 x.2.2.2.1 = some r⟩
theorem f_ref09_Look.f_ok (hV : EnvOk P f_ref09_Look.V) {r : f_ref09_Look.R} (k : Nat) (a1 : List T814c.T) (a2 : Int) (a3 : Int) (a4 : Int) (H : f_ref09_Look.f k a1 a2 a3 a4 = some r) : W P 0 f_ref09_Look.c0 (⟨46, [(0, .cv (.one (.sl T814c a1 .any))), (1, .cv (.one (.int .i64 a2))), (2, .cv (.one (.int .i64 a3))), (3, .cv (.one (.int .i64 a4)))], []⟩) (f_ref09_Look.Q r) := by
  unfold f_ref09_Look.f at H
  refine D_seq (by kernel_rfl) ?_
  refine D_reg (cs := []) (τ := ⟨46, [(0, .cv (.one (.sl T814c a1 .any))), (1, .cv (.one (.int .i64 a2))), (2, .cv (.one (.int .i64 a3))), (3, .cv (.one (.int .i64 a4))), (8, .cv (.one (.ptr 0 0)))], [(.box 2, [.int .i64 0, .int .i64 0])]⟩) hV 1 [(0, {sb := 0})] {live := [0, 1, 2, 3, 8], src := [some 0]} (by kernel_rfl) (by kernel_rfl) trivial ?_
  refine th_n ?_
  refine D_seq (by kernel_rfl) ?_
  obtain ⟨y1, e2, H⟩ := of_bind H
  refine D_reg (cs := [f_ref09_Of.S.rel (a1, a2, ()) y1]) (τ := ⟨46, [(2, .cv (.one (.int .i64 a3))), (3, .cv (.one (.int .i64 a4))), (8, .cv (.one (.ptr 0 0))), (10, .cv (.one (.sl T1383 y1.1 .any))), (11, .cv (.one (.bool y1.2.1)))], [(.box 2, [.int .i64 0, .int .i64 0])]⟩) hV 0 [(2, {res := some ⟨f_ref09_Of.S.rs, y1⟩})] {live := [2, 3, 8, 10, 11], src := [some 0]} (by kernel_rfl) (by kernel_rfl) ⟨⟨k, e2⟩, trivial⟩ ?_
  refine th_n ?_
  refine D_seq (by kernel_rfl) ?_
  refine D_seq (by kernel_rfl) ?_
  refine D_reg (cs := []) (τ := ⟨46, [(2, .cv (.one (.int .i64 a3))), (3, .cv (.one (.int .i64 a4))), (8, .cv (.one (.ptr 0 0))), (10, .cv (.one (.sl T1383 y1.1 .any))), (20, .cv (.one (.bool (!y1.2.1))))], [(.box 2, [.int .i64 0, .int .i64 0])]⟩) hV 0 [] {live := [2, 3, 8, 10, 20], src := [some 0]} (by kernel_rfl) (by kernel_rfl) trivial ?_
  refine th_n ?_
  refine D_condB (t := 20) (b := (!y1.2.1)) (by kernel_rfl) (by kernel_rfl) (fun hb3 => ?_) (fun hb3 => ?_)
  · rw [if_pos hb3] at H
    refine D_seq (by kernel_rfl) ?_
    refine D_reg (cs := []) (τ := ⟨46, [(8, .cv (.one (.ptr 0 0))), (9, .cv (.one (.int .i64 4)))], [(.box 2, [.int .i64 0, .int .i64 0])]⟩) hV 0 [] {live := [8, 9], src := [some 0]} (by kernel_rfl) (by kernel_rfl) trivial ?_
    refine th_n ?_
    refine D_ret (by kernel_rfl) ?_
    refine th_r ?_
    exact lf_r (Eq.trans (by kernel_rfl) H)
  · rw [if_neg (by rw [hb3]; decide)] at H
    refine D_skip (by kernel_rfl) ?_
    refine th_n ?_
    refine D_seq (by kernel_rfl) ?_
    obtain ⟨y4, e5, H⟩ := of_bind H
    refine D_reg (cs := [f_ref08_First.S.rel (y1.1, a3, a4, ()) y4]) (τ := ⟨46, [(8, .cv (.one (.ptr 0 0))), (10, .cv (.one (.sl T1383 y1.1 .any))), (12, .cv (.one (.int .i64 y4.1)))], [(.box 2, [.int .i64 0, .int .i64 0])]⟩) hV 0 [(3, {res := some ⟨f_ref08_First.S.rs, y4⟩})] {live := [8, 10, 12], src := [some 0]} (by kernel_rfl) (by kernel_rfl) ⟨⟨k, e5⟩, trivial⟩ ?_
    refine th_n ?_
    refine D_seq (by kernel_rfl) ?_
    refine D_seq (by kernel_rfl) ?_
    refine D_reg (cs := []) (τ := ⟨46, [(8, .cv (.one (.ptr 0 0))), (10, .cv (.one (.sl T1383 y1.1 .any))), (12, .cv (.one (.int .i64 y4.1))), (27, .cv (.one (.bool (decide (y4.1 < (0 : Int))))))], [(.box 2, [.int .i64 0, .int .i64 0])]⟩) hV 0 [] {live := [8, 10, 12, 27], src := [some 0]} (by kernel_rfl) (by kernel_rfl) trivial ?_
    refine th_n ?_
    refine D_condB (t := 27) (b := (decide (y4.1 < (0 : Int)))) (by kernel_rfl) (by kernel_rfl) (fun hb6 => ?_) (fun hb6 => ?_)
    · rw [if_pos hb6] at H
      refine D_seq (by kernel_rfl) ?_
      refine D_reg (cs := []) (τ := ⟨46, [(8, .cv (.one (.ptr 0 0))), (9, .cv (.one (.int .i64 3)))], [(.box 2, [.int .i64 0, .int .i64 0])]⟩) hV 0 [] {live := [8, 9], src := [some 0]} (by kernel_rfl) (by kernel_rfl) trivial ?_
      refine th_n ?_
      refine D_ret (by kernel_rfl) ?_
      refine th_r ?_
      exact lf_r (Eq.trans (by kernel_rfl) H)
    · rw [if_neg (by rw [hb6]; decide)] at H
      refine D_skip (by kernel_rfl) ?_
      refine th_n ?_
      refine D_seq (by kernel_rfl) ?_
      refine D_seq (by kernel_rfl) ?_
      obtain ⟨n7, H⟩ := of_if H
      obtain ⟨n8, H⟩ := of_if H
      refine D_reg (cs := [0 ≤ y4.1, y4.1 < (y1.1.length : Int)]) (τ := ⟨46, [(8, .cv (.one (.ptr 0 0))), (10, .cv (.one (.sl T1383 y1.1 .any))), (12, .cv (.one (.int .i64 y4.1))), (35, .cv (.one (.bool ((((((att T1383 y1.1 y4.1).2).2).2).1) == (1 : Int)))))], [(.box 2, [.int .i64 0, .int .i64 0])]⟩) hV 0 [] {live := [8, 10, 12, 35], src := [some 0]} (by kernel_rfl) (by kernel_rfl) ⟨n7, n8, trivial⟩ ?_
      refine th_n ?_
      refine D_condB (t := 35) (b := ((((((att T1383 y1.1 y4.1).2).2).2).1) == (1 : Int))) (by kernel_rfl) (by kernel_rfl) (fun hb9 => ?_) (fun hb9 => ?_)
      · rw [if_pos hb9] at H
        refine D_seq (by kernel_rfl) ?_
        refine D_reg (cs := [0 ≤ y4.1, y4.1 < (y1.1.length : Int)]) (τ := ⟨46, [(8, .cv (.one (.ptr 0 0))), (9, .cv (.one (.int .i64 0)))], [(.box 2, [.int .i64 (((((att T1383 y1.1 y4.1).2).2).2).1), .int .i64 (((((att T1383 y1.1 y4.1).2).2).2).2)])]⟩) hV 0 [] {live := [8, 9], src := [some 0]} (by kernel_rfl) (by kernel_rfl) ⟨n7, n8, trivial⟩ ?_
        refine th_n ?_
        refine D_ret (by kernel_rfl) ?_
        refine th_r ?_
        exact lf_r (Eq.trans (by kernel_rfl) H)
      · rw [if_neg (by rw [hb9]; decide)] at H
        refine D_skip (by kernel_rfl) ?_
        refine th_n ?_
        refine D_seq (by kernel_rfl) ?_
        refine D_reg (cs := [0 ≤ y4.1, y4.1 < (y1.1.length : Int)]) (τ := ⟨46, [(8, .cv (.one (.ptr 0 0))), (9, .cv (.one (.int .i64 2)))], [(.box 2, [.int .i64 (((((att T1383 y1.1 y4.1).2).2).2).1), .int .i64 (((((att T1383 y1.1 y4.1).2).2).2).2)])]⟩) hV 0 [] {live := [8, 9], src := [some 0]} (by kernel_rfl) (by kernel_rfl) ⟨n7, n8, trivial⟩ ?_
        refine th_n ?_
        refine D_ret (by kernel_rfl) ?_
        exact lf_r (Eq.trans (by kernel_rfl) H)
theorem f_ref09_Look.V_ok : EnvOk P f_ref09_Look.V := { ck := tt_ck, fits := slk_cons f_ref09_Of.fits (slk_cons f_ref08_First.fits (slk_nil)), mixed := mixed }
theorem f_ref09_Look.fits : Fits P 23 f_ref09_Look.S := fits_of f_ref09_Look.V_ok Go.Proofs.Try.func23 (by kernel_rfl) (by decide) (by decide) rfl (fun x r ⟨k, H⟩ => f_ref09_Look.f_ok f_ref09_Look.V_ok k x.1 x.2.1 x.2.2.1 x.2.2.2.1 H)
/-! ### f_law09_TableLooks: function 5, wayfinder/wayfinderlaw09.TableLooks -/
abbrev f_law09_TableLooks.ps : Sg := [(false, (.slice T814c)), (false, (.int .i64)), (false, (.int .i64)), (false, (.int .i64))]
abbrev f_law09_TableLooks.rs : Sg := [(false, .bool)]
noncomputable def f_law09_TableLooks.c0 : Code := (Go.Proofs.Try.f5.body).getD .skip
noncomputable def f_law09_TableLooks.G : List (Nat × Spec) := [(18, f_law09_Few.S), (21, f_law09_awake.S), (22, f_table_Look.S), (23, f_ref09_Look.S)]
noncomputable def f_law09_TableLooks.V : Env := { tt := tt, Γ := slk f_law09_TableLooks.G }
noncomputable abbrev f_law09_TableLooks.Q (r : Tup f_law09_TableLooks.rs) : Exit → St → Prop := Qr tt Go.Proofs.Try.f5.results ⟨f_law09_TableLooks.ps, f_law09_TableLooks.rs, .any, none, fun _ _ => True⟩ r
abbrev f_law09_TableLooks.R := Tup f_law09_TableLooks.rs
noncomputable def f_law09_TableLooks.s1 (p1 : List T814c.T) (p2 : Int) (p3 : Int) (p4 : Int) (p5 : Bool) (p6 : Bool) : St := ⟨49, [(0, .cv (.one (.sl T814c p1 .any))), (1, .cv (.one (.int .i64 p2))), (2, .cv (.one (.int .i64 p3))), (3, .cv (.one (.int .i64 p4))), (9, .cv (.one (.bool p5))), (23, .cv (.one (.bool p6)))], []⟩
noncomputable def f_law09_TableLooks.j1 (k : Nat) (p1 : List T814c.T) (p2 : Int) (p3 : Int) (p4 : Int) (p5 : Bool) (p6 : Bool) : Option f_law09_TableLooks.R :=
  if p6 = true then
  some (p5, ())
else
  (f_table_Look.f k p1 p2 p3 p4).bind fun y7 =>
    (f_ref09_Look.f k p1 p2 p3 p4).bind fun y9 =>
      if ((y7.1.1 == y9.1.1) && ((y7.1.2 == y9.1.2) && true)) = true then
        some ((y7.2.1 == y9.2.1), ())
      else
        some (false, ())
theorem f_law09_TableLooks.j1_ok (hV : EnvOk P f_law09_TableLooks.V) {r : f_law09_TableLooks.R} (k : Nat) (p1 : List T814c.T) (p2 : Int) (p3 : Int) (p4 : Int) (p5 : Bool) (p6 : Bool) (H : f_law09_TableLooks.j1 k p1 p2 p3 p4 p5 p6 = some r) : W P 0 (Code.r (Code.l (Code.r (Code.r (Code.r f_law09_TableLooks.c0))))) (f_law09_TableLooks.s1 p1 p2 p3 p4 p5 p6) (thenW P 0 (Code.r (Code.r (Code.r (Code.r f_law09_TableLooks.c0)))) (f_law09_TableLooks.Q r)) := by
  unfold f_law09_TableLooks.j1 at H
  refine D_condB (t := 23) (b := p6) (by kernel_rfl) (by kernel_rfl) (fun hb6 => ?_) (fun hb6 => ?_)
  · rw [if_pos hb6] at H
    refine D_seq (by kernel_rfl) ?_
    refine D_reg (cs := []) (τ := ⟨49, [(8, .cv (.one (.bool p5)))], []⟩) hV 0 [] {live := [8], src := []} (by kernel_rfl) (by kernel_rfl) trivial ?_
    refine th_n ?_
    refine D_ret (by kernel_rfl) ?_
    refine th_r ?_
    exact lf_r (Eq.trans (by kernel_rfl) H)
  · rw [if_neg (by rw [hb6]; decide)] at H
    refine D_skip (by kernel_rfl) ?_
    refine th_n ?_
    refine D_seq (by kernel_rfl) ?_
    obtain ⟨y7, e8, H⟩ := of_bind H
    refine D_reg (cs := [f_table_Look.S.rel (p1, p2, p3, p4, ()) y7]) (τ := ⟨49, [(0, .cv (.one (.sl T814c p1 .any))), (1, .cv (.one (.int .i64 p2))), (2, .cv (.one (.int .i64 p3))), (3, .cv (.one (.int .i64 p4))), (11, .cv (.one (.ptr 0 0))), (12, .cv (.one (.int .i64 y7.2.1)))], [(.box 2, [.int .i64 y7.1.1, .int .i64 y7.1.2])]⟩) hV 1 [(4, {res := some ⟨f_table_Look.S.rs, y7⟩}), (8, {sb := 0})] {live := [0, 1, 2, 3, 11, 12], src := [some 0]} (by kernel_rfl) (by kernel_rfl) ⟨⟨k, e8⟩, trivial⟩ ?_
    refine th_n ?_
    refine D_seq (by kernel_rfl) ?_
    obtain ⟨y9, e10, H⟩ := of_bind H
    refine D_reg (cs := [f_ref09_Look.S.rel (p1, p2, p3, p4, ()) y9]) (τ := ⟨49, [(11, .cv (.one (.ptr 0 0))), (12, .cv (.one (.int .i64 y7.2.1))), (13, .cv (.one (.ptr 1 0))), (14, .cv (.one (.int .i64 y9.2.1)))], [(.box 2, [.int .i64 y7.1.1, .int .i64 y7.1.2]), (.box 2, [.int .i64 y9.1.1, .int .i64 y9.1.2])]⟩) hV 1 [(4, {res := some ⟨f_ref09_Look.S.rs, y9⟩}), (8, {sb := 1})] {live := [11, 12, 13, 14], src := [some 0, some 1]} (by kernel_rfl) (by kernel_rfl) ⟨⟨k, e10⟩, trivial⟩ ?_
    refine th_n ?_
    refine D_seq (by kernel_rfl) ?_
    rcases of_ite H with ⟨hb11, H⟩ | ⟨hb11, H⟩
    · refine D_reg (cs := [(((y7.1.1 == y9.1.1) && ((y7.1.2 == y9.1.2) && true))) = true]) (τ := ⟨49, [(8, .cv (.one (.bool (y7.2.1 == y9.2.1))))], []⟩) hV 0 [(2, {bv := some true})] {live := [8], src := []} (by kernel_rfl) (by kernel_rfl) ⟨hb11, trivial⟩ ?_
      refine th_n ?_
      refine D_ret (by kernel_rfl) ?_
      exact lf_r (Eq.trans (by kernel_rfl) H)
    · refine D_reg (cs := [(((y7.1.1 == y9.1.1) && ((y7.1.2 == y9.1.2) && true))) = false]) (τ := ⟨49, [(8, .cv (.one (.bool false)))], []⟩) hV 0 [(2, {bv := some false})] {live := [8], src := []} (by kernel_rfl) (by kernel_rfl) ⟨hb11, trivial⟩ ?_
      refine th_n ?_
      refine D_ret (by kernel_rfl) ?_
      exact lf_r (Eq.trans (by kernel_rfl) H)
noncomputable def f_law09_TableLooks.f (k : Nat) (a1 : List T814c.T) (a2 : Int) (a3 : Int) (a4 : Int) : Option f_law09_TableLooks.R :=
  (f_law09_awake.f k).bind fun y1 =>
    (f_law09_Few.f k a1).bind fun y3 =>
      if (!y1.1) = true then
        f_law09_TableLooks.j1 k a1 a2 a3 a4 y1.1 true
      else
        f_law09_TableLooks.j1 k a1 a2 a3 a4 y1.1 (!y3.1)
noncomputable def f_law09_TableLooks.S : Spec := ⟨f_law09_TableLooks.ps, f_law09_TableLooks.rs, .any, none, fun x r => ∃ k, f_law09_TableLooks.f k x.1 x.2.1 x.2.2.1 x.2.2.2.1 = some r⟩
theorem f_law09_TableLooks.f_ok (hV : EnvOk P f_law09_TableLooks.V) {r : f_law09_TableLooks.R} (k : Nat) (a1 : List T814c.T) (a2 : Int) (a3 : Int) (a4 : Int) (H : f_law09_TableLooks.f k a1 a2 a3 a4 = some r) : W P 0 f_law09_TableLooks.c0 (⟨49, [(0, .cv (.one (.sl T814c a1 .any))), (1, .cv (.one (.int .i64 a2))), (2, .cv (.one (.int .i64 a3))), (3, .cv (.one (.int .i64 a4)))], []⟩) (f_law09_TableLooks.Q r) := by
  unfold f_law09_TableLooks.f at H
  refine D_seq (by kernel_rfl) ?_
  refine D_reg (cs := []) (τ := ⟨49, [(0, .cv (.one (.sl T814c a1 .any))), (1, .cv (.one (.int .i64 a2))), (2, .cv (.one (.int .i64 a3))), (3, .cv (.one (.int .i64 a4)))], []⟩) hV 0 [] {live := [0, 1, 2, 3], src := []} (by kernel_rfl) (by kernel_rfl) trivial ?_
  refine th_n ?_
  refine D_seq (by kernel_rfl) ?_
  obtain ⟨y1, e2, H⟩ := of_bind H
  refine D_reg (cs := [f_law09_awake.S.rel (()) y1]) (τ := ⟨49, [(0, .cv (.one (.sl T814c a1 .any))), (1, .cv (.one (.int .i64 a2))), (2, .cv (.one (.int .i64 a3))), (3, .cv (.one (.int .i64 a4))), (9, .cv (.one (.bool y1.1)))], []⟩) hV 0 [(0, {res := some ⟨f_law09_awake.S.rs, y1⟩})] {live := [0, 1, 2, 3, 9], src := []} (by kernel_rfl) (by kernel_rfl) ⟨⟨k, e2⟩, trivial⟩ ?_
  refine th_n ?_
  refine D_seq (by kernel_rfl) ?_
  obtain ⟨y3, e4, H⟩ := of_bind H
  refine D_reg (cs := [f_law09_Few.S.rel (a1, ()) y3]) (τ := ⟨49, [(0, .cv (.one (.sl T814c a1 .any))), (1, .cv (.one (.int .i64 a2))), (2, .cv (.one (.int .i64 a3))), (3, .cv (.one (.int .i64 a4))), (9, .cv (.one (.bool y1.1))), (10, .cv (.one (.bool y3.1)))], []⟩) hV 0 [(1, {res := some ⟨f_law09_Few.S.rs, y3⟩})] {live := [0, 1, 2, 3, 9, 10], src := []} (by kernel_rfl) (by kernel_rfl) ⟨⟨k, e4⟩, trivial⟩ ?_
  refine th_n ?_
  refine D_seq (by kernel_rfl) ?_
  refine D_seq (by kernel_rfl) ?_
  rcases of_ite H with ⟨hb5, H⟩ | ⟨hb5, H⟩
  · refine D_reg (cs := [((!y1.1)) = true]) (τ := ⟨49, [(0, .cv (.one (.sl T814c a1 .any))), (1, .cv (.one (.int .i64 a2))), (2, .cv (.one (.int .i64 a3))), (3, .cv (.one (.int .i64 a4))), (9, .cv (.one (.bool y1.1))), (23, .cv (.one (.bool true)))], []⟩) hV 0 [(1, {bv := some true})] {live := [0, 1, 2, 3, 9, 23], src := []} (by kernel_rfl) (by kernel_rfl) ⟨hb5, trivial⟩ ?_
    refine th_n ?_
    refine W_tell (τ := f_law09_TableLooks.s1 a1 a2 a3 a4 y1.1 true) {fz := [], gr := 0, ad := [], live := [0, 1, 2, 3, 9, 23], src := []} (by kernel_rfl) (by kernel_rfl) ?_
    exact f_law09_TableLooks.j1_ok hV k a1 a2 a3 a4 y1.1 true H
  · refine D_reg (cs := [((!y1.1)) = false]) (τ := ⟨49, [(0, .cv (.one (.sl T814c a1 .any))), (1, .cv (.one (.int .i64 a2))), (2, .cv (.one (.int .i64 a3))), (3, .cv (.one (.int .i64 a4))), (9, .cv (.one (.bool y1.1))), (23, .cv (.one (.bool (!y3.1))))], []⟩) hV 0 [(1, {bv := some false})] {live := [0, 1, 2, 3, 9, 23], src := []} (by kernel_rfl) (by kernel_rfl) ⟨hb5, trivial⟩ ?_
    refine th_n ?_
    refine W_tell (τ := f_law09_TableLooks.s1 a1 a2 a3 a4 y1.1 (!y3.1)) {fz := [], gr := 0, ad := [], live := [0, 1, 2, 3, 9, 23], src := []} (by kernel_rfl) (by kernel_rfl) ?_
    exact f_law09_TableLooks.j1_ok hV k a1 a2 a3 a4 y1.1 (!y3.1) H
theorem f_law09_TableLooks.V_ok : EnvOk P f_law09_TableLooks.V := { ck := tt_ck, fits := slk_cons f_law09_Few.fits (slk_cons f_law09_awake.fits (slk_cons f_table_Look.fits (slk_cons f_ref09_Look.fits (slk_nil)))), mixed := mixed }
theorem f_law09_TableLooks.fits : Fits P 5 f_law09_TableLooks.S := fits_of f_law09_TableLooks.V_ok Go.Proofs.Try.func5 (by kernel_rfl) (by decide) (by decide) rfl (fun x r ⟨k, H⟩ => f_law09_TableLooks.f_ok f_law09_TableLooks.V_ok k x.1 x.2.1 x.2.2.1 x.2.2.2.1 H)
/-! ### f_ref08_Same: function 31, wayfinder/wayfinderref08.Same -/
abbrev f_ref08_Same.ps : Sg := [(false, (.slice T1383)), (false, (.slice T1383))]
abbrev f_ref08_Same.rs : Sg := [(false, .bool)]
noncomputable def f_ref08_Same.c0 : Code := (Go.Proofs.Try.f31.body).getD .skip
noncomputable def f_ref08_Same.G : List (Nat × Spec) := []
noncomputable def f_ref08_Same.V : Env := { tt := tt, Γ := slk f_ref08_Same.G }
noncomputable abbrev f_ref08_Same.Q (r : Tup f_ref08_Same.rs) : Exit → St → Prop := Qr tt Go.Proofs.Try.f31.results ⟨f_ref08_Same.ps, f_ref08_Same.rs, .any, none, fun _ _ => True⟩ r
abbrev f_ref08_Same.R := Tup f_ref08_Same.rs
noncomputable def f_ref08_Same.s1 (p1 : List T1383.T) (p2 : List T1383.T) (p3 : Int) : St := ⟨26, [(0, .cv (.one (.sl T1383 p1 .any))), (1, .cv (.one (.sl T1383 p2 .any))), (5, .cv (.one (.int .i64 p3)))], []⟩
noncomputable def f_ref08_Same.b1 (L1 : List T1383.T → List T1383.T → Int → Option f_ref08_Same.R) (k : Nat) (p1 : List T1383.T) (p2 : List T1383.T) (p3 : Int) : Option f_ref08_Same.R :=
  if (decide (p3 < (p1.length : Int))) = true then
  if 0 ≤ p3 then
    if p3 < (p1.length : Int) then
      if p3 < (p2.length : Int) then
        if (!(((((att T1383 p1 p3).1).1) == (((att T1383 p2 p3).1).1)) && (((((att T1383 p1 p3).1).2) == (((att T1383 p2 p3).1).2)) && (((((att T1383 p1 p3).2).1) == (((att T1383 p2 p3).2).1)) && ((((((att T1383 p1 p3).2).2).1) == ((((att T1383 p2 p3).2).2).1)) && (((((((att T1383 p1 p3).2).2).2).1) == (((((att T1383 p2 p3).2).2).2).1)) && (((((((att T1383 p1 p3).2).2).2).2) == (((((att T1383 p2 p3).2).2).2).2)) && true))))))) = true then
          some (false, ())
        else
          L1 p1 p2 (IntKind.i64.wrap (p3 + 1))
      else none
    else none
  else none
else
  some (true, ())
theorem f_ref08_Same.b1_ok (hV : EnvOk P f_ref08_Same.V) {r : f_ref08_Same.R} (L1 : List T1383.T → List T1383.T → Int → Option f_ref08_Same.R) (m1 : Nat) (hL1 : ∀ (p1 : List T1383.T) (p2 : List T1383.T) (p3 : Int), L1 p1 p2 p3 = some r → WL P 0 (Code.l (Code.l (Code.r (Code.l (Code.r (Code.r f_ref08_Same.c0)))))) (blockW 0 (thenW P 0 (Code.r (Code.r (Code.r f_ref08_Same.c0))) (f_ref08_Same.Q r))) m1 (f_ref08_Same.s1 p1 p2 p3)) (k : Nat) (p1 : List T1383.T) (p2 : List T1383.T) (p3 : Int) (H : f_ref08_Same.b1 L1 k p1 p2 p3 = some r) : W P 0 (Code.l (Code.l (Code.r (Code.l (Code.r (Code.r f_ref08_Same.c0)))))) (f_ref08_Same.s1 p1 p2 p3) (roundW P 0 (Code.l (Code.l (Code.r (Code.l (Code.r (Code.r f_ref08_Same.c0)))))) (blockW 0 (thenW P 0 (Code.r (Code.r (Code.r f_ref08_Same.c0))) (f_ref08_Same.Q r))) m1) := by
  unfold f_ref08_Same.b1 at H
  refine D_seq (by kernel_rfl) ?_
  refine D_seq (by kernel_rfl) ?_
  refine D_reg (cs := []) (τ := ⟨26, [(0, .cv (.one (.sl T1383 p1 .any))), (1, .cv (.one (.sl T1383 p2 .any))), (5, .cv (.one (.int .i64 p3))), (14, .cv (.one (.bool (decide (p3 < (p1.length : Int))))))], []⟩) hV 0 [] {live := [0, 1, 5, 14], src := []} (by kernel_rfl) (by kernel_rfl) trivial ?_
  refine th_n ?_
  refine D_condB (t := 14) (b := (decide (p3 < (p1.length : Int)))) (by kernel_rfl) (by kernel_rfl) (fun hb2 => ?_) (fun hb2 => ?_)
  · rw [if_pos hb2] at H
    refine D_skip (by kernel_rfl) ?_
    refine th_n ?_
    refine D_seq (by kernel_rfl) ?_
    refine D_block (id := 1) (by kernel_rfl) ?_
    refine D_seq (by kernel_rfl) ?_
    obtain ⟨n3, H⟩ := of_if H
    obtain ⟨n4, H⟩ := of_if H
    obtain ⟨n5, H⟩ := of_if H
    refine D_reg (cs := [0 ≤ p3, p3 < (p1.length : Int), 0 ≤ p3, p3 < (p2.length : Int)]) (τ := ⟨26, [(0, .cv (.one (.sl T1383 p1 .any))), (1, .cv (.one (.sl T1383 p2 .any))), (5, .cv (.one (.int .i64 p3))), (25, .cv (.one (.bool (!(((((att T1383 p1 p3).1).1) == (((att T1383 p2 p3).1).1)) && (((((att T1383 p1 p3).1).2) == (((att T1383 p2 p3).1).2)) && (((((att T1383 p1 p3).2).1) == (((att T1383 p2 p3).2).1)) && ((((((att T1383 p1 p3).2).2).1) == ((((att T1383 p2 p3).2).2).1)) && (((((((att T1383 p1 p3).2).2).2).1) == (((((att T1383 p2 p3).2).2).2).1)) && (((((((att T1383 p1 p3).2).2).2).2) == (((((att T1383 p2 p3).2).2).2).2)) && true))))))))))], []⟩) hV 0 [] {live := [0, 1, 5, 25], src := []} (by kernel_rfl) (by kernel_rfl) ⟨n3, n4, n3, n5, trivial⟩ ?_
    refine th_n ?_
    refine D_condB (t := 25) (b := (!(((((att T1383 p1 p3).1).1) == (((att T1383 p2 p3).1).1)) && (((((att T1383 p1 p3).1).2) == (((att T1383 p2 p3).1).2)) && (((((att T1383 p1 p3).2).1) == (((att T1383 p2 p3).2).1)) && ((((((att T1383 p1 p3).2).2).1) == ((((att T1383 p2 p3).2).2).1)) && (((((((att T1383 p1 p3).2).2).2).1) == (((((att T1383 p2 p3).2).2).2).1)) && (((((((att T1383 p1 p3).2).2).2).2) == (((((att T1383 p2 p3).2).2).2).2)) && true)))))))) (by kernel_rfl) (by kernel_rfl) (fun hb6 => ?_) (fun hb6 => ?_)
    · rw [if_pos hb6] at H
      refine D_seq (by kernel_rfl) ?_
      refine D_reg (cs := []) (τ := ⟨26, [(4, .cv (.one (.bool false)))], []⟩) hV 0 [] {live := [4], src := []} (by kernel_rfl) (by kernel_rfl) trivial ?_
      refine th_n ?_
      refine D_ret (by kernel_rfl) ?_
      refine bl_r ?_
      refine th_r ?_
      refine ro_r ?_
      refine bl_r ?_
      refine th_r ?_
      exact lf_r (Eq.trans (by kernel_rfl) H)
    · rw [if_neg (by rw [hb6]; decide)] at H
      refine D_skip (by kernel_rfl) ?_
      refine bl_n ?_
      refine th_n ?_
      refine D_reg (cs := []) (τ := ⟨26, [(0, .cv (.one (.sl T1383 p1 .any))), (1, .cv (.one (.sl T1383 p2 .any))), (5, .cv (.one (.int .i64 (IntKind.i64.wrap (p3 + 1)))))], []⟩) hV 0 [] {live := [0, 1, 5], src := []} (by kernel_rfl) (by kernel_rfl) trivial ?_
      refine ro_n (WL_tell (τ := f_ref08_Same.s1 p1 p2 (IntKind.i64.wrap (p3 + 1))) {fz := [], gr := 0, ad := [], live := [0, 1, 5], src := []} (by kernel_rfl) (by kernel_rfl) ?_)
      exact hL1 p1 p2 (IntKind.i64.wrap (p3 + 1)) H
  · rw [if_neg (by rw [hb2]; decide)] at H
    refine D_exit (id := 0) (by kernel_rfl) ?_
    refine th_x ?_
    refine ro_x ?_
    refine bl_h ?_
    refine th_n ?_
    refine D_seq (by kernel_rfl) ?_
    refine D_reg (cs := []) (τ := ⟨26, [(4, .cv (.one (.bool true)))], []⟩) hV 0 [] {live := [4], src := []} (by kernel_rfl) (by kernel_rfl) trivial ?_
    refine th_n ?_
    refine D_ret (by kernel_rfl) ?_
    exact lf_r (Eq.trans (by kernel_rfl) H)
noncomputable def f_ref08_Same.l1 (k : Nat) : Nat → List T1383.T → List T1383.T → Int → Option f_ref08_Same.R
  | 0, _, _, _ => none
  | m + 1, p1, p2, p3 => f_ref08_Same.b1 (f_ref08_Same.l1 k m) k p1 p2 p3
theorem f_ref08_Same.l1_ok (hV : EnvOk P f_ref08_Same.V) {r : f_ref08_Same.R} (k : Nat) : ∀ (m1 : Nat) (p1 : List T1383.T) (p2 : List T1383.T) (p3 : Int), f_ref08_Same.l1 k m1 p1 p2 p3 = some r → WL P 0 (Code.l (Code.l (Code.r (Code.l (Code.r (Code.r f_ref08_Same.c0)))))) (blockW 0 (thenW P 0 (Code.r (Code.r (Code.r f_ref08_Same.c0))) (f_ref08_Same.Q r))) m1 (f_ref08_Same.s1 p1 p2 p3)
  | 0, _, _, _, H => by cases H
  | m1 + 1, p1, p2, p3, H => WL_succ (f_ref08_Same.b1_ok hV (f_ref08_Same.l1 k m1) m1 (fun p1 p2 p3 H => f_ref08_Same.l1_ok hV k m1 p1 p2 p3 H) k p1 p2 p3 H)
noncomputable def f_ref08_Same.f (k : Nat) (a1 : List T1383.T) (a2 : List T1383.T) : Option f_ref08_Same.R :=
  if ((a1.length : Int) != (a2.length : Int)) = true then
    some (false, ())
  else
    f_ref08_Same.l1 k k a1 a2 0
noncomputable def f_ref08_Same.S : Spec := ⟨f_ref08_Same.ps, f_ref08_Same.rs, .any, none, fun x r => ∃ k, f_ref08_Same.f k x.1 x.2.1 = some r⟩
theorem f_ref08_Same.f_ok (hV : EnvOk P f_ref08_Same.V) {r : f_ref08_Same.R} (k : Nat) (a1 : List T1383.T) (a2 : List T1383.T) (H : f_ref08_Same.f k a1 a2 = some r) : W P 0 f_ref08_Same.c0 (⟨26, [(0, .cv (.one (.sl T1383 a1 .any))), (1, .cv (.one (.sl T1383 a2 .any)))], []⟩) (f_ref08_Same.Q r) := by
  unfold f_ref08_Same.f at H
  refine D_seq (by kernel_rfl) ?_
  refine D_reg (cs := []) (τ := ⟨26, [(0, .cv (.one (.sl T1383 a1 .any))), (1, .cv (.one (.sl T1383 a2 .any)))], []⟩) hV 0 [] {live := [0, 1], src := []} (by kernel_rfl) (by kernel_rfl) trivial ?_
  refine th_n ?_
  refine D_seq (by kernel_rfl) ?_
  refine D_seq (by kernel_rfl) ?_
  refine D_reg (cs := []) (τ := ⟨26, [(0, .cv (.one (.sl T1383 a1 .any))), (1, .cv (.one (.sl T1383 a2 .any))), (10, .cv (.one (.bool ((a1.length : Int) != (a2.length : Int)))))], []⟩) hV 0 [] {live := [0, 1, 10], src := []} (by kernel_rfl) (by kernel_rfl) trivial ?_
  refine th_n ?_
  refine D_condB (t := 10) (b := ((a1.length : Int) != (a2.length : Int))) (by kernel_rfl) (by kernel_rfl) (fun hb1 => ?_) (fun hb1 => ?_)
  · rw [if_pos hb1] at H
    refine D_seq (by kernel_rfl) ?_
    refine D_reg (cs := []) (τ := ⟨26, [(4, .cv (.one (.bool false)))], []⟩) hV 0 [] {live := [4], src := []} (by kernel_rfl) (by kernel_rfl) trivial ?_
    refine th_n ?_
    refine D_ret (by kernel_rfl) ?_
    refine th_r ?_
    exact lf_r (Eq.trans (by kernel_rfl) H)
  · rw [if_neg (by rw [hb1]; decide)] at H
    refine D_skip (by kernel_rfl) ?_
    refine th_n ?_
    refine D_seq (by kernel_rfl) ?_
    refine D_seq (by kernel_rfl) ?_
    refine D_reg (cs := []) (τ := ⟨26, [(0, .cv (.one (.sl T1383 a1 .any))), (1, .cv (.one (.sl T1383 a2 .any))), (5, .cv (.one (.int .i64 0)))], []⟩) hV 0 [] {live := [0, 1, 5], src := []} (by kernel_rfl) (by kernel_rfl) trivial ?_
    refine th_n ?_
    refine D_block (id := 0) (by kernel_rfl) ?_
    refine W_tell (τ := f_ref08_Same.s1 a1 a2 0) {fz := [], gr := 0, ad := [], live := [0, 1, 5], src := []} (by kernel_rfl) (by kernel_rfl) ?_
    exact D_loop (by kernel_rfl) k (f_ref08_Same.l1_ok hV k k a1 a2 0 H)
theorem f_ref08_Same.V_ok : EnvOk P f_ref08_Same.V := { ck := tt_ck, fits := slk_nil, mixed := mixed }
theorem f_ref08_Same.fits : Fits P 31 f_ref08_Same.S := fits_of f_ref08_Same.V_ok Go.Proofs.Try.func31 (by kernel_rfl) (by decide) (by decide) rfl (fun x r ⟨k, H⟩ => f_ref08_Same.f_ok f_ref08_Same.V_ok k x.1 x.2.1 H)
/-! ### f_ref09_Same: function 26, wayfinder/wayfinderref09.Same -/
abbrev f_ref09_Same.ps : Sg := [(false, (.slice T814c)), (false, (.slice T814c))]
abbrev f_ref09_Same.rs : Sg := [(false, .bool)]
noncomputable def f_ref09_Same.c0 : Code := (Go.Proofs.Try.f26.body).getD .skip
noncomputable def f_ref09_Same.G : List (Nat × Spec) := [(31, f_ref08_Same.S)]
noncomputable def f_ref09_Same.V : Env := { tt := tt, Γ := slk f_ref09_Same.G }
noncomputable abbrev f_ref09_Same.Q (r : Tup f_ref09_Same.rs) : Exit → St → Prop := Qr tt Go.Proofs.Try.f26.results ⟨f_ref09_Same.ps, f_ref09_Same.rs, .any, none, fun _ _ => True⟩ r
abbrev f_ref09_Same.R := Tup f_ref09_Same.rs
noncomputable def f_ref09_Same.s1 (p1 : List T814c.T) (p2 : List T814c.T) (p3 : Int) : St := ⟨44, [(0, .cv (.one (.sl T814c p1 .any))), (1, .cv (.one (.sl T814c p2 .any))), (5, .cv (.one (.int .i64 p3)))], []⟩
noncomputable def f_ref09_Same.s2 (p1 : List T814c.T) (p2 : List T814c.T) (p3 : Int) (p4 : Bool) : St := ⟨44, [(0, .cv (.one (.sl T814c p1 .any))), (1, .cv (.one (.sl T814c p2 .any))), (5, .cv (.one (.int .i64 p3))), (43, .cv (.one (.bool p4)))], []⟩
noncomputable def f_ref09_Same.j2 (L1 : List T814c.T → List T814c.T → Int → Option f_ref09_Same.R) (k : Nat) (p1 : List T814c.T) (p2 : List T814c.T) (p3 : Int) (p4 : Bool) : Option f_ref09_Same.R :=
  if p4 = true then
  some (false, ())
else
  L1 p1 p2 (IntKind.i64.wrap (p3 + 1))
theorem f_ref09_Same.j2_ok (hV : EnvOk P f_ref09_Same.V) {r : f_ref09_Same.R} (L1 : List T814c.T → List T814c.T → Int → Option f_ref09_Same.R) (m1 : Nat) (hL1 : ∀ (p1 : List T814c.T) (p2 : List T814c.T) (p3 : Int), L1 p1 p2 p3 = some r → WL P 0 (Code.l (Code.l (Code.r (Code.l (Code.r (Code.r f_ref09_Same.c0)))))) (blockW 0 (thenW P 0 (Code.r (Code.r (Code.r f_ref09_Same.c0))) (f_ref09_Same.Q r))) m1 (f_ref09_Same.s1 p1 p2 p3)) (k : Nat) (p1 : List T814c.T) (p2 : List T814c.T) (p3 : Int) (p4 : Bool) (H : f_ref09_Same.j2 L1 k p1 p2 p3 p4 = some r) : W P 0 (Code.r (Code.r (Code.l (Code.l (Code.r (Code.l (Code.l (Code.r (Code.l (Code.r (Code.r f_ref09_Same.c0))))))))))) (f_ref09_Same.s2 p1 p2 p3 p4) (blockW 1 (thenW P 0 (Code.r (Code.r (Code.l (Code.l (Code.r (Code.l (Code.r (Code.r f_ref09_Same.c0)))))))) (roundW P 0 (Code.l (Code.l (Code.r (Code.l (Code.r (Code.r f_ref09_Same.c0)))))) (blockW 0 (thenW P 0 (Code.r (Code.r (Code.r f_ref09_Same.c0))) (f_ref09_Same.Q r))) m1))) := by
  unfold f_ref09_Same.j2 at H
  refine D_condB (t := 43) (b := p4) (by kernel_rfl) (by kernel_rfl) (fun hb9 => ?_) (fun hb9 => ?_)
  · rw [if_pos hb9] at H
    refine D_seq (by kernel_rfl) ?_
    refine D_reg (cs := []) (τ := ⟨44, [(4, .cv (.one (.bool false)))], []⟩) hV 0 [] {live := [4], src := []} (by kernel_rfl) (by kernel_rfl) trivial ?_
    refine th_n ?_
    refine D_ret (by kernel_rfl) ?_
    refine bl_r ?_
    refine th_r ?_
    refine ro_r ?_
    refine bl_r ?_
    refine th_r ?_
    exact lf_r (Eq.trans (by kernel_rfl) H)
  · rw [if_neg (by rw [hb9]; decide)] at H
    refine D_skip (by kernel_rfl) ?_
    refine bl_n ?_
    refine th_n ?_
    refine D_reg (cs := []) (τ := ⟨44, [(0, .cv (.one (.sl T814c p1 .any))), (1, .cv (.one (.sl T814c p2 .any))), (5, .cv (.one (.int .i64 (IntKind.i64.wrap (p3 + 1)))))], []⟩) hV 0 [] {live := [0, 1, 5], src := []} (by kernel_rfl) (by kernel_rfl) trivial ?_
    refine ro_n (WL_tell (τ := f_ref09_Same.s1 p1 p2 (IntKind.i64.wrap (p3 + 1))) {fz := [], gr := 0, ad := [], live := [0, 1, 5], src := []} (by kernel_rfl) (by kernel_rfl) ?_)
    exact hL1 p1 p2 (IntKind.i64.wrap (p3 + 1)) H
noncomputable def f_ref09_Same.b1 (L1 : List T814c.T → List T814c.T → Int → Option f_ref09_Same.R) (k : Nat) (p1 : List T814c.T) (p2 : List T814c.T) (p3 : Int) : Option f_ref09_Same.R :=
  if (decide (p3 < (p1.length : Int))) = true then
  if 0 ≤ p3 then
    if p3 < (p1.length : Int) then
      if p3 < (p2.length : Int) then
        (f_ref08_Same.f k ((att T814c p1 p3).2) ((att T814c p2 p3).2)).bind fun y3 =>
          if (!y3.1) = true then
            f_ref09_Same.j2 L1 k p1 p2 p3 true
          else
            f_ref09_Same.j2 L1 k p1 p2 p3 (((att T814c p1 p3).1) != ((att T814c p2 p3).1))
      else none
    else none
  else none
else
  some (true, ())
theorem f_ref09_Same.b1_ok (hV : EnvOk P f_ref09_Same.V) {r : f_ref09_Same.R} (L1 : List T814c.T → List T814c.T → Int → Option f_ref09_Same.R) (m1 : Nat) (hL1 : ∀ (p1 : List T814c.T) (p2 : List T814c.T) (p3 : Int), L1 p1 p2 p3 = some r → WL P 0 (Code.l (Code.l (Code.r (Code.l (Code.r (Code.r f_ref09_Same.c0)))))) (blockW 0 (thenW P 0 (Code.r (Code.r (Code.r f_ref09_Same.c0))) (f_ref09_Same.Q r))) m1 (f_ref09_Same.s1 p1 p2 p3)) (k : Nat) (p1 : List T814c.T) (p2 : List T814c.T) (p3 : Int) (H : f_ref09_Same.b1 L1 k p1 p2 p3 = some r) : W P 0 (Code.l (Code.l (Code.r (Code.l (Code.r (Code.r f_ref09_Same.c0)))))) (f_ref09_Same.s1 p1 p2 p3) (roundW P 0 (Code.l (Code.l (Code.r (Code.l (Code.r (Code.r f_ref09_Same.c0)))))) (blockW 0 (thenW P 0 (Code.r (Code.r (Code.r f_ref09_Same.c0))) (f_ref09_Same.Q r))) m1) := by
  unfold f_ref09_Same.b1 at H
  refine D_seq (by kernel_rfl) ?_
  refine D_seq (by kernel_rfl) ?_
  refine D_reg (cs := []) (τ := ⟨44, [(0, .cv (.one (.sl T814c p1 .any))), (1, .cv (.one (.sl T814c p2 .any))), (5, .cv (.one (.int .i64 p3))), (15, .cv (.one (.bool (decide (p3 < (p1.length : Int))))))], []⟩) hV 0 [] {live := [0, 1, 5, 15], src := []} (by kernel_rfl) (by kernel_rfl) trivial ?_
  refine th_n ?_
  refine D_condB (t := 15) (b := (decide (p3 < (p1.length : Int)))) (by kernel_rfl) (by kernel_rfl) (fun hb2 => ?_) (fun hb2 => ?_)
  · rw [if_pos hb2] at H
    refine D_skip (by kernel_rfl) ?_
    refine th_n ?_
    refine D_seq (by kernel_rfl) ?_
    refine D_block (id := 1) (by kernel_rfl) ?_
    refine D_seq (by kernel_rfl) ?_
    obtain ⟨n4, H⟩ := of_if H
    obtain ⟨n5, H⟩ := of_if H
    obtain ⟨n6, H⟩ := of_if H
    obtain ⟨y3, e7, H⟩ := of_bind H
    refine D_reg (cs := [0 ≤ p3, p3 < (p1.length : Int), 0 ≤ p3, p3 < (p2.length : Int), f_ref08_Same.S.rel ((att T814c p1 p3).2, (att T814c p2 p3).2, ()) y3]) (τ := ⟨44, [(0, .cv (.one (.sl T814c p1 .any))), (1, .cv (.one (.sl T814c p2 .any))), (5, .cv (.one (.int .i64 p3))), (6, .cv (.one (.bool y3.1)))], []⟩) hV 0 [(10, {res := some ⟨f_ref08_Same.S.rs, y3⟩})] {live := [0, 1, 5, 6], src := []} (by kernel_rfl) (by kernel_rfl) ⟨n4, n5, n4, n6, ⟨k, e7⟩, trivial⟩ ?_
    refine th_n ?_
    refine D_seq (by kernel_rfl) ?_
    rcases of_ite H with ⟨hb8, H⟩ | ⟨hb8, H⟩
    · refine D_reg (cs := [((!y3.1)) = true]) (τ := ⟨44, [(0, .cv (.one (.sl T814c p1 .any))), (1, .cv (.one (.sl T814c p2 .any))), (5, .cv (.one (.int .i64 p3))), (43, .cv (.one (.bool true)))], []⟩) hV 0 [(1, {bv := some true})] {live := [0, 1, 5, 43], src := []} (by kernel_rfl) (by kernel_rfl) ⟨hb8, trivial⟩ ?_
      refine th_n ?_
      refine W_tell (τ := f_ref09_Same.s2 p1 p2 p3 true) {fz := [], gr := 0, ad := [], live := [0, 1, 5, 43], src := []} (by kernel_rfl) (by kernel_rfl) ?_
      exact f_ref09_Same.j2_ok hV L1 m1 hL1 k p1 p2 p3 true H
    · refine D_reg (cs := [((!y3.1)) = false, 0 ≤ p3, p3 < (p1.length : Int), 0 ≤ p3, p3 < (p2.length : Int)]) (τ := ⟨44, [(0, .cv (.one (.sl T814c p1 .any))), (1, .cv (.one (.sl T814c p2 .any))), (5, .cv (.one (.int .i64 p3))), (43, .cv (.one (.bool (((att T814c p1 p3).1) != ((att T814c p2 p3).1)))))], []⟩) hV 0 [(1, {bv := some false})] {live := [0, 1, 5, 43], src := []} (by kernel_rfl) (by kernel_rfl) ⟨hb8, n4, n5, n4, n6, trivial⟩ ?_
      refine th_n ?_
      refine W_tell (τ := f_ref09_Same.s2 p1 p2 p3 (((att T814c p1 p3).1) != ((att T814c p2 p3).1))) {fz := [], gr := 0, ad := [], live := [0, 1, 5, 43], src := []} (by kernel_rfl) (by kernel_rfl) ?_
      exact f_ref09_Same.j2_ok hV L1 m1 hL1 k p1 p2 p3 (((att T814c p1 p3).1) != ((att T814c p2 p3).1)) H
  · rw [if_neg (by rw [hb2]; decide)] at H
    refine D_exit (id := 0) (by kernel_rfl) ?_
    refine th_x ?_
    refine ro_x ?_
    refine bl_h ?_
    refine th_n ?_
    refine D_seq (by kernel_rfl) ?_
    refine D_reg (cs := []) (τ := ⟨44, [(4, .cv (.one (.bool true)))], []⟩) hV 0 [] {live := [4], src := []} (by kernel_rfl) (by kernel_rfl) trivial ?_
    refine th_n ?_
    refine D_ret (by kernel_rfl) ?_
    exact lf_r (Eq.trans (by kernel_rfl) H)
noncomputable def f_ref09_Same.l1 (k : Nat) : Nat → List T814c.T → List T814c.T → Int → Option f_ref09_Same.R
  | 0, _, _, _ => none
  | m + 1, p1, p2, p3 => f_ref09_Same.b1 (f_ref09_Same.l1 k m) k p1 p2 p3
theorem f_ref09_Same.l1_ok (hV : EnvOk P f_ref09_Same.V) {r : f_ref09_Same.R} (k : Nat) : ∀ (m1 : Nat) (p1 : List T814c.T) (p2 : List T814c.T) (p3 : Int), f_ref09_Same.l1 k m1 p1 p2 p3 = some r → WL P 0 (Code.l (Code.l (Code.r (Code.l (Code.r (Code.r f_ref09_Same.c0)))))) (blockW 0 (thenW P 0 (Code.r (Code.r (Code.r f_ref09_Same.c0))) (f_ref09_Same.Q r))) m1 (f_ref09_Same.s1 p1 p2 p3)
  | 0, _, _, _, H => by cases H
  | m1 + 1, p1, p2, p3, H => WL_succ (f_ref09_Same.b1_ok hV (f_ref09_Same.l1 k m1) m1 (fun p1 p2 p3 H => f_ref09_Same.l1_ok hV k m1 p1 p2 p3 H) k p1 p2 p3 H)
noncomputable def f_ref09_Same.f (k : Nat) (a1 : List T814c.T) (a2 : List T814c.T) : Option f_ref09_Same.R :=
  if ((a1.length : Int) != (a2.length : Int)) = true then
    some (false, ())
  else
    f_ref09_Same.l1 k k a1 a2 0
noncomputable def f_ref09_Same.S : Spec := ⟨f_ref09_Same.ps, f_ref09_Same.rs, .any, none, fun x r => ∃ k, f_ref09_Same.f k x.1 x.2.1 = some r⟩
theorem f_ref09_Same.f_ok (hV : EnvOk P f_ref09_Same.V) {r : f_ref09_Same.R} (k : Nat) (a1 : List T814c.T) (a2 : List T814c.T) (H : f_ref09_Same.f k a1 a2 = some r) : W P 0 f_ref09_Same.c0 (⟨44, [(0, .cv (.one (.sl T814c a1 .any))), (1, .cv (.one (.sl T814c a2 .any)))], []⟩) (f_ref09_Same.Q r) := by
  unfold f_ref09_Same.f at H
  refine D_seq (by kernel_rfl) ?_
  refine D_reg (cs := []) (τ := ⟨44, [(0, .cv (.one (.sl T814c a1 .any))), (1, .cv (.one (.sl T814c a2 .any)))], []⟩) hV 0 [] {live := [0, 1], src := []} (by kernel_rfl) (by kernel_rfl) trivial ?_
  refine th_n ?_
  refine D_seq (by kernel_rfl) ?_
  refine D_seq (by kernel_rfl) ?_
  refine D_reg (cs := []) (τ := ⟨44, [(0, .cv (.one (.sl T814c a1 .any))), (1, .cv (.one (.sl T814c a2 .any))), (11, .cv (.one (.bool ((a1.length : Int) != (a2.length : Int)))))], []⟩) hV 0 [] {live := [0, 1, 11], src := []} (by kernel_rfl) (by kernel_rfl) trivial ?_
  refine th_n ?_
  refine D_condB (t := 11) (b := ((a1.length : Int) != (a2.length : Int))) (by kernel_rfl) (by kernel_rfl) (fun hb1 => ?_) (fun hb1 => ?_)
  · rw [if_pos hb1] at H
    refine D_seq (by kernel_rfl) ?_
    refine D_reg (cs := []) (τ := ⟨44, [(4, .cv (.one (.bool false)))], []⟩) hV 0 [] {live := [4], src := []} (by kernel_rfl) (by kernel_rfl) trivial ?_
    refine th_n ?_
    refine D_ret (by kernel_rfl) ?_
    refine th_r ?_
    exact lf_r (Eq.trans (by kernel_rfl) H)
  · rw [if_neg (by rw [hb1]; decide)] at H
    refine D_skip (by kernel_rfl) ?_
    refine th_n ?_
    refine D_seq (by kernel_rfl) ?_
    refine D_seq (by kernel_rfl) ?_
    refine D_reg (cs := []) (τ := ⟨44, [(0, .cv (.one (.sl T814c a1 .any))), (1, .cv (.one (.sl T814c a2 .any))), (5, .cv (.one (.int .i64 0)))], []⟩) hV 0 [] {live := [0, 1, 5], src := []} (by kernel_rfl) (by kernel_rfl) trivial ?_
    refine th_n ?_
    refine D_block (id := 0) (by kernel_rfl) ?_
    refine W_tell (τ := f_ref09_Same.s1 a1 a2 0) {fz := [], gr := 0, ad := [], live := [0, 1, 5], src := []} (by kernel_rfl) (by kernel_rfl) ?_
    exact D_loop (by kernel_rfl) k (f_ref09_Same.l1_ok hV k k a1 a2 0 H)
theorem f_ref09_Same.V_ok : EnvOk P f_ref09_Same.V := { ck := tt_ck, fits := slk_cons f_ref08_Same.fits (slk_nil), mixed := mixed }
theorem f_ref09_Same.fits : Fits P 26 f_ref09_Same.S := fits_of f_ref09_Same.V_ok Go.Proofs.Try.func26 (by kernel_rfl) (by decide) (by decide) rfl (fun x r ⟨k, H⟩ => f_ref09_Same.f_ok f_ref09_Same.V_ok k x.1 x.2.1 H)
/-! ### slices.Delete of one thing: function 51 -/
theorem D51.zero : ∀ w, (zeroValue 49).run Go.Proofs.Try.prog w = .ok (.agg #[.int .i64 0, .slice none 0 0]) w :=
  (zero_of_info (n := 2) (by kernel_rfl : (Go.Proofs.Try.prog.info? 49).map (fun i => (i.zero, i.size)) = some (some (.agg #[.int .i64 0, .slice none 0 0]), 2))).1
theorem D51.info : (Go.Proofs.Try.prog.info? 49).map (fun i => (i.zero, i.size, i.bytes)) = some (some (.agg #[.int .i64 0, .slice none 0 0]), 2, 32) := by kernel_rfl
set_option maxHeartbeats 1600000 in
set_option maxRecDepth 1000000 in
theorem D51.walk (g n c i : Nat) (cur : Array Value) (w : World) (hi : i < n) (hl : n ≤ c) (hm : c ≤ 9223372036854775807) (hg : w.heap[g]? = some (.cells cur 49 (0, 0))) (hcs : n * 2 ≤ cur.size) (h1 : ∀ u ∈ cur.toList.take (n * 2), u.oneCell' = true) :
    Calls Go.Proofs.Try.prog 51 #[.slice (some ⟨g, 0, none⟩) n c, .int .i64 i, .int .i64 ((i : Int) + 1)] w fun e w' => e = .returned (.slice (some ⟨g, 0, none⟩) (n - 1) c) ∧ w' = (w.drew.setCells g (i * 2) ((cur.toList.drop ((i + 1) * 2)).take ((n - (i + 1)) * 2))).setCells g ((n - 1) * 2) (Value.cells (.agg #[.int .i64 0, .slice none 0 0])).toList := by
  obtain ⟨i0, hi0, hz0, hz1, hz2⟩ := info_parts D51.info
  have hcell : ∀ j u, cur[j]? = some u → w.drew.cell? ⟨g, j, none⟩ = some u := fun j u hu => by
    show w.cell? _ = _
    rw [cell_of_row _ _ _ _ _ _ hg, hu]
  obtain ⟨mv, hmv⟩ : ∃ mv, mv = (cur.toList.drop ((i + 1) * 2)).take ((n - (i + 1)) * 2) := ⟨_, rfl⟩
  have hml : mv.length = (n - (i + 1)) * 2 := by rw [hmv, List.length_take, List.length_drop, Array.length_toList]; omega
  obtain ⟨A, hA, hnews⟩ : ∃ A : Addr, (if c = i + 1 then some (⟨g, 0, none⟩ : Addr) else some ⟨g, (i + 1) * 2, none⟩) = some A ∧ Hid (∀ j u, mv[j]? = some u → w.drew.cell? (A.add j) = some u) := by
    by_cases h : c = i + 1
    · refine ⟨⟨g, 0, none⟩, by simp [h], fun j u hu => ?_⟩
      have h0 : mv.length = 0 := by rw [hml]; omega
      rw [List.length_eq_zero_iff.1 h0] at hu
      simp at hu
    · refine ⟨⟨g, (i + 1) * 2, none⟩, by simp [h], fun j u hu => ?_⟩
      have hj := (List.getElem?_eq_some_iff.1 hu).1
      rw [hmv, List.getElem?_take, if_pos (by omega), List.getElem?_drop, Array.getElem?_toList] at hu
      rw [Addr.add_lit]
      exact hcell _ _ hu
  have s1 : Hid (mv.length = (n - (i + 1)) * 2) := hml
  have s2 : Hid (∀ u ∈ mv, u.oneCell' = true) := by
    intro u hu
    rw [hmv] at hu
    refine h1 u ?_
    rw [show n * 2 = (i + 1) * 2 + (n - (i + 1)) * 2 by omega, List.take_add]
    exact List.mem_append_right _ hu
  have s3 : Hid (∀ j, j < mv.length → (w.drew.cell? ⟨g, 0 + i * 2 + j, none⟩).isSome = true ∧ w.drew.frozen? ⟨g, 0 + i * 2 + j, none⟩ = false) := by
    intro j hj
    rw [hml] at hj
    refine ⟨?_, frozen_of_row _ _ _ _ _ hg⟩
    rw [hcell (0 + i * 2 + j) cur[0 + i * 2 + j] (Array.getElem?_eq_getElem (by omega))]
    rfl
  have hic : i ≤ c := by omega
  have hwr : IntKind.i64.wrap ((i : Int) + 1) = (i : Int) + 1 := by rw [IntKind.wrap_i64]; omega
  have hp0 : (0 : Int) ≤ (i : Int) + 1 := by omega
  have hp1 : (i : Int) + 1 ≤ (n : Int) := by omega
  have hp2 : ((i : Int) + 1).toNat = i + 1 := by omega
  have hne : ((i : Int) == (i : Int) + 1) = false := beq_eq_false_iff_ne.mpr (by omega)
  have HG := Aside0.mk hg
  have HML := Aside0.mk hml
  have HMV := Aside0.mk hmv
  clear hcell hg hml hmv hp2
  go_enter Go.Proofs.Try.func51, Go.Proofs.Try.ntmps51
  go_wp2_with fail
  go_region_law (refine step_append_room rfl (.tmp 22) (.tmp 25) 45 rfl 49 i0 2 Go.Proofs.Try.underlying45 hi0 hz1 g 0 i c (by simp [Act.eval, Act.put]) A (n - (i + 1)) (c - (i + 1)) mv (by simp [Act.eval, Act.put]) s1.out hnews.out s2.out (by omega) s3.out ?_)
  obtain ⟨W2, HW2⟩ : ∃ W2, w.drew.setCells g (i * 2) mv = W2 := ⟨_, rfl⟩
  rw [HW2, show i + (n - (i + 1)) = n - 1 by omega]
  obtain ⟨cur2, hg2, hs2, hl2⟩ := sc_row mv (i * 2) w.drew cur HG.out (by rw [HML.out]; omega)
  rw [HW2] at hg2
  have HX := Aside0.mk HW2
  have HG2 := Aside0.mk hg2
  have hc2 : ∀ j, j < 2 → (W2.cell? ⟨g, (n - 1) * 2 + j, none⟩).isSome = true := fun j hj => by
    rw [cell_of_row _ _ _ _ _ _ hg2, Array.getElem?_eq_getElem (by omega)]
    rfl
  have hf2 : ∀ j, j < 2 → W2.frozen? ⟨g, (n - 1) * 2 + j, none⟩ = false := fun j hj => frozen_of_row _ _ _ _ _ hg2
  have HC2 := Aside0.mk hc2
  have HF2 := Aside0.mk hf2
  have hn1 : c - (n - 1) ≠ 0 := by omega
  have hn2 : ¬ c = n - 1 := by omega
  have hn3 : n - (n - 1) = 1 := by omega
  have hn4 : ((n - 1 : Nat) : Int) = (n : Int) - 1 := by omega
  clear HW2 hg2 hc2 hf2 hs2 hl2 hA
  go_wp2_with ((with_reducible refine gate_clear (t := 45) (x := .tmp 31) rfl ?_); refine wpList_clear_one rfl 45 49 (.tmp 31) rfl Go.Proofs.Try.underlying45 _ D51.zero (by decide) g ((n - 1) * 2) (c - (n - 1)) ?hx HC2.out HF2.out ?_; (case hx => simp [Act.eval, Act.put]))
  go_ret
  exact ⟨rfl, by rw [← HX.out, ← HMV.out]; rfl⟩
theorem D51.ok : DelOk Go.Proofs.Try.prog 51 49 2 where
  enter := enters_of Go.Proofs.Try.func51 (by kernel_rfl : Go.Proofs.Try.f51.body = some ((Go.Proofs.Try.f51.body).getD .skip)) (by decide)
  calls := fun g n cap i cur w hi hl hm hg hcs h1 => by
    have hnc : n * 2 ≤ cur.size := by rw [hcs]; exact Nat.mul_le_mul_right _ hl
    refine (D51.walk g n cap i cur w hi hl (by unfold maxLen at hm; exact hm) hg hnc h1).mono ?_
    rintro e w' ⟨rfl, hw'⟩
    obtain ⟨mv, hmv⟩ : ∃ mv, mv = (cur.toList.drop ((i + 1) * 2)).take ((n - (i + 1)) * 2) := ⟨_, rfl⟩
    have hc : cur.toList.length = cur.size := Array.length_toList
    have hml : mv.length = (n - (i + 1)) * 2 := by
      rw [hmv, List.length_take, List.length_drop]; omega
    rw [← hmv] at hw'
    have hzl : (Value.cells (.agg #[.int .i64 0, .slice none 0 0])).toList.length = 2 := rfl
    generalize (Value.cells (.agg #[.int .i64 0, .slice none 0 0])).toList = zs at hw' hzl
    obtain ⟨c2, hg2, hs2, hl2⟩ := sc_row mv (i * 2) w.drew cur hg (by rw [hml]; omega)
    obtain ⟨c3, hg3, hs3, hl3⟩ := sc_row zs ((n - 1) * 2) _ c2 hg2 (by omega)
    rw [← hw'] at hg3
    obtain ⟨a1, a2, a3, a4⟩ := sc_same g mv (i * 2) w.drew
    obtain ⟨b1, b2, b3, b4⟩ := sc_same g zs ((n - 1) * 2) (w.drew.setCells g (i * 2) mv)
    refine ⟨rfl, ⟨c3, hg3, by rw [hs3, hs2], ?_⟩, fun b hb => by rw [hw', sc_far _ _ _ hb, sc_far _ _ _ hb]; rfl, by rw [hw', b4, a4]; rfl, by rw [hw', b1, a1]; rfl, by rw [hw', b2, a2]; rfl, by rw [hw', b3, a3]; rfl⟩
    have e1 : (cur.toList.take (i * 2)).length = i * 2 := by rw [List.length_take]; omega
    have e2 : (cur.toList.take (i * 2) ++ mv).length = (n - 1) * 2 := by rw [List.length_append, e1, hml]; omega
    have e3 : (c2.toList.take ((n - 1) * 2)) = cur.toList.take (i * 2) ++ mv := by rw [hl2, List.take_append_of_le_length (Nat.le_of_eq e2.symm), List.take_of_length_le (Nat.le_of_eq e2)]
    rw [hl3, e3, List.append_assoc, List.take_append_of_le_length (Nat.le_of_eq e2.symm), List.take_of_length_le (Nat.le_of_eq e2), List.drop_take, hmv, show n * 2 - (i + 1) * 2 = (n - (i + 1)) * 2 by omega]

/-! ### i_table_own_301: function 44, wayfinder/table.own, where it is called -/
noncomputable def i_table_own_301.c0 : Code := (Go.Proofs.Try.f44.body).getD .skip
noncomputable def i_table_own_301.G : List (Nat × Spec) := [(56, f_slices_Clone_Rule.S)]
noncomputable def i_table_own_301.V : Env := { tt := tt, Γ := slk i_table_own_301.G }
theorem i_table_own_301.V_ok : EnvOk P i_table_own_301.V := { ck := tt_ck, fits := slk_cons f_slices_Clone_Rule.fits (slk_nil), mixed := mixed }
abbrev i_table_own_301.R := (List T814c.T) × Unit
noncomputable def i_table_own_301.s0 (p1 : List T814c.T) : St := ⟨23, [(0, .cv (.one (.sl T814c p1 .any)))], []⟩
noncomputable def i_table_own_301.out (r : i_table_own_301.R) : St := ⟨23, [(2, .cv (.one (.own 0)))], [(.buf 49 T814c r.1, [])]⟩
abbrev i_table_own_301.Q (r : i_table_own_301.R) := CallQ 0 (i_table_own_301.out r)
noncomputable def i_table_own_301.s1 (p1 : List T814c.T) (p2 : Int) (p3 : Int) (p4 : List T814c.T) : St := ⟨23, [(3, .cv (.one (.own 0))), (6, .cv (.one (.sl T814c p1 .any))), (7, .cv (.one (.int .i64 p2))), (8, .cv (.one (.int .i64 p3)))], [(.buf 49 T814c p4, [])]⟩
noncomputable def i_table_own_301.b1 (L1 : List T814c.T → Int → Int → List T814c.T → Option i_table_own_301.R) (k : Nat) (p1 : List T814c.T) (p2 : Int) (p3 : Int) (p4 : List T814c.T) : Option i_table_own_301.R :=
  if (decide (p3 < p2)) = true then
  if 0 ≤ p3 then
    if p3 < (p1.length : Int) then
      (f_slices_Clone_Rule.f k ((att T814c p1 p3).2)).bind fun y4 =>
        if (p4.length + 1) * 32 ≤ 140737488355328 then
          L1 p1 p2 (IntKind.i64.wrap (p3 + 1)) (p4 ++ [((att T814c p1 p3).1, y4.1)])
        else none
    else none
  else none
else
  some (p4, ())
theorem i_table_own_301.b1_ok (hV : EnvOk P i_table_own_301.V) {r : i_table_own_301.R} (L1 : List T814c.T → Int → Int → List T814c.T → Option i_table_own_301.R) (m1 : Nat) (hL1 : ∀ (p1 : List T814c.T) (p2 : Int) (p3 : Int) (p4 : List T814c.T), L1 p1 p2 p3 p4 = some r → WL P 0 (Code.l (Code.l (Code.r (Code.l (Code.r (Code.r i_table_own_301.c0)))))) (blockW 0 (thenW P 0 (Code.r (Code.r (Code.r i_table_own_301.c0))) (i_table_own_301.Q r))) m1 (i_table_own_301.s1 p1 p2 p3 p4)) (k : Nat) (p1 : List T814c.T) (p2 : Int) (p3 : Int) (p4 : List T814c.T) (H : i_table_own_301.b1 L1 k p1 p2 p3 p4 = some r) : W P 0 (Code.l (Code.l (Code.r (Code.l (Code.r (Code.r i_table_own_301.c0)))))) (i_table_own_301.s1 p1 p2 p3 p4) (roundW P 0 (Code.l (Code.l (Code.r (Code.l (Code.r (Code.r i_table_own_301.c0)))))) (blockW 0 (thenW P 0 (Code.r (Code.r (Code.r i_table_own_301.c0))) (i_table_own_301.Q r))) m1) := by
  unfold i_table_own_301.b1 at H
  refine D_seq (by kernel_rfl) ?_
  refine D_reg (cs := []) (τ := ⟨23, [(3, .cv (.one (.own 0))), (6, .cv (.one (.sl T814c p1 .any))), (7, .cv (.one (.int .i64 p2))), (8, .cv (.one (.int .i64 p3))), (9, .cv (.one (.bool (decide (p3 < p2)))))], [(.buf 49 T814c p4, [])]⟩) hV 0 [] {live := [3, 6, 7, 8, 9], src := [some 0]} (by kernel_rfl) (by kernel_rfl) trivial ?_
  refine th_n ?_
  refine D_seq (by kernel_rfl) ?_
  refine D_condB (t := 9) (b := (decide (p3 < p2))) (by kernel_rfl) (by kernel_rfl) (fun hb1 => ?_) (fun hb1 => ?_)
  · rw [if_pos hb1] at H
    refine D_skip (by kernel_rfl) ?_
    refine th_n ?_
    refine D_seq (by kernel_rfl) ?_
    refine D_block (id := 1) (by kernel_rfl) ?_
    refine D_seq (by kernel_rfl) ?_
    obtain ⟨n2, H⟩ := of_if H
    obtain ⟨n3, H⟩ := of_if H
    refine D_reg (cs := [0 ≤ p3, p3 < (p1.length : Int)]) (τ := ⟨23, [(3, .cv (.one (.own 0))), (5, .cv (.one (.ptr 1 0))), (6, .cv (.one (.sl T814c p1 .any))), (7, .cv (.one (.int .i64 p2))), (8, .cv (.one (.int .i64 p3)))], [(.buf 49 T814c p4, []), (.box 2, [.int .i64 ((att T814c p1 p3).1), .sl T1383 ((att T814c p1 p3).2) .any])]⟩) hV 1 [(2, {sb := 1})] {live := [3, 5, 6, 7, 8], src := [some 0, some 1]} (by kernel_rfl) (by kernel_rfl) ⟨n2, n3, trivial⟩ ?_
    refine th_n ?_
    obtain ⟨y4, e5, H⟩ := of_bind H
    obtain ⟨n6, H⟩ := of_if H
    refine D_reg (cs := [f_slices_Clone_Rule.S.rel ((att T814c p1 p3).2, ()) y4, (p4.length + 1) * 32 ≤ 140737488355328]) (τ := ⟨23, [(3, .cv (.one (.own 0))), (6, .cv (.one (.sl T814c p1 .any))), (7, .cv (.one (.int .i64 p2))), (8, .cv (.one (.int .i64 p3)))], [(.buf 49 T814c (p4 ++ [((att T814c p1 p3).1, y4.1)]), [])]⟩) hV 1 [(5, {res := some ⟨f_slices_Clone_Rule.S.rs, y4⟩}), (8, {sb := 2})] {live := [3, 6, 7, 8], src := [some 2]} (by kernel_rfl) (by kernel_rfl) ⟨⟨k, e5⟩, n6, trivial⟩ ?_
    refine bl_n ?_
    refine th_n ?_
    refine D_reg (cs := []) (τ := ⟨23, [(3, .cv (.one (.own 0))), (6, .cv (.one (.sl T814c p1 .any))), (7, .cv (.one (.int .i64 p2))), (8, .cv (.one (.int .i64 (IntKind.i64.wrap (p3 + 1)))))], [(.buf 49 T814c (p4 ++ [((att T814c p1 p3).1, y4.1)]), [])]⟩) hV 0 [] {live := [3, 6, 7, 8], src := [some 0]} (by kernel_rfl) (by kernel_rfl) trivial ?_
    refine ro_n (WL_tell (τ := i_table_own_301.s1 p1 p2 (IntKind.i64.wrap (p3 + 1)) (p4 ++ [((att T814c p1 p3).1, y4.1)])) {fz := [], gr := 0, ad := [], live := [3, 6, 7, 8], src := [some 0]} (by kernel_rfl) (by kernel_rfl) ?_)
    exact hL1 p1 p2 (IntKind.i64.wrap (p3 + 1)) (p4 ++ [((att T814c p1 p3).1, y4.1)]) H
  · rw [if_neg (by rw [hb1]; decide)] at H
    refine D_exit (id := 0) (by kernel_rfl) ?_
    refine th_x ?_
    refine ro_x ?_
    refine bl_h ?_
    refine th_n ?_
    refine D_seq (by kernel_rfl) ?_
    refine D_reg (cs := []) (τ := ⟨23, [(2, .cv (.one (.own 0)))], [(.buf 49 T814c p4, [])]⟩) hV 0 [] {live := [2], src := [some 0]} (by kernel_rfl) (by kernel_rfl) trivial ?_
    refine th_n ?_
    refine D_ret (by kernel_rfl) ?_
    obtain rfl := Option.some.inj H
    exact cq_r {fz := [], gr := 0, ad := [], live := [2], src := [some 0]} (by kernel_rfl) (by kernel_rfl)
noncomputable def i_table_own_301.l1 (k : Nat) : Nat → List T814c.T → Int → Int → List T814c.T → Option i_table_own_301.R
  | 0, _, _, _, _ => none
  | m + 1, p1, p2, p3, p4 => i_table_own_301.b1 (i_table_own_301.l1 k m) k p1 p2 p3 p4
theorem i_table_own_301.l1_ok (hV : EnvOk P i_table_own_301.V) {r : i_table_own_301.R} (k : Nat) : ∀ (m1 : Nat) (p1 : List T814c.T) (p2 : Int) (p3 : Int) (p4 : List T814c.T), i_table_own_301.l1 k m1 p1 p2 p3 p4 = some r → WL P 0 (Code.l (Code.l (Code.r (Code.l (Code.r (Code.r i_table_own_301.c0)))))) (blockW 0 (thenW P 0 (Code.r (Code.r (Code.r i_table_own_301.c0))) (i_table_own_301.Q r))) m1 (i_table_own_301.s1 p1 p2 p3 p4)
  | 0, _, _, _, _, H => by cases H
  | m1 + 1, p1, p2, p3, p4, H => WL_succ (i_table_own_301.b1_ok hV (i_table_own_301.l1 k m1) m1 (fun p1 p2 p3 p4 H => i_table_own_301.l1_ok hV k m1 p1 p2 p3 p4 H) k p1 p2 p3 p4 H)
noncomputable def i_table_own_301.f (k : Nat) (p1 : List T814c.T) : Option i_table_own_301.R :=
  i_table_own_301.l1 k k p1 (p1.length : Int) 0 []
theorem i_table_own_301.f_ok (hV : EnvOk P i_table_own_301.V) {r : i_table_own_301.R} (k : Nat) (p1 : List T814c.T) (H : i_table_own_301.f k p1 = some r) : W P 0 i_table_own_301.c0 (⟨23, [(0, .cv (.one (.sl T814c p1 .any)))], []⟩) (i_table_own_301.Q r) := by
  unfold i_table_own_301.f at H
  refine D_seq (by kernel_rfl) ?_
  refine D_reg (cs := []) (τ := ⟨23, [(0, .cv (.one (.sl T814c p1 .any)))], []⟩) hV 0 [] {live := [0], src := []} (by kernel_rfl) (by kernel_rfl) trivial ?_
  refine th_n ?_
  refine D_seq (by kernel_rfl) ?_
  refine D_reg (cs := []) (τ := ⟨23, [(0, .cv (.one (.sl T814c p1 .any))), (3, .cv (.one (.nils)))], []⟩) hV 0 [] {live := [0, 3], src := []} (by kernel_rfl) (by kernel_rfl) trivial ?_
  refine th_n ?_
  refine D_seq (by kernel_rfl) ?_
  refine D_seq (by kernel_rfl) ?_
  refine D_reg (cs := []) (τ := ⟨23, [(3, .cv (.one (.nils))), (6, .cv (.one (.sl T814c p1 .any))), (7, .cv (.one (.int .i64 (p1.length : Int)))), (8, .cv (.one (.int .i64 0)))], []⟩) hV 0 [] {live := [3, 6, 7, 8], src := []} (by kernel_rfl) (by kernel_rfl) trivial ?_
  refine th_n ?_
  refine D_block (id := 0) (by kernel_rfl) ?_
  refine W_tell (τ := i_table_own_301.s1 p1 (p1.length : Int) 0 []) {fz := [], gr := 1, ad := [.ownT 3 0 49 T814c], live := [3, 6, 7, 8], src := [some 0]} (by kernel_rfl) (by kernel_rfl) ?_
  exact D_loop (by kernel_rfl) k (i_table_own_301.l1_ok hV k k p1 (p1.length : Int) 0 [] H)
theorem i_table_own_301.ok {r : i_table_own_301.R} (k : Nat) (p1 : List T814c.T) (H : i_table_own_301.f k p1 = some r) : W P 0 i_table_own_301.c0 (i_table_own_301.s0 p1) (CallQ 0 (i_table_own_301.out r)) := i_table_own_301.f_ok i_table_own_301.V_ok k p1 H
/-! ### f_table_Drop: function 25, wayfinder/table.Drop -/
abbrev f_table_Drop.ps : Sg := [(false, (.slice T814c)), (false, (.int .i64))]
abbrev f_table_Drop.rs : Sg := [(false, (.slice T814c))]
noncomputable def f_table_Drop.c0 : Code := (Go.Proofs.Try.f25.body).getD .skip
noncomputable def f_table_Drop.G : List (Nat × Spec) := [(41, f_table_at.S)]
noncomputable def f_table_Drop.V : Env := { tt := tt, Γ := slk f_table_Drop.G, pr := plk [(51, .del 49 T814c)] }
noncomputable abbrev f_table_Drop.Q (r : Tup f_table_Drop.rs) : Exit → St → Prop := Qr tt Go.Proofs.Try.f25.results ⟨f_table_Drop.ps, f_table_Drop.rs, .any, none, fun _ _ => True⟩ r
abbrev f_table_Drop.R := Tup f_table_Drop.rs
noncomputable def f_table_Drop.s1 (p1 : List T814c.T) : St := ⟨21, [(0, .cv (.one (.own 0)))], [(.buf 49 T814c p1, [])]⟩
noncomputable def f_table_Drop.j1 (k : Nat) (p1 : List T814c.T) : Option f_table_Drop.R :=
  some (p1, ())
theorem f_table_Drop.j1_ok (hV : EnvOk P f_table_Drop.V) {r : f_table_Drop.R} (k : Nat) (p1 : List T814c.T) (H : f_table_Drop.j1 k p1 = some r) : W P 0 (Code.r (Code.r (Code.r f_table_Drop.c0))) (f_table_Drop.s1 p1) (f_table_Drop.Q r) := by
  unfold f_table_Drop.j1 at H
  refine D_seq (by kernel_rfl) ?_
  refine D_reg (cs := []) (τ := ⟨21, [(4, .cv (.one (.own 0)))], [(.buf 49 T814c p1, [])]⟩) hV 0 [] {live := [4], src := [some 0]} (by kernel_rfl) (by kernel_rfl) trivial ?_
  refine th_n ?_
  refine D_ret (by kernel_rfl) ?_
  exact lf_r (Eq.trans (by kernel_rfl) H)
noncomputable def f_table_Drop.f (k : Nat) (a1 : List T814c.T) (a2 : Int) : Option f_table_Drop.R :=
  (i_table_own_301.f k a1).bind fun y1 =>
    (f_table_at.f k y1.1 a2).bind fun y3 =>
      if (decide (y3.1 < (y1.1.length : Int))) = true then
        if 0 ≤ y3.1 ∧ y3.1 < (y1.1.length : Int) ∧ (IntKind.i64.wrap (y3.1 + 1)) = y3.1 + 1 then
          f_table_Drop.j1 k (y1.1.take y3.1.toNat ++ y1.1.drop (y3.1.toNat + 1))
        else none
      else
        f_table_Drop.j1 k y1.1
noncomputable def f_table_Drop.S : Spec := ⟨f_table_Drop.ps, f_table_Drop.rs, .any, none, fun x r => ∃ k, f_table_Drop.f k x.1 x.2.1 = some r⟩
theorem f_table_Drop.f_ok (hV : EnvOk P f_table_Drop.V) {r : f_table_Drop.R} (k : Nat) (a1 : List T814c.T) (a2 : Int) (H : f_table_Drop.f k a1 a2 = some r) : W P 0 f_table_Drop.c0 (⟨21, [(0, .cv (.one (.sl T814c a1 .any))), (1, .cv (.one (.int .i64 a2)))], []⟩) (f_table_Drop.Q r) := by
  unfold f_table_Drop.f at H
  refine D_seq (by kernel_rfl) ?_
  refine D_reg (cs := []) (τ := ⟨21, [(0, .cv (.one (.sl T814c a1 .any))), (1, .cv (.one (.int .i64 a2)))], []⟩) hV 0 [] {live := [0, 1], src := []} (by kernel_rfl) (by kernel_rfl) trivial ?_
  refine th_n ?_
  refine D_seq (by kernel_rfl) ?_
  refine D_regI [0, 1, 2] (by kernel_rfl) (by kernel_rfl) ?_
  refine D_ev (cs := []) (τ := ⟨21, [(0, .cv (.one (.sl T814c a1 .any))), (1, .cv (.one (.int .i64 a2))), (6, .cv (.one (.sl T814c a1 .any)))], []⟩) hV 0 [] [0] [1, 2] rfl (by kernel_rfl) trivial ?_
  obtain ⟨y1, e2, H⟩ := of_bind H
  refine D_call (f := 44) (N := 0) (cvs := [.one (.sl T814c a1 .any)]) (σ0 := i_table_own_301.s0 a1) (τ := i_table_own_301.out y1) (σ2 := ⟨21, [(0, .cv (.one (.sl T814c a1 .any))), (1, .cv (.one (.int .i64 a2))), (6, .cv (.one (.sl T814c a1 .any))), (7, .cv (.one (.own 0)))], [(.buf 49 T814c y1.1, [])]⟩) hV 1 (by kernel_rfl) Go.Proofs.Try.func44 (by kernel_rfl) (by decide) (by kernel_rfl) (by kernel_rfl) (by kernel_rfl) (i_table_own_301.ok k a1 e2) (by kernel_rfl) ?_
  refine D_ev (cs := []) (τ := ⟨21, [(0, .cv (.one (.own 0))), (1, .cv (.one (.int .i64 a2))), (6, .cv (.one (.sl T814c a1 .any))), (7, .cv (.one (.own 0)))], [(.buf 49 T814c y1.1, [])]⟩) hV 0 [] [2] [] rfl (by kernel_rfl) trivial ?_
  refine WO_tell (τ := ⟨21, [(0, .cv (.one (.own 0))), (1, .cv (.one (.int .i64 a2)))], [(.buf 49 T814c y1.1, [])]⟩) {live := [0, 1], src := [some 0]} (by kernel_rfl) (by kernel_rfl) ?_
  refine WO_nil ?_
  refine th_n ?_
  refine D_seq (by kernel_rfl) ?_
  refine D_seq (by kernel_rfl) ?_
  obtain ⟨y3, e4, H⟩ := of_bind H
  refine D_reg (cs := [f_table_at.S.rel (y1.1, a2, ()) y3]) (τ := ⟨21, [(0, .cv (.one (.own 0))), (5, .cv (.one (.int .i64 y3.1)))], [(.buf 49 T814c y1.1, [])]⟩) hV 0 [(2, {res := some ⟨f_table_at.S.rs, y3⟩})] {live := [0, 5], src := [some 0]} (by kernel_rfl) (by kernel_rfl) ⟨⟨k, e4⟩, trivial⟩ ?_
  refine th_n ?_
  refine D_seq (by kernel_rfl) ?_
  refine D_reg (cs := []) (τ := ⟨21, [(0, .cv (.one (.own 0))), (5, .cv (.one (.int .i64 y3.1))), (14, .cv (.one (.bool (decide (y3.1 < (y1.1.length : Int))))))], [(.buf 49 T814c y1.1, [])]⟩) hV 0 [] {live := [0, 5, 14], src := [some 0]} (by kernel_rfl) (by kernel_rfl) trivial ?_
  refine th_n ?_
  refine D_condB (t := 14) (b := (decide (y3.1 < (y1.1.length : Int)))) (by kernel_rfl) (by kernel_rfl) (fun hb5 => ?_) (fun hb5 => ?_)
  · rw [if_pos hb5] at H
    obtain ⟨n6, H⟩ := of_if H
    refine D_reg (cs := [0 ≤ y3.1 ∧ y3.1 < (y1.1.length : Int) ∧ (IntKind.i64.wrap (y3.1 + 1)) = y3.1 + 1]) (τ := ⟨21, [(0, .cv (.one (.own 0)))], [(.buf 49 T814c (y1.1.take y3.1.toNat ++ y1.1.drop (y3.1.toNat + 1)), [])]⟩) hV 1 [(4, {sb := 1, ph := {sb := 1}})] {live := [0], src := [some 1]} (by kernel_rfl) (by kernel_rfl) ⟨n6, trivial⟩ ?_
    refine th_n ?_
    refine W_tell (τ := f_table_Drop.s1 (y1.1.take y3.1.toNat ++ y1.1.drop (y3.1.toNat + 1))) {fz := [], gr := 0, ad := [], live := [0], src := [some 0]} (by kernel_rfl) (by kernel_rfl) ?_
    exact f_table_Drop.j1_ok hV k (y1.1.take y3.1.toNat ++ y1.1.drop (y3.1.toNat + 1)) H
  · rw [if_neg (by rw [hb5]; decide)] at H
    refine D_skip (by kernel_rfl) ?_
    refine th_n ?_
    refine W_tell (τ := f_table_Drop.s1 y1.1) {fz := [], gr := 0, ad := [], live := [0], src := [some 0]} (by kernel_rfl) (by kernel_rfl) ?_
    exact f_table_Drop.j1_ok hV k y1.1 H
theorem f_table_Drop.V_ok : EnvOk P f_table_Drop.V := { ck := tt_ck, fits := slk_cons f_table_at.fits (slk_nil), mixed := mixed, prims := plk_cons (show PrimOk P 51 _ from D51.ok) (plk_nil) }
theorem f_table_Drop.fits : Fits P 25 f_table_Drop.S := fits_of f_table_Drop.V_ok Go.Proofs.Try.func25 (by kernel_rfl) (by decide) (by decide) rfl (fun x r ⟨k, H⟩ => f_table_Drop.f_ok f_table_Drop.V_ok k x.1 x.2.1 H)
/-! ### f_law09_TableTwice: function 7, wayfinder/wayfinderlaw09.TableTwice -/
abbrev f_law09_TableTwice.ps : Sg := [(false, (.slice T814c)), (false, (.int .i64)), (true, T1383)]
abbrev f_law09_TableTwice.rs : Sg := [(false, .bool)]
noncomputable def f_law09_TableTwice.c0 : Code := (Go.Proofs.Try.f7.body).getD .skip
noncomputable def f_law09_TableTwice.G : List (Nat × Spec) := [(18, f_law09_Few.S), (21, f_law09_awake.S), (24, f_table_Put.S), (25, f_table_Drop.S), (26, f_ref09_Same.S)]
noncomputable def f_law09_TableTwice.V : Env := { tt := tt, Γ := slk f_law09_TableTwice.G }
noncomputable abbrev f_law09_TableTwice.Q (r : Tup f_law09_TableTwice.rs) : Exit → St → Prop := Qr tt Go.Proofs.Try.f7.results ⟨f_law09_TableTwice.ps, f_law09_TableTwice.rs, .any, none, fun _ _ => True⟩ r
abbrev f_law09_TableTwice.R := Tup f_law09_TableTwice.rs
noncomputable def f_law09_TableTwice.s1 (p1 : List T814c.T) (p2 : Int) (p3 : Bool) (p4 : Bool) (p5 : T1383.T) : St := ⟨84, [(0, .cv (.one (.sl T814c p1 .any))), (1, .cv (.one (.int .i64 p2))), (5, .cv (.one (.ptr 0 0))), (7, .cv (.one (.bool p3))), (26, .cv (.one (.bool p4)))], [(.box 6, [.int .i64 p5.1.1, .int .i64 p5.1.2, .int .i64 p5.2.1, .int .i64 p5.2.2.1, .int .i64 p5.2.2.2.1, .int .i64 p5.2.2.2.2])]⟩
noncomputable def f_law09_TableTwice.s2 (p1 : List T814c.T) (p2 : Int) (p3 : Int) (p4 : T1383.T) : St := ⟨84, [(0, .cv (.one (.sl T814c p1 .any))), (1, .cv (.one (.int .i64 p2))), (5, .cv (.one (.ptr 0 0))), (9, .cv (.one (.int .i64 p3)))], [(.box 6, [.int .i64 p4.1.1, .int .i64 p4.1.2, .int .i64 p4.2.1, .int .i64 p4.2.2.1, .int .i64 p4.2.2.2.1, .int .i64 p4.2.2.2.2])]⟩
noncomputable def f_law09_TableTwice.s3 (p1 : List T814c.T) (p2 : Int) (p3 : Int) (p4 : Int) (p5 : T1383.T) : St := ⟨84, [(0, .cv (.one (.sl T814c p1 .any))), (1, .cv (.one (.int .i64 p2))), (5, .cv (.one (.ptr 0 0))), (9, .cv (.one (.int .i64 p3))), (10, .cv (.one (.int .i64 p4)))], [(.box 6, [.int .i64 p5.1.1, .int .i64 p5.1.2, .int .i64 p5.2.1, .int .i64 p5.2.2.1, .int .i64 p5.2.2.2.1, .int .i64 p5.2.2.2.2])]⟩
noncomputable def f_law09_TableTwice.b3 (L2 : List T814c.T → Int → Int → T1383.T → Option f_law09_TableTwice.R) (L3 : List T814c.T → Int → Int → Int → T1383.T → Option f_law09_TableTwice.R) (k : Nat) (p1 : List T814c.T) (p2 : Int) (p3 : Int) (p4 : Int) (p5 : T1383.T) : Option f_law09_TableTwice.R :=
  if (decide (p4 < p3)) = true then
  if 0 ≤ p3 then
    if p3 < (p1.length : Int) then
      if 0 ≤ p4 then
        if p4 < (p1.length : Int) then
          if (((att T814c p1 p3).1) == ((att T814c p1 p4).1)) = true then
            some (true, ())
          else
            L3 p1 p2 p3 (IntKind.i64.wrap (p4 + 1)) p5
        else none
      else none
    else none
  else none
else
  L2 p1 p2 (IntKind.i64.wrap (p3 + 1)) p5
theorem f_law09_TableTwice.b3_ok (hV : EnvOk P f_law09_TableTwice.V) {r : f_law09_TableTwice.R} (L2 : List T814c.T → Int → Int → T1383.T → Option f_law09_TableTwice.R) (m2 : Nat) (hL2 : ∀ (p1 : List T814c.T) (p2 : Int) (p3 : Int) (p4 : T1383.T), L2 p1 p2 p3 p4 = some r → WL P 0 (Code.l (Code.l (Code.r (Code.l (Code.r (Code.r (Code.r (Code.r f_law09_TableTwice.c0)))))))) (blockW 0 (thenW P 0 (Code.r (Code.r (Code.r (Code.r (Code.r f_law09_TableTwice.c0))))) (f_law09_TableTwice.Q r))) m2 (f_law09_TableTwice.s2 p1 p2 p3 p4)) (L3 : List T814c.T → Int → Int → Int → T1383.T → Option f_law09_TableTwice.R) (m3 : Nat) (hL3 : ∀ (p1 : List T814c.T) (p2 : Int) (p3 : Int) (p4 : Int) (p5 : T1383.T), L3 p1 p2 p3 p4 p5 = some r → WL P 0 (Code.l (Code.l (Code.r (Code.l (Code.l (Code.r (Code.l (Code.l (Code.r (Code.l (Code.r (Code.r (Code.r (Code.r f_law09_TableTwice.c0)))))))))))))) (blockW 2 (blockW 1 (thenW P 0 (Code.r (Code.r (Code.l (Code.l (Code.r (Code.l (Code.r (Code.r (Code.r (Code.r f_law09_TableTwice.c0)))))))))) (roundW P 0 (Code.l (Code.l (Code.r (Code.l (Code.r (Code.r (Code.r (Code.r f_law09_TableTwice.c0)))))))) (blockW 0 (thenW P 0 (Code.r (Code.r (Code.r (Code.r (Code.r f_law09_TableTwice.c0))))) (f_law09_TableTwice.Q r))) m2)))) m3 (f_law09_TableTwice.s3 p1 p2 p3 p4 p5)) (k : Nat) (p1 : List T814c.T) (p2 : Int) (p3 : Int) (p4 : Int) (p5 : T1383.T) (H : f_law09_TableTwice.b3 L2 L3 k p1 p2 p3 p4 p5 = some r) : W P 0 (Code.l (Code.l (Code.r (Code.l (Code.l (Code.r (Code.l (Code.l (Code.r (Code.l (Code.r (Code.r (Code.r (Code.r f_law09_TableTwice.c0)))))))))))))) (f_law09_TableTwice.s3 p1 p2 p3 p4 p5) (roundW P 0 (Code.l (Code.l (Code.r (Code.l (Code.l (Code.r (Code.l (Code.l (Code.r (Code.l (Code.r (Code.r (Code.r (Code.r f_law09_TableTwice.c0)))))))))))))) (blockW 2 (blockW 1 (thenW P 0 (Code.r (Code.r (Code.l (Code.l (Code.r (Code.l (Code.r (Code.r (Code.r (Code.r f_law09_TableTwice.c0)))))))))) (roundW P 0 (Code.l (Code.l (Code.r (Code.l (Code.r (Code.r (Code.r (Code.r f_law09_TableTwice.c0)))))))) (blockW 0 (thenW P 0 (Code.r (Code.r (Code.r (Code.r (Code.r f_law09_TableTwice.c0))))) (f_law09_TableTwice.Q r))) m2)))) m3) := by
  unfold f_law09_TableTwice.b3 at H
  refine D_seq (by kernel_rfl) ?_
  refine D_seq (by kernel_rfl) ?_
  refine D_reg (cs := []) (τ := ⟨84, [(0, .cv (.one (.sl T814c p1 .any))), (1, .cv (.one (.int .i64 p2))), (5, .cv (.one (.ptr 0 0))), (9, .cv (.one (.int .i64 p3))), (10, .cv (.one (.int .i64 p4))), (36, .cv (.one (.bool (decide (p4 < p3)))))], [(.box 6, [.int .i64 p5.1.1, .int .i64 p5.1.2, .int .i64 p5.2.1, .int .i64 p5.2.2.1, .int .i64 p5.2.2.2.1, .int .i64 p5.2.2.2.2])]⟩) hV 0 [] {live := [0, 1, 5, 9, 10, 36], src := [some 0]} (by kernel_rfl) (by kernel_rfl) trivial ?_
  refine th_n ?_
  refine D_condB (t := 36) (b := (decide (p4 < p3))) (by kernel_rfl) (by kernel_rfl) (fun hb8 => ?_) (fun hb8 => ?_)
  · rw [if_pos hb8] at H
    refine D_skip (by kernel_rfl) ?_
    refine th_n ?_
    refine D_seq (by kernel_rfl) ?_
    refine D_block (id := 3) (by kernel_rfl) ?_
    refine D_seq (by kernel_rfl) ?_
    obtain ⟨n9, H⟩ := of_if H
    obtain ⟨n10, H⟩ := of_if H
    obtain ⟨n11, H⟩ := of_if H
    obtain ⟨n12, H⟩ := of_if H
    refine D_reg (cs := [0 ≤ p3, p3 < (p1.length : Int), 0 ≤ p4, p4 < (p1.length : Int)]) (τ := ⟨84, [(0, .cv (.one (.sl T814c p1 .any))), (1, .cv (.one (.int .i64 p2))), (5, .cv (.one (.ptr 0 0))), (9, .cv (.one (.int .i64 p3))), (10, .cv (.one (.int .i64 p4))), (49, .cv (.one (.bool (((att T814c p1 p3).1) == ((att T814c p1 p4).1)))))], [(.box 6, [.int .i64 p5.1.1, .int .i64 p5.1.2, .int .i64 p5.2.1, .int .i64 p5.2.2.1, .int .i64 p5.2.2.2.1, .int .i64 p5.2.2.2.2])]⟩) hV 0 [] {live := [0, 1, 5, 9, 10, 49], src := [some 0]} (by kernel_rfl) (by kernel_rfl) ⟨n9, n10, n11, n12, trivial⟩ ?_
    refine th_n ?_
    refine D_condB (t := 49) (b := (((att T814c p1 p3).1) == ((att T814c p1 p4).1))) (by kernel_rfl) (by kernel_rfl) (fun hb13 => ?_) (fun hb13 => ?_)
    · rw [if_pos hb13] at H
      refine D_seq (by kernel_rfl) ?_
      refine D_reg (cs := []) (τ := ⟨84, [(6, .cv (.one (.bool true)))], []⟩) hV 0 [] {live := [6], src := []} (by kernel_rfl) (by kernel_rfl) trivial ?_
      refine th_n ?_
      refine D_ret (by kernel_rfl) ?_
      refine bl_r ?_
      refine th_r ?_
      refine ro_r ?_
      refine bl_r ?_
      refine bl_r ?_
      refine th_r ?_
      refine ro_r ?_
      refine bl_r ?_
      refine th_r ?_
      exact lf_r (Eq.trans (by kernel_rfl) H)
    · rw [if_neg (by rw [hb13]; decide)] at H
      refine D_skip (by kernel_rfl) ?_
      refine bl_n ?_
      refine th_n ?_
      refine D_reg (cs := []) (τ := ⟨84, [(0, .cv (.one (.sl T814c p1 .any))), (1, .cv (.one (.int .i64 p2))), (5, .cv (.one (.ptr 0 0))), (9, .cv (.one (.int .i64 p3))), (10, .cv (.one (.int .i64 (IntKind.i64.wrap (p4 + 1)))))], [(.box 6, [.int .i64 p5.1.1, .int .i64 p5.1.2, .int .i64 p5.2.1, .int .i64 p5.2.2.1, .int .i64 p5.2.2.2.1, .int .i64 p5.2.2.2.2])]⟩) hV 0 [] {live := [0, 1, 5, 9, 10], src := [some 0]} (by kernel_rfl) (by kernel_rfl) trivial ?_
      refine ro_n (WL_tell (τ := f_law09_TableTwice.s3 p1 p2 p3 (IntKind.i64.wrap (p4 + 1)) p5) {fz := [], gr := 0, ad := [], live := [0, 1, 5, 9, 10], src := [some 0]} (by kernel_rfl) (by kernel_rfl) ?_)
      exact hL3 p1 p2 p3 (IntKind.i64.wrap (p4 + 1)) p5 H
  · rw [if_neg (by rw [hb8]; decide)] at H
    refine D_exit (id := 2) (by kernel_rfl) ?_
    refine th_x ?_
    refine ro_x ?_
    refine bl_h ?_
    refine bl_n ?_
    refine th_n ?_
    refine D_reg (cs := []) (τ := ⟨84, [(0, .cv (.one (.sl T814c p1 .any))), (1, .cv (.one (.int .i64 p2))), (5, .cv (.one (.ptr 0 0))), (9, .cv (.one (.int .i64 (IntKind.i64.wrap (p3 + 1)))))], [(.box 6, [.int .i64 p5.1.1, .int .i64 p5.1.2, .int .i64 p5.2.1, .int .i64 p5.2.2.1, .int .i64 p5.2.2.2.1, .int .i64 p5.2.2.2.2])]⟩) hV 0 [] {live := [0, 1, 5, 9], src := [some 0]} (by kernel_rfl) (by kernel_rfl) trivial ?_
    refine ro_n (WL_tell (τ := f_law09_TableTwice.s2 p1 p2 (IntKind.i64.wrap (p3 + 1)) p5) {fz := [], gr := 0, ad := [], live := [0, 1, 5, 9], src := [some 0]} (by kernel_rfl) (by kernel_rfl) ?_)
    exact hL2 p1 p2 (IntKind.i64.wrap (p3 + 1)) p5 H
noncomputable def f_law09_TableTwice.l3 (L2 : List T814c.T → Int → Int → T1383.T → Option f_law09_TableTwice.R) (k : Nat) : Nat → List T814c.T → Int → Int → Int → T1383.T → Option f_law09_TableTwice.R
  | 0, _, _, _, _, _ => none
  | m + 1, p1, p2, p3, p4, p5 => f_law09_TableTwice.b3 L2 (f_law09_TableTwice.l3 L2 k m) k p1 p2 p3 p4 p5
theorem f_law09_TableTwice.l3_ok (hV : EnvOk P f_law09_TableTwice.V) {r : f_law09_TableTwice.R} (L2 : List T814c.T → Int → Int → T1383.T → Option f_law09_TableTwice.R) (m2 : Nat) (hL2 : ∀ (p1 : List T814c.T) (p2 : Int) (p3 : Int) (p4 : T1383.T), L2 p1 p2 p3 p4 = some r → WL P 0 (Code.l (Code.l (Code.r (Code.l (Code.r (Code.r (Code.r (Code.r f_law09_TableTwice.c0)))))))) (blockW 0 (thenW P 0 (Code.r (Code.r (Code.r (Code.r (Code.r f_law09_TableTwice.c0))))) (f_law09_TableTwice.Q r))) m2 (f_law09_TableTwice.s2 p1 p2 p3 p4)) (k : Nat) : ∀ (m3 : Nat) (p1 : List T814c.T) (p2 : Int) (p3 : Int) (p4 : Int) (p5 : T1383.T), f_law09_TableTwice.l3 L2 k m3 p1 p2 p3 p4 p5 = some r → WL P 0 (Code.l (Code.l (Code.r (Code.l (Code.l (Code.r (Code.l (Code.l (Code.r (Code.l (Code.r (Code.r (Code.r (Code.r f_law09_TableTwice.c0)))))))))))))) (blockW 2 (blockW 1 (thenW P 0 (Code.r (Code.r (Code.l (Code.l (Code.r (Code.l (Code.r (Code.r (Code.r (Code.r f_law09_TableTwice.c0)))))))))) (roundW P 0 (Code.l (Code.l (Code.r (Code.l (Code.r (Code.r (Code.r (Code.r f_law09_TableTwice.c0)))))))) (blockW 0 (thenW P 0 (Code.r (Code.r (Code.r (Code.r (Code.r f_law09_TableTwice.c0))))) (f_law09_TableTwice.Q r))) m2)))) m3 (f_law09_TableTwice.s3 p1 p2 p3 p4 p5)
  | 0, _, _, _, _, _, H => by cases H
  | m3 + 1, p1, p2, p3, p4, p5, H => WL_succ (f_law09_TableTwice.b3_ok hV L2 m2 hL2 (f_law09_TableTwice.l3 L2 k m3) m3 (fun p1 p2 p3 p4 p5 H => f_law09_TableTwice.l3_ok hV L2 m2 hL2 k m3 p1 p2 p3 p4 p5 H) k p1 p2 p3 p4 p5 H)
noncomputable def f_law09_TableTwice.b2 (L2 : List T814c.T → Int → Int → T1383.T → Option f_law09_TableTwice.R) (k : Nat) (p1 : List T814c.T) (p2 : Int) (p3 : Int) (p4 : T1383.T) : Option f_law09_TableTwice.R :=
  if (decide (p3 < (p1.length : Int))) = true then
  f_law09_TableTwice.l3 L2 k k p1 p2 p3 0 p4
else
  (f_table_Put.f k p1 p2 p4 (10000 : Int)).bind fun y14 =>
    (f_table_Put.f k y14.1 p2 p4 (10000 : Int)).bind fun y16 =>
      (f_ref09_Same.f k y14.1 y16.1).bind fun y18 =>
        (f_table_Drop.f k p1 p2).bind fun y20 =>
          (f_table_Drop.f k y20.1 p2).bind fun y22 =>
            (f_ref09_Same.f k y22.1 y20.1).bind fun y23 =>
              if y18.1 = true then
                if y23.1 = true then
                  some ((y14.2.1 == y16.2.1), ())
                else
                  some (false, ())
              else
                some (false, ())
theorem f_law09_TableTwice.b2_ok (hV : EnvOk P f_law09_TableTwice.V) {r : f_law09_TableTwice.R} (L2 : List T814c.T → Int → Int → T1383.T → Option f_law09_TableTwice.R) (m2 : Nat) (hL2 : ∀ (p1 : List T814c.T) (p2 : Int) (p3 : Int) (p4 : T1383.T), L2 p1 p2 p3 p4 = some r → WL P 0 (Code.l (Code.l (Code.r (Code.l (Code.r (Code.r (Code.r (Code.r f_law09_TableTwice.c0)))))))) (blockW 0 (thenW P 0 (Code.r (Code.r (Code.r (Code.r (Code.r f_law09_TableTwice.c0))))) (f_law09_TableTwice.Q r))) m2 (f_law09_TableTwice.s2 p1 p2 p3 p4)) (k : Nat) (p1 : List T814c.T) (p2 : Int) (p3 : Int) (p4 : T1383.T) (H : f_law09_TableTwice.b2 L2 k p1 p2 p3 p4 = some r) : W P 0 (Code.l (Code.l (Code.r (Code.l (Code.r (Code.r (Code.r (Code.r f_law09_TableTwice.c0)))))))) (f_law09_TableTwice.s2 p1 p2 p3 p4) (roundW P 0 (Code.l (Code.l (Code.r (Code.l (Code.r (Code.r (Code.r (Code.r f_law09_TableTwice.c0)))))))) (blockW 0 (thenW P 0 (Code.r (Code.r (Code.r (Code.r (Code.r f_law09_TableTwice.c0))))) (f_law09_TableTwice.Q r))) m2) := by
  unfold f_law09_TableTwice.b2 at H
  refine D_seq (by kernel_rfl) ?_
  refine D_seq (by kernel_rfl) ?_
  refine D_reg (cs := []) (τ := ⟨84, [(0, .cv (.one (.sl T814c p1 .any))), (1, .cv (.one (.int .i64 p2))), (5, .cv (.one (.ptr 0 0))), (9, .cv (.one (.int .i64 p3))), (31, .cv (.one (.bool (decide (p3 < (p1.length : Int))))))], [(.box 6, [.int .i64 p4.1.1, .int .i64 p4.1.2, .int .i64 p4.2.1, .int .i64 p4.2.2.1, .int .i64 p4.2.2.2.1, .int .i64 p4.2.2.2.2])]⟩) hV 0 [] {live := [0, 1, 5, 9, 31], src := [some 0]} (by kernel_rfl) (by kernel_rfl) trivial ?_
  refine th_n ?_
  refine D_condB (t := 31) (b := (decide (p3 < (p1.length : Int)))) (by kernel_rfl) (by kernel_rfl) (fun hb7 => ?_) (fun hb7 => ?_)
  · rw [if_pos hb7] at H
    refine D_skip (by kernel_rfl) ?_
    refine th_n ?_
    refine D_seq (by kernel_rfl) ?_
    refine D_block (id := 1) (by kernel_rfl) ?_
    refine D_seq (by kernel_rfl) ?_
    refine D_reg (cs := []) (τ := ⟨84, [(0, .cv (.one (.sl T814c p1 .any))), (1, .cv (.one (.int .i64 p2))), (5, .cv (.one (.ptr 0 0))), (9, .cv (.one (.int .i64 p3))), (10, .cv (.one (.int .i64 0)))], [(.box 6, [.int .i64 p4.1.1, .int .i64 p4.1.2, .int .i64 p4.2.1, .int .i64 p4.2.2.1, .int .i64 p4.2.2.2.1, .int .i64 p4.2.2.2.2])]⟩) hV 0 [] {live := [0, 1, 5, 9, 10], src := [some 0]} (by kernel_rfl) (by kernel_rfl) trivial ?_
    refine th_n ?_
    refine D_block (id := 2) (by kernel_rfl) ?_
    refine W_tell (τ := f_law09_TableTwice.s3 p1 p2 p3 0 p4) {fz := [], gr := 0, ad := [], live := [0, 1, 5, 9, 10], src := [some 0]} (by kernel_rfl) (by kernel_rfl) ?_
    exact D_loop (by kernel_rfl) k (f_law09_TableTwice.l3_ok hV L2 m2 hL2 k k p1 p2 p3 0 p4 H)
  · rw [if_neg (by rw [hb7]; decide)] at H
    refine D_exit (id := 0) (by kernel_rfl) ?_
    refine th_x ?_
    refine ro_x ?_
    refine bl_h ?_
    refine th_n ?_
    refine D_seq (by kernel_rfl) ?_
    obtain ⟨y14, e15, H⟩ := of_bind H
    refine D_reg (cs := [f_table_Put.S.rel (p1, p2, p4, 10000, ()) y14]) (τ := ⟨84, [(0, .cv (.one (.sl T814c p1 .any))), (1, .cv (.one (.int .i64 p2))), (5, .cv (.one (.ptr 0 0))), (11, .cv (.one (.sl T814c y14.1 .any))), (12, .cv (.one (.int .i64 y14.2.1)))], [(.box 6, [.int .i64 p4.1.1, .int .i64 p4.1.2, .int .i64 p4.2.1, .int .i64 p4.2.2.1, .int .i64 p4.2.2.2.1, .int .i64 p4.2.2.2.2])]⟩) hV 0 [(3, {res := some ⟨f_table_Put.S.rs, y14⟩})] {live := [0, 1, 5, 11, 12], src := [some 0]} (by kernel_rfl) (by kernel_rfl) ⟨⟨k, e15⟩, trivial⟩ ?_
    refine th_n ?_
    refine D_seq (by kernel_rfl) ?_
    obtain ⟨y16, e17, H⟩ := of_bind H
    refine D_reg (cs := [f_table_Put.S.rel (y14.1, p2, p4, 10000, ()) y16]) (τ := ⟨84, [(0, .cv (.one (.sl T814c p1 .any))), (1, .cv (.one (.int .i64 p2))), (11, .cv (.one (.sl T814c y14.1 .any))), (12, .cv (.one (.int .i64 y14.2.1))), (13, .cv (.one (.sl T814c y16.1 .any))), (14, .cv (.one (.int .i64 y16.2.1)))], []⟩) hV 0 [(3, {res := some ⟨f_table_Put.S.rs, y16⟩})] {live := [0, 1, 11, 12, 13, 14], src := []} (by kernel_rfl) (by kernel_rfl) ⟨⟨k, e17⟩, trivial⟩ ?_
    refine th_n ?_
    refine D_seq (by kernel_rfl) ?_
    obtain ⟨y18, e19, H⟩ := of_bind H
    refine D_reg (cs := [f_ref09_Same.S.rel (y14.1, y16.1, ()) y18]) (τ := ⟨84, [(0, .cv (.one (.sl T814c p1 .any))), (1, .cv (.one (.int .i64 p2))), (12, .cv (.one (.int .i64 y14.2.1))), (14, .cv (.one (.int .i64 y16.2.1))), (15, .cv (.one (.bool y18.1)))], []⟩) hV 0 [(2, {res := some ⟨f_ref09_Same.S.rs, y18⟩})] {live := [0, 1, 12, 14, 15], src := []} (by kernel_rfl) (by kernel_rfl) ⟨⟨k, e19⟩, trivial⟩ ?_
    refine th_n ?_
    refine D_seq (by kernel_rfl) ?_
    obtain ⟨y20, e21, H⟩ := of_bind H
    refine D_reg (cs := [f_table_Drop.S.rel (p1, p2, ()) y20]) (τ := ⟨84, [(1, .cv (.one (.int .i64 p2))), (12, .cv (.one (.int .i64 y14.2.1))), (14, .cv (.one (.int .i64 y16.2.1))), (15, .cv (.one (.bool y18.1))), (16, .cv (.one (.sl T814c y20.1 .any)))], []⟩) hV 0 [(2, {res := some ⟨f_table_Drop.S.rs, y20⟩})] {live := [1, 12, 14, 15, 16], src := []} (by kernel_rfl) (by kernel_rfl) ⟨⟨k, e21⟩, trivial⟩ ?_
    refine th_n ?_
    refine D_seq (by kernel_rfl) ?_
    obtain ⟨y22, e24, H⟩ := of_bind H
    obtain ⟨y23, e25, H⟩ := of_bind H
    refine D_reg (cs := [f_table_Drop.S.rel (y20.1, p2, ()) y22, f_ref09_Same.S.rel (y22.1, y20.1, ()) y23]) (τ := ⟨84, [(12, .cv (.one (.int .i64 y14.2.1))), (14, .cv (.one (.int .i64 y16.2.1))), (15, .cv (.one (.bool y18.1))), (17, .cv (.one (.bool y23.1)))], []⟩) hV 0 [(2, {res := some ⟨f_table_Drop.S.rs, y22⟩}), (4, {res := some ⟨f_ref09_Same.S.rs, y23⟩})] {live := [12, 14, 15, 17], src := []} (by kernel_rfl) (by kernel_rfl) ⟨⟨k, e24⟩, ⟨k, e25⟩, trivial⟩ ?_
    refine th_n ?_
    refine D_seq (by kernel_rfl) ?_
    rcases of_ite H with ⟨hb26, H⟩ | ⟨hb26, H⟩
    · rcases of_ite H with ⟨hb27, H⟩ | ⟨hb27, H⟩
      · refine D_reg (cs := [(y18.1) = true, (y23.1) = true]) (τ := ⟨84, [(6, .cv (.one (.bool (y14.2.1 == y16.2.1))))], []⟩) hV 0 [(0, {bv := some true}), (3, {bv := some true})] {live := [6], src := []} (by kernel_rfl) (by kernel_rfl) ⟨hb26, hb27, trivial⟩ ?_
        refine th_n ?_
        refine D_ret (by kernel_rfl) ?_
        exact lf_r (Eq.trans (by kernel_rfl) H)
      · refine D_reg (cs := [(y18.1) = true, (y23.1) = false]) (τ := ⟨84, [(6, .cv (.one (.bool false)))], []⟩) hV 0 [(0, {bv := some true}), (3, {bv := some false})] {live := [6], src := []} (by kernel_rfl) (by kernel_rfl) ⟨hb26, hb27, trivial⟩ ?_
        refine th_n ?_
        refine D_ret (by kernel_rfl) ?_
        exact lf_r (Eq.trans (by kernel_rfl) H)
    · refine D_reg (cs := [(y18.1) = false]) (τ := ⟨84, [(6, .cv (.one (.bool false)))], []⟩) hV 0 [(0, {bv := some false})] {live := [6], src := []} (by kernel_rfl) (by kernel_rfl) ⟨hb26, trivial⟩ ?_
      refine th_n ?_
      refine D_ret (by kernel_rfl) ?_
      exact lf_r (Eq.trans (by kernel_rfl) H)
noncomputable def f_law09_TableTwice.l2 (k : Nat) : Nat → List T814c.T → Int → Int → T1383.T → Option f_law09_TableTwice.R
  | 0, _, _, _, _ => none
  | m + 1, p1, p2, p3, p4 => f_law09_TableTwice.b2 (f_law09_TableTwice.l2 k m) k p1 p2 p3 p4
theorem f_law09_TableTwice.l2_ok (hV : EnvOk P f_law09_TableTwice.V) {r : f_law09_TableTwice.R} (k : Nat) : ∀ (m2 : Nat) (p1 : List T814c.T) (p2 : Int) (p3 : Int) (p4 : T1383.T), f_law09_TableTwice.l2 k m2 p1 p2 p3 p4 = some r → WL P 0 (Code.l (Code.l (Code.r (Code.l (Code.r (Code.r (Code.r (Code.r f_law09_TableTwice.c0)))))))) (blockW 0 (thenW P 0 (Code.r (Code.r (Code.r (Code.r (Code.r f_law09_TableTwice.c0))))) (f_law09_TableTwice.Q r))) m2 (f_law09_TableTwice.s2 p1 p2 p3 p4)
  | 0, _, _, _, _, H => by cases H
  | m2 + 1, p1, p2, p3, p4, H => WL_succ (f_law09_TableTwice.b2_ok hV (f_law09_TableTwice.l2 k m2) m2 (fun p1 p2 p3 p4 H => f_law09_TableTwice.l2_ok hV k m2 p1 p2 p3 p4 H) k p1 p2 p3 p4 H)
noncomputable def f_law09_TableTwice.j1 (k : Nat) (p1 : List T814c.T) (p2 : Int) (p3 : Bool) (p4 : Bool) (p5 : T1383.T) : Option f_law09_TableTwice.R :=
  if p4 = true then
  some (p3, ())
else
  f_law09_TableTwice.l2 k k p1 p2 0 p5
theorem f_law09_TableTwice.j1_ok (hV : EnvOk P f_law09_TableTwice.V) {r : f_law09_TableTwice.R} (k : Nat) (p1 : List T814c.T) (p2 : Int) (p3 : Bool) (p4 : Bool) (p5 : T1383.T) (H : f_law09_TableTwice.j1 k p1 p2 p3 p4 p5 = some r) : W P 0 (Code.r (Code.l (Code.r (Code.r (Code.r f_law09_TableTwice.c0))))) (f_law09_TableTwice.s1 p1 p2 p3 p4 p5) (thenW P 0 (Code.r (Code.r (Code.r (Code.r f_law09_TableTwice.c0)))) (f_law09_TableTwice.Q r)) := by
  unfold f_law09_TableTwice.j1 at H
  refine D_condB (t := 26) (b := p4) (by kernel_rfl) (by kernel_rfl) (fun hb6 => ?_) (fun hb6 => ?_)
  · rw [if_pos hb6] at H
    refine D_seq (by kernel_rfl) ?_
    refine D_reg (cs := []) (τ := ⟨84, [(6, .cv (.one (.bool p3)))], []⟩) hV 0 [] {live := [6], src := []} (by kernel_rfl) (by kernel_rfl) trivial ?_
    refine th_n ?_
    refine D_ret (by kernel_rfl) ?_
    refine th_r ?_
    exact lf_r (Eq.trans (by kernel_rfl) H)
  · rw [if_neg (by rw [hb6]; decide)] at H
    refine D_skip (by kernel_rfl) ?_
    refine th_n ?_
    refine D_seq (by kernel_rfl) ?_
    refine D_seq (by kernel_rfl) ?_
    refine D_reg (cs := []) (τ := ⟨84, [(0, .cv (.one (.sl T814c p1 .any))), (1, .cv (.one (.int .i64 p2))), (5, .cv (.one (.ptr 0 0))), (9, .cv (.one (.int .i64 0)))], [(.box 6, [.int .i64 p5.1.1, .int .i64 p5.1.2, .int .i64 p5.2.1, .int .i64 p5.2.2.1, .int .i64 p5.2.2.2.1, .int .i64 p5.2.2.2.2])]⟩) hV 0 [] {live := [0, 1, 5, 9], src := [some 0]} (by kernel_rfl) (by kernel_rfl) trivial ?_
    refine th_n ?_
    refine D_block (id := 0) (by kernel_rfl) ?_
    refine W_tell (τ := f_law09_TableTwice.s2 p1 p2 0 p5) {fz := [], gr := 0, ad := [], live := [0, 1, 5, 9], src := [some 0]} (by kernel_rfl) (by kernel_rfl) ?_
    exact D_loop (by kernel_rfl) k (f_law09_TableTwice.l2_ok hV k k p1 p2 0 p5 H)
noncomputable def f_law09_TableTwice.f (k : Nat) (a1 : List T814c.T) (a2 : Int) (a3 : T1383.T) : Option f_law09_TableTwice.R :=
  (f_law09_awake.f k).bind fun y1 =>
    (f_law09_Few.f k a1).bind fun y3 =>
      if (!y1.1) = true then
        f_law09_TableTwice.j1 k a1 a2 y1.1 true a3
      else
        f_law09_TableTwice.j1 k a1 a2 y1.1 (!y3.1) a3
noncomputable def f_law09_TableTwice.S : Spec := ⟨f_law09_TableTwice.ps, f_law09_TableTwice.rs, .any, none, fun x r => ∃ k, f_law09_TableTwice.f k x.1 x.2.1 x.2.2.1 = some r⟩
theorem f_law09_TableTwice.f_ok (hV : EnvOk P f_law09_TableTwice.V) {r : f_law09_TableTwice.R} (k : Nat) (a1 : List T814c.T) (a2 : Int) (a3 : T1383.T) (H : f_law09_TableTwice.f k a1 a2 a3 = some r) : W P 0 f_law09_TableTwice.c0 (⟨84, [(0, .cv (.one (.sl T814c a1 .any))), (1, .cv (.one (.int .i64 a2))), (2, .cv (.agg [.int .i64 a3.1.1, .int .i64 a3.1.2, .int .i64 a3.2.1, .int .i64 a3.2.2.1, .int .i64 a3.2.2.2.1, .int .i64 a3.2.2.2.2]))], []⟩) (f_law09_TableTwice.Q r) := by
  unfold f_law09_TableTwice.f at H
  refine D_seq (by kernel_rfl) ?_
  refine D_reg (cs := []) (τ := ⟨84, [(0, .cv (.one (.sl T814c a1 .any))), (1, .cv (.one (.int .i64 a2))), (5, .cv (.one (.ptr 0 0)))], [(.box 6, [.int .i64 a3.1.1, .int .i64 a3.1.2, .int .i64 a3.2.1, .int .i64 a3.2.2.1, .int .i64 a3.2.2.2.1, .int .i64 a3.2.2.2.2])]⟩) hV 1 [(0, {sb := 0})] {live := [0, 1, 5], src := [some 0]} (by kernel_rfl) (by kernel_rfl) trivial ?_
  refine th_n ?_
  refine D_seq (by kernel_rfl) ?_
  obtain ⟨y1, e2, H⟩ := of_bind H
  refine D_reg (cs := [f_law09_awake.S.rel (()) y1]) (τ := ⟨84, [(0, .cv (.one (.sl T814c a1 .any))), (1, .cv (.one (.int .i64 a2))), (5, .cv (.one (.ptr 0 0))), (7, .cv (.one (.bool y1.1)))], [(.box 6, [.int .i64 a3.1.1, .int .i64 a3.1.2, .int .i64 a3.2.1, .int .i64 a3.2.2.1, .int .i64 a3.2.2.2.1, .int .i64 a3.2.2.2.2])]⟩) hV 0 [(0, {res := some ⟨f_law09_awake.S.rs, y1⟩})] {live := [0, 1, 5, 7], src := [some 0]} (by kernel_rfl) (by kernel_rfl) ⟨⟨k, e2⟩, trivial⟩ ?_
  refine th_n ?_
  refine D_seq (by kernel_rfl) ?_
  obtain ⟨y3, e4, H⟩ := of_bind H
  refine D_reg (cs := [f_law09_Few.S.rel (a1, ()) y3]) (τ := ⟨84, [(0, .cv (.one (.sl T814c a1 .any))), (1, .cv (.one (.int .i64 a2))), (5, .cv (.one (.ptr 0 0))), (7, .cv (.one (.bool y1.1))), (8, .cv (.one (.bool y3.1)))], [(.box 6, [.int .i64 a3.1.1, .int .i64 a3.1.2, .int .i64 a3.2.1, .int .i64 a3.2.2.1, .int .i64 a3.2.2.2.1, .int .i64 a3.2.2.2.2])]⟩) hV 0 [(1, {res := some ⟨f_law09_Few.S.rs, y3⟩})] {live := [0, 1, 5, 7, 8], src := [some 0]} (by kernel_rfl) (by kernel_rfl) ⟨⟨k, e4⟩, trivial⟩ ?_
  refine th_n ?_
  refine D_seq (by kernel_rfl) ?_
  refine D_seq (by kernel_rfl) ?_
  rcases of_ite H with ⟨hb5, H⟩ | ⟨hb5, H⟩
  · refine D_reg (cs := [((!y1.1)) = true]) (τ := ⟨84, [(0, .cv (.one (.sl T814c a1 .any))), (1, .cv (.one (.int .i64 a2))), (5, .cv (.one (.ptr 0 0))), (7, .cv (.one (.bool y1.1))), (26, .cv (.one (.bool true)))], [(.box 6, [.int .i64 a3.1.1, .int .i64 a3.1.2, .int .i64 a3.2.1, .int .i64 a3.2.2.1, .int .i64 a3.2.2.2.1, .int .i64 a3.2.2.2.2])]⟩) hV 0 [(1, {bv := some true})] {live := [0, 1, 5, 7, 26], src := [some 0]} (by kernel_rfl) (by kernel_rfl) ⟨hb5, trivial⟩ ?_
    refine th_n ?_
    refine W_tell (τ := f_law09_TableTwice.s1 a1 a2 y1.1 true a3) {fz := [], gr := 0, ad := [], live := [0, 1, 5, 7, 26], src := [some 0]} (by kernel_rfl) (by kernel_rfl) ?_
    exact f_law09_TableTwice.j1_ok hV k a1 a2 y1.1 true a3 H
  · refine D_reg (cs := [((!y1.1)) = false]) (τ := ⟨84, [(0, .cv (.one (.sl T814c a1 .any))), (1, .cv (.one (.int .i64 a2))), (5, .cv (.one (.ptr 0 0))), (7, .cv (.one (.bool y1.1))), (26, .cv (.one (.bool (!y3.1))))], [(.box 6, [.int .i64 a3.1.1, .int .i64 a3.1.2, .int .i64 a3.2.1, .int .i64 a3.2.2.1, .int .i64 a3.2.2.2.1, .int .i64 a3.2.2.2.2])]⟩) hV 0 [(1, {bv := some false})] {live := [0, 1, 5, 7, 26], src := [some 0]} (by kernel_rfl) (by kernel_rfl) ⟨hb5, trivial⟩ ?_
    refine th_n ?_
    refine W_tell (τ := f_law09_TableTwice.s1 a1 a2 y1.1 (!y3.1) a3) {fz := [], gr := 0, ad := [], live := [0, 1, 5, 7, 26], src := [some 0]} (by kernel_rfl) (by kernel_rfl) ?_
    exact f_law09_TableTwice.j1_ok hV k a1 a2 y1.1 (!y3.1) a3 H
theorem f_law09_TableTwice.V_ok : EnvOk P f_law09_TableTwice.V := { ck := tt_ck, fits := slk_cons f_law09_Few.fits (slk_cons f_law09_awake.fits (slk_cons f_table_Put.fits (slk_cons f_table_Drop.fits (slk_cons f_ref09_Same.fits (slk_nil))))), mixed := mixed }
theorem f_law09_TableTwice.fits : Fits P 7 f_law09_TableTwice.S := fits_of f_law09_TableTwice.V_ok Go.Proofs.Try.func7 (by kernel_rfl) (by decide) (by decide) rfl (fun x r ⟨k, H⟩ => f_law09_TableTwice.f_ok f_law09_TableTwice.V_ok k x.1 x.2.1 x.2.2.1 H)
/-! ### f_law09_TableRises: function 8, wayfinder/wayfinderlaw09.TableRises -/
abbrev f_law09_TableRises.ps : Sg := [(false, (.slice T1383)), (false, (.slice (.int .i64))), (false, (.int .i64))]
abbrev f_law09_TableRises.rs : Sg := [(false, .bool)]
noncomputable def f_law09_TableRises.c0 : Code := (Go.Proofs.Try.f8.body).getD .skip
noncomputable def f_law09_TableRises.G : List (Nat × Spec) := [(21, f_law09_awake.S), (24, f_table_Put.S), (25, f_table_Drop.S)]
noncomputable def f_law09_TableRises.V : Env := { tt := tt, Γ := slk f_law09_TableRises.G }
noncomputable abbrev f_law09_TableRises.Q (r : Tup f_law09_TableRises.rs) : Exit → St → Prop := Qr tt Go.Proofs.Try.f8.results ⟨f_law09_TableRises.ps, f_law09_TableRises.rs, .any, none, fun _ _ => True⟩ r
abbrev f_law09_TableRises.R := Tup f_law09_TableRises.rs
noncomputable def f_law09_TableRises.s1 (p1 : List T1383.T) (p2 : List Int) (p3 : Int) (p4 : Bool) (p5 : Bool) : St := ⟨91, [(0, .cv (.one (.sl T1383 p1 .any))), (1, .cv (.one (.sl (.int .i64) p2 .any))), (2, .cv (.one (.int .i64 p3))), (7, .cv (.one (.bool p4))), (27, .cv (.one (.bool p5)))], []⟩
noncomputable def f_law09_TableRises.s2 (p1 : List T1383.T) (p2 : List Int) (p3 : Int) (p4 : List T814c.T) (p5 : Int) : St := ⟨91, [(0, .cv (.one (.sl T1383 p1 .any))), (1, .cv (.one (.sl (.int .i64) p2 .any))), (2, .cv (.one (.int .i64 p3))), (8, .cv (.one (.sl T814c p4 .any))), (9, .cv (.one (.int .i64 p5)))], []⟩
noncomputable def f_law09_TableRises.s5 (p1 : List T1383.T) (p2 : List Int) (p3 : Int) (p4 : List T814c.T) (p5 : Int) : St := ⟨91, [(0, .cv (.one (.sl T1383 p1 .any))), (1, .cv (.one (.sl (.int .i64) p2 .any))), (2, .cv (.one (.int .i64 p3))), (8, .cv (.one (.sl T814c p4 .any))), (9, .cv (.one (.int .i64 p5)))], []⟩
noncomputable def f_law09_TableRises.s3 (p1 : List T1383.T) (p2 : List Int) (p3 : Int) (p4 : List T814c.T) (p5 : Int) (p6 : Int) : St := ⟨91, [(0, .cv (.one (.sl T1383 p1 .any))), (1, .cv (.one (.sl (.int .i64) p2 .any))), (2, .cv (.one (.int .i64 p3))), (8, .cv (.one (.sl T814c p4 .any))), (9, .cv (.one (.int .i64 p5))), (12, .cv (.one (.int .i64 p6)))], []⟩
noncomputable def f_law09_TableRises.s4 (p1 : List T1383.T) (p2 : List Int) (p3 : Int) (p4 : List T814c.T) (p5 : Int) (p6 : Int) (p7 : Bool) : St := ⟨91, [(0, .cv (.one (.sl T1383 p1 .any))), (1, .cv (.one (.sl (.int .i64) p2 .any))), (2, .cv (.one (.int .i64 p3))), (8, .cv (.one (.sl T814c p4 .any))), (9, .cv (.one (.int .i64 p5))), (12, .cv (.one (.int .i64 p6))), (90, .cv (.one (.bool p7)))], []⟩
noncomputable def f_law09_TableRises.j4 (L2 : List T1383.T → List Int → Int → List T814c.T → Int → Option f_law09_TableRises.R) (L3 : List T1383.T → List Int → Int → List T814c.T → Int → Int → Option f_law09_TableRises.R) (k : Nat) (p1 : List T1383.T) (p2 : List Int) (p3 : Int) (p4 : List T814c.T) (p5 : Int) (p6 : Int) (p7 : Bool) : Option f_law09_TableRises.R :=
  if p7 = true then
  some (false, ())
else
  L3 p1 p2 p3 p4 p5 (IntKind.i64.wrap (p6 + 1))
theorem f_law09_TableRises.j4_ok (hV : EnvOk P f_law09_TableRises.V) {r : f_law09_TableRises.R} (L2 : List T1383.T → List Int → Int → List T814c.T → Int → Option f_law09_TableRises.R) (m2 : Nat) (hL2 : ∀ (p1 : List T1383.T) (p2 : List Int) (p3 : Int) (p4 : List T814c.T) (p5 : Int), L2 p1 p2 p3 p4 p5 = some r → WL P 0 (Code.l (Code.l (Code.r (Code.l (Code.r (Code.r (Code.r (Code.r f_law09_TableRises.c0)))))))) (blockW 0 (thenW P 0 (Code.r (Code.r (Code.r (Code.r (Code.r f_law09_TableRises.c0))))) (f_law09_TableRises.Q r))) m2 (f_law09_TableRises.s2 p1 p2 p3 p4 p5)) (L3 : List T1383.T → List Int → Int → List T814c.T → Int → Int → Option f_law09_TableRises.R) (m3 : Nat) (hL3 : ∀ (p1 : List T1383.T) (p2 : List Int) (p3 : Int) (p4 : List T814c.T) (p5 : Int) (p6 : Int), L3 p1 p2 p3 p4 p5 p6 = some r → WL P 0 (Code.l (Code.l (Code.r (Code.r (Code.r (Code.r (Code.l (Code.l (Code.r (Code.l (Code.l (Code.r (Code.l (Code.r (Code.r (Code.r (Code.r f_law09_TableRises.c0))))))))))))))))) (blockW 2 (blockW 1 (thenW P 0 (Code.r (Code.r (Code.l (Code.l (Code.r (Code.l (Code.r (Code.r (Code.r (Code.r f_law09_TableRises.c0)))))))))) (roundW P 0 (Code.l (Code.l (Code.r (Code.l (Code.r (Code.r (Code.r (Code.r f_law09_TableRises.c0)))))))) (blockW 0 (thenW P 0 (Code.r (Code.r (Code.r (Code.r (Code.r f_law09_TableRises.c0))))) (f_law09_TableRises.Q r))) m2)))) m3 (f_law09_TableRises.s3 p1 p2 p3 p4 p5 p6)) (k : Nat) (p1 : List T1383.T) (p2 : List Int) (p3 : Int) (p4 : List T814c.T) (p5 : Int) (p6 : Int) (p7 : Bool) (H : f_law09_TableRises.j4 L2 L3 k p1 p2 p3 p4 p5 p6 p7 = some r) : W P 0 (Code.r (Code.l (Code.l (Code.r (Code.l (Code.l (Code.r (Code.r (Code.r (Code.r (Code.l (Code.l (Code.r (Code.l (Code.l (Code.r (Code.l (Code.r (Code.r (Code.r (Code.r f_law09_TableRises.c0))))))))))))))))))))) (f_law09_TableRises.s4 p1 p2 p3 p4 p5 p6 p7) (blockW 3 (thenW P 0 (Code.r (Code.r (Code.l (Code.l (Code.r (Code.r (Code.r (Code.r (Code.l (Code.l (Code.r (Code.l (Code.l (Code.r (Code.l (Code.r (Code.r (Code.r (Code.r f_law09_TableRises.c0))))))))))))))))))) (roundW P 0 (Code.l (Code.l (Code.r (Code.r (Code.r (Code.r (Code.l (Code.l (Code.r (Code.l (Code.l (Code.r (Code.l (Code.r (Code.r (Code.r (Code.r f_law09_TableRises.c0))))))))))))))))) (blockW 2 (blockW 1 (thenW P 0 (Code.r (Code.r (Code.l (Code.l (Code.r (Code.l (Code.r (Code.r (Code.r (Code.r f_law09_TableRises.c0)))))))))) (roundW P 0 (Code.l (Code.l (Code.r (Code.l (Code.r (Code.r (Code.r (Code.r f_law09_TableRises.c0)))))))) (blockW 0 (thenW P 0 (Code.r (Code.r (Code.r (Code.r (Code.r f_law09_TableRises.c0))))) (f_law09_TableRises.Q r))) m2)))) m3))) := by
  unfold f_law09_TableRises.j4 at H
  refine D_condB (t := 90) (b := p7) (by kernel_rfl) (by kernel_rfl) (fun hb20 => ?_) (fun hb20 => ?_)
  · rw [if_pos hb20] at H
    refine D_seq (by kernel_rfl) ?_
    refine D_reg (cs := []) (τ := ⟨91, [(6, .cv (.one (.bool false)))], []⟩) hV 0 [] {live := [6], src := []} (by kernel_rfl) (by kernel_rfl) trivial ?_
    refine th_n ?_
    refine D_ret (by kernel_rfl) ?_
    refine bl_r ?_
    refine th_r ?_
    refine ro_r ?_
    refine bl_r ?_
    refine bl_r ?_
    refine th_r ?_
    refine ro_r ?_
    refine bl_r ?_
    refine th_r ?_
    exact lf_r (Eq.trans (by kernel_rfl) H)
  · rw [if_neg (by rw [hb20]; decide)] at H
    refine D_skip (by kernel_rfl) ?_
    refine bl_n ?_
    refine th_n ?_
    refine D_reg (cs := []) (τ := ⟨91, [(0, .cv (.one (.sl T1383 p1 .any))), (1, .cv (.one (.sl (.int .i64) p2 .any))), (2, .cv (.one (.int .i64 p3))), (8, .cv (.one (.sl T814c p4 .any))), (9, .cv (.one (.int .i64 p5))), (12, .cv (.one (.int .i64 (IntKind.i64.wrap (p6 + 1)))))], []⟩) hV 0 [] {live := [0, 1, 2, 8, 9, 12], src := []} (by kernel_rfl) (by kernel_rfl) trivial ?_
    refine ro_n (WL_tell (τ := f_law09_TableRises.s3 p1 p2 p3 p4 p5 (IntKind.i64.wrap (p6 + 1))) {fz := [], gr := 0, ad := [], live := [0, 1, 2, 8, 9, 12], src := []} (by kernel_rfl) (by kernel_rfl) ?_)
    exact hL3 p1 p2 p3 p4 p5 (IntKind.i64.wrap (p6 + 1)) H
noncomputable def f_law09_TableRises.b3 (L2 : List T1383.T → List Int → Int → List T814c.T → Int → Option f_law09_TableRises.R) (L3 : List T1383.T → List Int → Int → List T814c.T → Int → Int → Option f_law09_TableRises.R) (k : Nat) (p1 : List T1383.T) (p2 : List Int) (p3 : Int) (p4 : List T814c.T) (p5 : Int) (p6 : Int) : Option f_law09_TableRises.R :=
  if (decide (p6 < (p4.length : Int))) = true then
  if 0 ≤ p6 then
    if p6 < (p4.length : Int) then
      if ((((att T814c p4 p6).2).length : Int) == (0 : Int)) = true then
        f_law09_TableRises.j4 L2 L3 k p1 p2 p3 p4 p5 p6 true
      else
        if (decide (p6 > (0 : Int))) = true then
          if 0 ≤ (IntKind.i64.wrap (p6 - 1)) then
            if (IntKind.i64.wrap (p6 - 1)) < (p4.length : Int) then
              f_law09_TableRises.j4 L2 L3 k p1 p2 p3 p4 p5 p6 (decide (((att T814c p4 p6).1) ≤ ((att T814c p4 (IntKind.i64.wrap (p6 - 1))).1)))
            else none
          else none
        else
          f_law09_TableRises.j4 L2 L3 k p1 p2 p3 p4 p5 p6 false
    else none
  else none
else
  L2 p1 p2 p3 p4 (IntKind.i64.wrap (p5 + 1))
theorem f_law09_TableRises.b3_ok (hV : EnvOk P f_law09_TableRises.V) {r : f_law09_TableRises.R} (L2 : List T1383.T → List Int → Int → List T814c.T → Int → Option f_law09_TableRises.R) (m2 : Nat) (hL2 : ∀ (p1 : List T1383.T) (p2 : List Int) (p3 : Int) (p4 : List T814c.T) (p5 : Int), L2 p1 p2 p3 p4 p5 = some r → WL P 0 (Code.l (Code.l (Code.r (Code.l (Code.r (Code.r (Code.r (Code.r f_law09_TableRises.c0)))))))) (blockW 0 (thenW P 0 (Code.r (Code.r (Code.r (Code.r (Code.r f_law09_TableRises.c0))))) (f_law09_TableRises.Q r))) m2 (f_law09_TableRises.s2 p1 p2 p3 p4 p5)) (L3 : List T1383.T → List Int → Int → List T814c.T → Int → Int → Option f_law09_TableRises.R) (m3 : Nat) (hL3 : ∀ (p1 : List T1383.T) (p2 : List Int) (p3 : Int) (p4 : List T814c.T) (p5 : Int) (p6 : Int), L3 p1 p2 p3 p4 p5 p6 = some r → WL P 0 (Code.l (Code.l (Code.r (Code.r (Code.r (Code.r (Code.l (Code.l (Code.r (Code.l (Code.l (Code.r (Code.l (Code.r (Code.r (Code.r (Code.r f_law09_TableRises.c0))))))))))))))))) (blockW 2 (blockW 1 (thenW P 0 (Code.r (Code.r (Code.l (Code.l (Code.r (Code.l (Code.r (Code.r (Code.r (Code.r f_law09_TableRises.c0)))))))))) (roundW P 0 (Code.l (Code.l (Code.r (Code.l (Code.r (Code.r (Code.r (Code.r f_law09_TableRises.c0)))))))) (blockW 0 (thenW P 0 (Code.r (Code.r (Code.r (Code.r (Code.r f_law09_TableRises.c0))))) (f_law09_TableRises.Q r))) m2)))) m3 (f_law09_TableRises.s3 p1 p2 p3 p4 p5 p6)) (k : Nat) (p1 : List T1383.T) (p2 : List Int) (p3 : Int) (p4 : List T814c.T) (p5 : Int) (p6 : Int) (H : f_law09_TableRises.b3 L2 L3 k p1 p2 p3 p4 p5 p6 = some r) : W P 0 (Code.l (Code.l (Code.r (Code.r (Code.r (Code.r (Code.l (Code.l (Code.r (Code.l (Code.l (Code.r (Code.l (Code.r (Code.r (Code.r (Code.r f_law09_TableRises.c0))))))))))))))))) (f_law09_TableRises.s3 p1 p2 p3 p4 p5 p6) (roundW P 0 (Code.l (Code.l (Code.r (Code.r (Code.r (Code.r (Code.l (Code.l (Code.r (Code.l (Code.l (Code.r (Code.l (Code.r (Code.r (Code.r (Code.r f_law09_TableRises.c0))))))))))))))))) (blockW 2 (blockW 1 (thenW P 0 (Code.r (Code.r (Code.l (Code.l (Code.r (Code.l (Code.r (Code.r (Code.r (Code.r f_law09_TableRises.c0)))))))))) (roundW P 0 (Code.l (Code.l (Code.r (Code.l (Code.r (Code.r (Code.r (Code.r f_law09_TableRises.c0)))))))) (blockW 0 (thenW P 0 (Code.r (Code.r (Code.r (Code.r (Code.r f_law09_TableRises.c0))))) (f_law09_TableRises.Q r))) m2)))) m3) := by
  unfold f_law09_TableRises.b3 at H
  refine D_seq (by kernel_rfl) ?_
  refine D_seq (by kernel_rfl) ?_
  refine D_reg (cs := []) (τ := ⟨91, [(0, .cv (.one (.sl T1383 p1 .any))), (1, .cv (.one (.sl (.int .i64) p2 .any))), (2, .cv (.one (.int .i64 p3))), (8, .cv (.one (.sl T814c p4 .any))), (9, .cv (.one (.int .i64 p5))), (12, .cv (.one (.int .i64 p6))), (63, .cv (.one (.bool (decide (p6 < (p4.length : Int))))))], []⟩) hV 0 [] {live := [0, 1, 2, 8, 9, 12, 63], src := []} (by kernel_rfl) (by kernel_rfl) trivial ?_
  refine th_n ?_
  refine D_condB (t := 63) (b := (decide (p6 < (p4.length : Int)))) (by kernel_rfl) (by kernel_rfl) (fun hb16 => ?_) (fun hb16 => ?_)
  · rw [if_pos hb16] at H
    refine D_skip (by kernel_rfl) ?_
    refine th_n ?_
    refine D_seq (by kernel_rfl) ?_
    refine D_block (id := 3) (by kernel_rfl) ?_
    refine D_seq (by kernel_rfl) ?_
    obtain ⟨n17, H⟩ := of_if H
    obtain ⟨n18, H⟩ := of_if H
    rcases of_ite H with ⟨hb19, H⟩ | ⟨hb19, H⟩
    · refine D_reg (cs := [0 ≤ p6, p6 < (p4.length : Int), (((((att T814c p4 p6).2).length : Int) == (0 : Int))) = true]) (τ := ⟨91, [(0, .cv (.one (.sl T1383 p1 .any))), (1, .cv (.one (.sl (.int .i64) p2 .any))), (2, .cv (.one (.int .i64 p3))), (8, .cv (.one (.sl T814c p4 .any))), (9, .cv (.one (.int .i64 p5))), (12, .cv (.one (.int .i64 p6))), (90, .cv (.one (.bool true)))], []⟩) hV 0 [(6, {bv := some true})] {live := [0, 1, 2, 8, 9, 12, 90], src := []} (by kernel_rfl) (by kernel_rfl) ⟨n17, n18, hb19, trivial⟩ ?_
      refine th_n ?_
      refine W_tell (τ := f_law09_TableRises.s4 p1 p2 p3 p4 p5 p6 true) {fz := [], gr := 0, ad := [], live := [0, 1, 2, 8, 9, 12, 90], src := []} (by kernel_rfl) (by kernel_rfl) ?_
      exact f_law09_TableRises.j4_ok hV L2 m2 hL2 L3 m3 hL3 k p1 p2 p3 p4 p5 p6 true H
    · rcases of_ite H with ⟨hb21, H⟩ | ⟨hb21, H⟩
      · obtain ⟨n22, H⟩ := of_if H
        obtain ⟨n23, H⟩ := of_if H
        refine D_reg (cs := [0 ≤ p6, p6 < (p4.length : Int), (((((att T814c p4 p6).2).length : Int) == (0 : Int))) = false, ((decide (p6 > (0 : Int)))) = true, 0 ≤ p6, p6 < (p4.length : Int), 0 ≤ (IntKind.i64.wrap (p6 - 1)), (IntKind.i64.wrap (p6 - 1)) < (p4.length : Int)]) (τ := ⟨91, [(0, .cv (.one (.sl T1383 p1 .any))), (1, .cv (.one (.sl (.int .i64) p2 .any))), (2, .cv (.one (.int .i64 p3))), (8, .cv (.one (.sl T814c p4 .any))), (9, .cv (.one (.int .i64 p5))), (12, .cv (.one (.int .i64 p6))), (90, .cv (.one (.bool (decide (((att T814c p4 p6).1) ≤ ((att T814c p4 (IntKind.i64.wrap (p6 - 1))).1))))))], []⟩) hV 0 [(6, {bv := some false}), (9, {bv := some true})] {live := [0, 1, 2, 8, 9, 12, 90], src := []} (by kernel_rfl) (by kernel_rfl) ⟨n17, n18, hb19, hb21, n17, n18, n22, n23, trivial⟩ ?_
        refine th_n ?_
        refine W_tell (τ := f_law09_TableRises.s4 p1 p2 p3 p4 p5 p6 (decide (((att T814c p4 p6).1) ≤ ((att T814c p4 (IntKind.i64.wrap (p6 - 1))).1)))) {fz := [], gr := 0, ad := [], live := [0, 1, 2, 8, 9, 12, 90], src := []} (by kernel_rfl) (by kernel_rfl) ?_
        exact f_law09_TableRises.j4_ok hV L2 m2 hL2 L3 m3 hL3 k p1 p2 p3 p4 p5 p6 (decide (((att T814c p4 p6).1) ≤ ((att T814c p4 (IntKind.i64.wrap (p6 - 1))).1))) H
      · refine D_reg (cs := [0 ≤ p6, p6 < (p4.length : Int), (((((att T814c p4 p6).2).length : Int) == (0 : Int))) = false, ((decide (p6 > (0 : Int)))) = false]) (τ := ⟨91, [(0, .cv (.one (.sl T1383 p1 .any))), (1, .cv (.one (.sl (.int .i64) p2 .any))), (2, .cv (.one (.int .i64 p3))), (8, .cv (.one (.sl T814c p4 .any))), (9, .cv (.one (.int .i64 p5))), (12, .cv (.one (.int .i64 p6))), (90, .cv (.one (.bool false)))], []⟩) hV 0 [(6, {bv := some false}), (9, {bv := some false})] {live := [0, 1, 2, 8, 9, 12, 90], src := []} (by kernel_rfl) (by kernel_rfl) ⟨n17, n18, hb19, hb21, trivial⟩ ?_
        refine th_n ?_
        refine W_tell (τ := f_law09_TableRises.s4 p1 p2 p3 p4 p5 p6 false) {fz := [], gr := 0, ad := [], live := [0, 1, 2, 8, 9, 12, 90], src := []} (by kernel_rfl) (by kernel_rfl) ?_
        exact f_law09_TableRises.j4_ok hV L2 m2 hL2 L3 m3 hL3 k p1 p2 p3 p4 p5 p6 false H
  · rw [if_neg (by rw [hb16]; decide)] at H
    refine D_exit (id := 2) (by kernel_rfl) ?_
    refine th_x ?_
    refine ro_x ?_
    refine bl_h ?_
    refine bl_n ?_
    refine th_n ?_
    refine D_reg (cs := []) (τ := ⟨91, [(0, .cv (.one (.sl T1383 p1 .any))), (1, .cv (.one (.sl (.int .i64) p2 .any))), (2, .cv (.one (.int .i64 p3))), (8, .cv (.one (.sl T814c p4 .any))), (9, .cv (.one (.int .i64 (IntKind.i64.wrap (p5 + 1)))))], []⟩) hV 0 [] {live := [0, 1, 2, 8, 9], src := []} (by kernel_rfl) (by kernel_rfl) trivial ?_
    refine ro_n (WL_tell (τ := f_law09_TableRises.s2 p1 p2 p3 p4 (IntKind.i64.wrap (p5 + 1))) {fz := [], gr := 0, ad := [], live := [0, 1, 2, 8, 9], src := []} (by kernel_rfl) (by kernel_rfl) ?_)
    exact hL2 p1 p2 p3 p4 (IntKind.i64.wrap (p5 + 1)) H
noncomputable def f_law09_TableRises.l3 (L2 : List T1383.T → List Int → Int → List T814c.T → Int → Option f_law09_TableRises.R) (k : Nat) : Nat → List T1383.T → List Int → Int → List T814c.T → Int → Int → Option f_law09_TableRises.R
  | 0, _, _, _, _, _, _ => none
  | m + 1, p1, p2, p3, p4, p5, p6 => f_law09_TableRises.b3 L2 (f_law09_TableRises.l3 L2 k m) k p1 p2 p3 p4 p5 p6
theorem f_law09_TableRises.l3_ok (hV : EnvOk P f_law09_TableRises.V) {r : f_law09_TableRises.R} (L2 : List T1383.T → List Int → Int → List T814c.T → Int → Option f_law09_TableRises.R) (m2 : Nat) (hL2 : ∀ (p1 : List T1383.T) (p2 : List Int) (p3 : Int) (p4 : List T814c.T) (p5 : Int), L2 p1 p2 p3 p4 p5 = some r → WL P 0 (Code.l (Code.l (Code.r (Code.l (Code.r (Code.r (Code.r (Code.r f_law09_TableRises.c0)))))))) (blockW 0 (thenW P 0 (Code.r (Code.r (Code.r (Code.r (Code.r f_law09_TableRises.c0))))) (f_law09_TableRises.Q r))) m2 (f_law09_TableRises.s2 p1 p2 p3 p4 p5)) (k : Nat) : ∀ (m3 : Nat) (p1 : List T1383.T) (p2 : List Int) (p3 : Int) (p4 : List T814c.T) (p5 : Int) (p6 : Int), f_law09_TableRises.l3 L2 k m3 p1 p2 p3 p4 p5 p6 = some r → WL P 0 (Code.l (Code.l (Code.r (Code.r (Code.r (Code.r (Code.l (Code.l (Code.r (Code.l (Code.l (Code.r (Code.l (Code.r (Code.r (Code.r (Code.r f_law09_TableRises.c0))))))))))))))))) (blockW 2 (blockW 1 (thenW P 0 (Code.r (Code.r (Code.l (Code.l (Code.r (Code.l (Code.r (Code.r (Code.r (Code.r f_law09_TableRises.c0)))))))))) (roundW P 0 (Code.l (Code.l (Code.r (Code.l (Code.r (Code.r (Code.r (Code.r f_law09_TableRises.c0)))))))) (blockW 0 (thenW P 0 (Code.r (Code.r (Code.r (Code.r (Code.r f_law09_TableRises.c0))))) (f_law09_TableRises.Q r))) m2)))) m3 (f_law09_TableRises.s3 p1 p2 p3 p4 p5 p6)
  | 0, _, _, _, _, _, _, H => by cases H
  | m3 + 1, p1, p2, p3, p4, p5, p6, H => WL_succ (f_law09_TableRises.b3_ok hV L2 m2 hL2 (f_law09_TableRises.l3 L2 k m3) m3 (fun p1 p2 p3 p4 p5 p6 H => f_law09_TableRises.l3_ok hV L2 m2 hL2 k m3 p1 p2 p3 p4 p5 p6 H) k p1 p2 p3 p4 p5 p6 H)
noncomputable def f_law09_TableRises.j5 (L2 : List T1383.T → List Int → Int → List T814c.T → Int → Option f_law09_TableRises.R) (k : Nat) (p1 : List T1383.T) (p2 : List Int) (p3 : Int) (p4 : List T814c.T) (p5 : Int) : Option f_law09_TableRises.R :=
  f_law09_TableRises.l3 L2 k k p1 p2 p3 p4 p5 0
theorem f_law09_TableRises.j5_ok (hV : EnvOk P f_law09_TableRises.V) {r : f_law09_TableRises.R} (L2 : List T1383.T → List Int → Int → List T814c.T → Int → Option f_law09_TableRises.R) (m2 : Nat) (hL2 : ∀ (p1 : List T1383.T) (p2 : List Int) (p3 : Int) (p4 : List T814c.T) (p5 : Int), L2 p1 p2 p3 p4 p5 = some r → WL P 0 (Code.l (Code.l (Code.r (Code.l (Code.r (Code.r (Code.r (Code.r f_law09_TableRises.c0)))))))) (blockW 0 (thenW P 0 (Code.r (Code.r (Code.r (Code.r (Code.r f_law09_TableRises.c0))))) (f_law09_TableRises.Q r))) m2 (f_law09_TableRises.s2 p1 p2 p3 p4 p5)) (k : Nat) (p1 : List T1383.T) (p2 : List Int) (p3 : Int) (p4 : List T814c.T) (p5 : Int) (H : f_law09_TableRises.j5 L2 k p1 p2 p3 p4 p5 = some r) : W P 0 (Code.r (Code.r (Code.r (Code.l (Code.l (Code.r (Code.l (Code.l (Code.r (Code.l (Code.r (Code.r (Code.r (Code.r f_law09_TableRises.c0)))))))))))))) (f_law09_TableRises.s5 p1 p2 p3 p4 p5) (blockW 1 (thenW P 0 (Code.r (Code.r (Code.l (Code.l (Code.r (Code.l (Code.r (Code.r (Code.r (Code.r f_law09_TableRises.c0)))))))))) (roundW P 0 (Code.l (Code.l (Code.r (Code.l (Code.r (Code.r (Code.r (Code.r f_law09_TableRises.c0)))))))) (blockW 0 (thenW P 0 (Code.r (Code.r (Code.r (Code.r (Code.r f_law09_TableRises.c0))))) (f_law09_TableRises.Q r))) m2))) := by
  unfold f_law09_TableRises.j5 at H
  refine D_seq (by kernel_rfl) ?_
  refine D_reg (cs := []) (τ := ⟨91, [(0, .cv (.one (.sl T1383 p1 .any))), (1, .cv (.one (.sl (.int .i64) p2 .any))), (2, .cv (.one (.int .i64 p3))), (8, .cv (.one (.sl T814c p4 .any))), (9, .cv (.one (.int .i64 p5))), (12, .cv (.one (.int .i64 0)))], []⟩) hV 0 [] {live := [0, 1, 2, 8, 9, 12], src := []} (by kernel_rfl) (by kernel_rfl) trivial ?_
  refine th_n ?_
  refine D_block (id := 2) (by kernel_rfl) ?_
  refine W_tell (τ := f_law09_TableRises.s3 p1 p2 p3 p4 p5 0) {fz := [], gr := 0, ad := [], live := [0, 1, 2, 8, 9, 12], src := []} (by kernel_rfl) (by kernel_rfl) ?_
  exact D_loop (by kernel_rfl) k (f_law09_TableRises.l3_ok hV L2 m2 hL2 k k p1 p2 p3 p4 p5 0 H)
noncomputable def f_law09_TableRises.b2 (L2 : List T1383.T → List Int → Int → List T814c.T → Int → Option f_law09_TableRises.R) (k : Nat) (p1 : List T1383.T) (p2 : List Int) (p3 : Int) (p4 : List T814c.T) (p5 : Int) : Option f_law09_TableRises.R :=
  if (decide (p5 < (p1.length : Int))) = true then
  if 0 ≤ p5 then
    if p5 < (p2.length : Int) then
      if p5 < (p1.length : Int) then
        (f_table_Put.f k p4 (att (.int .i64) p2 p5) (att T1383 p1 p5) p3).bind fun y6 =>
          if ((Int.tmod p5 5) == (4 : Int)) = true then
            if 0 ≤ (IntKind.i64.wrap (p5 - 1)) then
              if (IntKind.i64.wrap (p5 - 1)) < (p2.length : Int) then
                (f_table_Drop.f k y6.1 (att (.int .i64) p2 (IntKind.i64.wrap (p5 - 1)))).bind fun y12 =>
                  f_law09_TableRises.j5 L2 k p1 p2 p3 y12.1 p5
              else none
            else none
          else
            f_law09_TableRises.j5 L2 k p1 p2 p3 y6.1 p5
      else none
    else none
  else none
else
  some (true, ())
theorem f_law09_TableRises.b2_ok (hV : EnvOk P f_law09_TableRises.V) {r : f_law09_TableRises.R} (L2 : List T1383.T → List Int → Int → List T814c.T → Int → Option f_law09_TableRises.R) (m2 : Nat) (hL2 : ∀ (p1 : List T1383.T) (p2 : List Int) (p3 : Int) (p4 : List T814c.T) (p5 : Int), L2 p1 p2 p3 p4 p5 = some r → WL P 0 (Code.l (Code.l (Code.r (Code.l (Code.r (Code.r (Code.r (Code.r f_law09_TableRises.c0)))))))) (blockW 0 (thenW P 0 (Code.r (Code.r (Code.r (Code.r (Code.r f_law09_TableRises.c0))))) (f_law09_TableRises.Q r))) m2 (f_law09_TableRises.s2 p1 p2 p3 p4 p5)) (k : Nat) (p1 : List T1383.T) (p2 : List Int) (p3 : Int) (p4 : List T814c.T) (p5 : Int) (H : f_law09_TableRises.b2 L2 k p1 p2 p3 p4 p5 = some r) : W P 0 (Code.l (Code.l (Code.r (Code.l (Code.r (Code.r (Code.r (Code.r f_law09_TableRises.c0)))))))) (f_law09_TableRises.s2 p1 p2 p3 p4 p5) (roundW P 0 (Code.l (Code.l (Code.r (Code.l (Code.r (Code.r (Code.r (Code.r f_law09_TableRises.c0)))))))) (blockW 0 (thenW P 0 (Code.r (Code.r (Code.r (Code.r (Code.r f_law09_TableRises.c0))))) (f_law09_TableRises.Q r))) m2) := by
  unfold f_law09_TableRises.b2 at H
  refine D_seq (by kernel_rfl) ?_
  refine D_seq (by kernel_rfl) ?_
  refine D_reg (cs := []) (τ := ⟨91, [(0, .cv (.one (.sl T1383 p1 .any))), (1, .cv (.one (.sl (.int .i64) p2 .any))), (2, .cv (.one (.int .i64 p3))), (8, .cv (.one (.sl T814c p4 .any))), (9, .cv (.one (.int .i64 p5))), (32, .cv (.one (.bool (decide (p5 < (p1.length : Int))))))], []⟩) hV 0 [] {live := [0, 1, 2, 8, 9, 32], src := []} (by kernel_rfl) (by kernel_rfl) trivial ?_
  refine th_n ?_
  refine D_condB (t := 32) (b := (decide (p5 < (p1.length : Int)))) (by kernel_rfl) (by kernel_rfl) (fun hb5 => ?_) (fun hb5 => ?_)
  · rw [if_pos hb5] at H
    refine D_skip (by kernel_rfl) ?_
    refine th_n ?_
    refine D_seq (by kernel_rfl) ?_
    refine D_block (id := 1) (by kernel_rfl) ?_
    refine D_seq (by kernel_rfl) ?_
    obtain ⟨n7, H⟩ := of_if H
    obtain ⟨n8, H⟩ := of_if H
    obtain ⟨n9, H⟩ := of_if H
    obtain ⟨y6, e10, H⟩ := of_bind H
    refine D_reg (cs := [0 ≤ p5, p5 < (p2.length : Int), 0 ≤ p5, p5 < (p1.length : Int), f_table_Put.S.rel (p4, (att (.int .i64) p2 p5), (att T1383 p1 p5), p3, ()) y6]) (τ := ⟨91, [(0, .cv (.one (.sl T1383 p1 .any))), (1, .cv (.one (.sl (.int .i64) p2 .any))), (2, .cv (.one (.int .i64 p3))), (9, .cv (.one (.int .i64 p5))), (10, .cv (.one (.sl T814c y6.1 .any)))], []⟩) hV 0 [(10, {res := some ⟨f_table_Put.S.rs, y6⟩})] {live := [0, 1, 2, 9, 10], src := []} (by kernel_rfl) (by kernel_rfl) ⟨n7, n8, n7, n9, ⟨k, e10⟩, trivial⟩ ?_
    refine th_n ?_
    refine D_seq (by kernel_rfl) ?_
    refine D_reg (cs := []) (τ := ⟨91, [(0, .cv (.one (.sl T1383 p1 .any))), (1, .cv (.one (.sl (.int .i64) p2 .any))), (2, .cv (.one (.int .i64 p3))), (8, .cv (.one (.sl T814c y6.1 .any))), (9, .cv (.one (.int .i64 p5)))], []⟩) hV 0 [] {live := [0, 1, 2, 8, 9], src := []} (by kernel_rfl) (by kernel_rfl) trivial ?_
    refine th_n ?_
    refine D_seq (by kernel_rfl) ?_
    refine D_seq (by kernel_rfl) ?_
    refine D_reg (cs := [(5 : Int) ≠ 0]) (τ := ⟨91, [(0, .cv (.one (.sl T1383 p1 .any))), (1, .cv (.one (.sl (.int .i64) p2 .any))), (2, .cv (.one (.int .i64 p3))), (8, .cv (.one (.sl T814c y6.1 .any))), (9, .cv (.one (.int .i64 p5))), (52, .cv (.one (.bool ((Int.tmod p5 5) == (4 : Int)))))], []⟩) hV 0 [] {live := [0, 1, 2, 8, 9, 52], src := []} (by kernel_rfl) (by kernel_rfl) ⟨(by decide), trivial⟩ ?_
    refine th_n ?_
    refine D_condB (t := 52) (b := ((Int.tmod p5 5) == (4 : Int))) (by kernel_rfl) (by kernel_rfl) (fun hb11 => ?_) (fun hb11 => ?_)
    · rw [if_pos hb11] at H
      obtain ⟨n13, H⟩ := of_if H
      obtain ⟨n14, H⟩ := of_if H
      obtain ⟨y12, e15, H⟩ := of_bind H
      refine D_reg (cs := [0 ≤ (IntKind.i64.wrap (p5 - 1)), (IntKind.i64.wrap (p5 - 1)) < (p2.length : Int), f_table_Drop.S.rel (y6.1, (att (.int .i64) p2 (IntKind.i64.wrap (p5 - 1))), ()) y12]) (τ := ⟨91, [(0, .cv (.one (.sl T1383 p1 .any))), (1, .cv (.one (.sl (.int .i64) p2 .any))), (2, .cv (.one (.int .i64 p3))), (8, .cv (.one (.sl T814c y12.1 .any))), (9, .cv (.one (.int .i64 p5)))], []⟩) hV 0 [(6, {res := some ⟨f_table_Drop.S.rs, y12⟩})] {live := [0, 1, 2, 8, 9], src := []} (by kernel_rfl) (by kernel_rfl) ⟨n13, n14, ⟨k, e15⟩, trivial⟩ ?_
      refine th_n ?_
      refine W_tell (τ := f_law09_TableRises.s5 p1 p2 p3 y12.1 p5) {fz := [], gr := 0, ad := [], live := [0, 1, 2, 8, 9], src := []} (by kernel_rfl) (by kernel_rfl) ?_
      exact f_law09_TableRises.j5_ok hV L2 m2 hL2 k p1 p2 p3 y12.1 p5 H
    · rw [if_neg (by rw [hb11]; decide)] at H
      refine D_skip (by kernel_rfl) ?_
      refine th_n ?_
      refine W_tell (τ := f_law09_TableRises.s5 p1 p2 p3 y6.1 p5) {fz := [], gr := 0, ad := [], live := [0, 1, 2, 8, 9], src := []} (by kernel_rfl) (by kernel_rfl) ?_
      exact f_law09_TableRises.j5_ok hV L2 m2 hL2 k p1 p2 p3 y6.1 p5 H
  · rw [if_neg (by rw [hb5]; decide)] at H
    refine D_exit (id := 0) (by kernel_rfl) ?_
    refine th_x ?_
    refine ro_x ?_
    refine bl_h ?_
    refine th_n ?_
    refine D_seq (by kernel_rfl) ?_
    refine D_reg (cs := []) (τ := ⟨91, [(6, .cv (.one (.bool true)))], []⟩) hV 0 [] {live := [6], src := []} (by kernel_rfl) (by kernel_rfl) trivial ?_
    refine th_n ?_
    refine D_ret (by kernel_rfl) ?_
    exact lf_r (Eq.trans (by kernel_rfl) H)
noncomputable def f_law09_TableRises.l2 (k : Nat) : Nat → List T1383.T → List Int → Int → List T814c.T → Int → Option f_law09_TableRises.R
  | 0, _, _, _, _, _ => none
  | m + 1, p1, p2, p3, p4, p5 => f_law09_TableRises.b2 (f_law09_TableRises.l2 k m) k p1 p2 p3 p4 p5
theorem f_law09_TableRises.l2_ok (hV : EnvOk P f_law09_TableRises.V) {r : f_law09_TableRises.R} (k : Nat) : ∀ (m2 : Nat) (p1 : List T1383.T) (p2 : List Int) (p3 : Int) (p4 : List T814c.T) (p5 : Int), f_law09_TableRises.l2 k m2 p1 p2 p3 p4 p5 = some r → WL P 0 (Code.l (Code.l (Code.r (Code.l (Code.r (Code.r (Code.r (Code.r f_law09_TableRises.c0)))))))) (blockW 0 (thenW P 0 (Code.r (Code.r (Code.r (Code.r (Code.r f_law09_TableRises.c0))))) (f_law09_TableRises.Q r))) m2 (f_law09_TableRises.s2 p1 p2 p3 p4 p5)
  | 0, _, _, _, _, _, H => by cases H
  | m2 + 1, p1, p2, p3, p4, p5, H => WL_succ (f_law09_TableRises.b2_ok hV (f_law09_TableRises.l2 k m2) m2 (fun p1 p2 p3 p4 p5 H => f_law09_TableRises.l2_ok hV k m2 p1 p2 p3 p4 p5 H) k p1 p2 p3 p4 p5 H)
noncomputable def f_law09_TableRises.j1 (k : Nat) (p1 : List T1383.T) (p2 : List Int) (p3 : Int) (p4 : Bool) (p5 : Bool) : Option f_law09_TableRises.R :=
  if p5 = true then
  some (p4, ())
else
  f_law09_TableRises.l2 k k p1 p2 p3 [] 0
theorem f_law09_TableRises.j1_ok (hV : EnvOk P f_law09_TableRises.V) {r : f_law09_TableRises.R} (k : Nat) (p1 : List T1383.T) (p2 : List Int) (p3 : Int) (p4 : Bool) (p5 : Bool) (H : f_law09_TableRises.j1 k p1 p2 p3 p4 p5 = some r) : W P 0 (Code.r (Code.l (Code.r (Code.r f_law09_TableRises.c0)))) (f_law09_TableRises.s1 p1 p2 p3 p4 p5) (thenW P 0 (Code.r (Code.r (Code.r f_law09_TableRises.c0))) (f_law09_TableRises.Q r)) := by
  unfold f_law09_TableRises.j1 at H
  refine D_condB (t := 27) (b := p5) (by kernel_rfl) (by kernel_rfl) (fun hb4 => ?_) (fun hb4 => ?_)
  · rw [if_pos hb4] at H
    refine D_seq (by kernel_rfl) ?_
    refine D_reg (cs := []) (τ := ⟨91, [(6, .cv (.one (.bool p4)))], []⟩) hV 0 [] {live := [6], src := []} (by kernel_rfl) (by kernel_rfl) trivial ?_
    refine th_n ?_
    refine D_ret (by kernel_rfl) ?_
    refine th_r ?_
    exact lf_r (Eq.trans (by kernel_rfl) H)
  · rw [if_neg (by rw [hb4]; decide)] at H
    refine D_skip (by kernel_rfl) ?_
    refine th_n ?_
    refine D_seq (by kernel_rfl) ?_
    refine D_reg (cs := []) (τ := ⟨91, [(0, .cv (.one (.sl T1383 p1 .any))), (1, .cv (.one (.sl (.int .i64) p2 .any))), (2, .cv (.one (.int .i64 p3))), (8, .cv (.one (.nils)))], []⟩) hV 0 [] {live := [0, 1, 2, 8], src := []} (by kernel_rfl) (by kernel_rfl) trivial ?_
    refine th_n ?_
    refine D_seq (by kernel_rfl) ?_
    refine D_seq (by kernel_rfl) ?_
    refine D_reg (cs := []) (τ := ⟨91, [(0, .cv (.one (.sl T1383 p1 .any))), (1, .cv (.one (.sl (.int .i64) p2 .any))), (2, .cv (.one (.int .i64 p3))), (8, .cv (.one (.nils))), (9, .cv (.one (.int .i64 0)))], []⟩) hV 0 [] {live := [0, 1, 2, 8, 9], src := []} (by kernel_rfl) (by kernel_rfl) trivial ?_
    refine th_n ?_
    refine D_block (id := 0) (by kernel_rfl) ?_
    refine W_tell (τ := f_law09_TableRises.s2 p1 p2 p3 [] 0) {fz := [], gr := 0, ad := [.tmp 8 (.sl T814c)], live := [0, 1, 2, 8, 9], src := []} (by kernel_rfl) (by kernel_rfl) ?_
    exact D_loop (by kernel_rfl) k (f_law09_TableRises.l2_ok hV k k p1 p2 p3 [] 0 H)
noncomputable def f_law09_TableRises.f (k : Nat) (a1 : List T1383.T) (a2 : List Int) (a3 : Int) : Option f_law09_TableRises.R :=
  (f_law09_awake.f k).bind fun y1 =>
    if (!y1.1) = true then
      f_law09_TableRises.j1 k a1 a2 a3 y1.1 true
    else
      if (decide ((a1.length : Int) > (60 : Int))) = true then
        f_law09_TableRises.j1 k a1 a2 a3 y1.1 true
      else
        f_law09_TableRises.j1 k a1 a2 a3 y1.1 (decide ((a2.length : Int) < (a1.length : Int)))
noncomputable def f_law09_TableRises.S : Spec := ⟨f_law09_TableRises.ps, f_law09_TableRises.rs, .any, none, fun x r => ∃ k, f_law09_TableRises.f k x.1 x.2.1 x.2.2.1 = some r⟩
theorem f_law09_TableRises.f_ok (hV : EnvOk P f_law09_TableRises.V) {r : f_law09_TableRises.R} (k : Nat) (a1 : List T1383.T) (a2 : List Int) (a3 : Int) (H : f_law09_TableRises.f k a1 a2 a3 = some r) : W P 0 f_law09_TableRises.c0 (⟨91, [(0, .cv (.one (.sl T1383 a1 .any))), (1, .cv (.one (.sl (.int .i64) a2 .any))), (2, .cv (.one (.int .i64 a3)))], []⟩) (f_law09_TableRises.Q r) := by
  unfold f_law09_TableRises.f at H
  refine D_seq (by kernel_rfl) ?_
  refine D_reg (cs := []) (τ := ⟨91, [(0, .cv (.one (.sl T1383 a1 .any))), (1, .cv (.one (.sl (.int .i64) a2 .any))), (2, .cv (.one (.int .i64 a3)))], []⟩) hV 0 [] {live := [0, 1, 2], src := []} (by kernel_rfl) (by kernel_rfl) trivial ?_
  refine th_n ?_
  refine D_seq (by kernel_rfl) ?_
  obtain ⟨y1, e2, H⟩ := of_bind H
  refine D_reg (cs := [f_law09_awake.S.rel (()) y1]) (τ := ⟨91, [(0, .cv (.one (.sl T1383 a1 .any))), (1, .cv (.one (.sl (.int .i64) a2 .any))), (2, .cv (.one (.int .i64 a3))), (7, .cv (.one (.bool y1.1)))], []⟩) hV 0 [(0, {res := some ⟨f_law09_awake.S.rs, y1⟩})] {live := [0, 1, 2, 7], src := []} (by kernel_rfl) (by kernel_rfl) ⟨⟨k, e2⟩, trivial⟩ ?_
  refine th_n ?_
  refine D_seq (by kernel_rfl) ?_
  refine D_seq (by kernel_rfl) ?_
  rcases of_ite H with ⟨hb3, H⟩ | ⟨hb3, H⟩
  · refine D_reg (cs := [((!y1.1)) = true]) (τ := ⟨91, [(0, .cv (.one (.sl T1383 a1 .any))), (1, .cv (.one (.sl (.int .i64) a2 .any))), (2, .cv (.one (.int .i64 a3))), (7, .cv (.one (.bool y1.1))), (27, .cv (.one (.bool true)))], []⟩) hV 0 [(1, {bv := some true})] {live := [0, 1, 2, 7, 27], src := []} (by kernel_rfl) (by kernel_rfl) ⟨hb3, trivial⟩ ?_
    refine th_n ?_
    refine W_tell (τ := f_law09_TableRises.s1 a1 a2 a3 y1.1 true) {fz := [], gr := 0, ad := [], live := [0, 1, 2, 7, 27], src := []} (by kernel_rfl) (by kernel_rfl) ?_
    exact f_law09_TableRises.j1_ok hV k a1 a2 a3 y1.1 true H
  · rcases of_ite H with ⟨hb24, H⟩ | ⟨hb24, H⟩
    · refine D_reg (cs := [((!y1.1)) = false, ((decide ((a1.length : Int) > (60 : Int)))) = true]) (τ := ⟨91, [(0, .cv (.one (.sl T1383 a1 .any))), (1, .cv (.one (.sl (.int .i64) a2 .any))), (2, .cv (.one (.int .i64 a3))), (7, .cv (.one (.bool y1.1))), (27, .cv (.one (.bool true)))], []⟩) hV 0 [(1, {bv := some false}), (6, {bv := some true})] {live := [0, 1, 2, 7, 27], src := []} (by kernel_rfl) (by kernel_rfl) ⟨hb3, hb24, trivial⟩ ?_
      refine th_n ?_
      refine W_tell (τ := f_law09_TableRises.s1 a1 a2 a3 y1.1 true) {fz := [], gr := 0, ad := [], live := [0, 1, 2, 7, 27], src := []} (by kernel_rfl) (by kernel_rfl) ?_
      exact f_law09_TableRises.j1_ok hV k a1 a2 a3 y1.1 true H
    · refine D_reg (cs := [((!y1.1)) = false, ((decide ((a1.length : Int) > (60 : Int)))) = false]) (τ := ⟨91, [(0, .cv (.one (.sl T1383 a1 .any))), (1, .cv (.one (.sl (.int .i64) a2 .any))), (2, .cv (.one (.int .i64 a3))), (7, .cv (.one (.bool y1.1))), (27, .cv (.one (.bool (decide ((a2.length : Int) < (a1.length : Int))))))], []⟩) hV 0 [(1, {bv := some false}), (6, {bv := some false})] {live := [0, 1, 2, 7, 27], src := []} (by kernel_rfl) (by kernel_rfl) ⟨hb3, hb24, trivial⟩ ?_
      refine th_n ?_
      refine W_tell (τ := f_law09_TableRises.s1 a1 a2 a3 y1.1 (decide ((a2.length : Int) < (a1.length : Int)))) {fz := [], gr := 0, ad := [], live := [0, 1, 2, 7, 27], src := []} (by kernel_rfl) (by kernel_rfl) ?_
      exact f_law09_TableRises.j1_ok hV k a1 a2 a3 y1.1 (decide ((a2.length : Int) < (a1.length : Int))) H
theorem f_law09_TableRises.V_ok : EnvOk P f_law09_TableRises.V := { ck := tt_ck, fits := slk_cons f_law09_awake.fits (slk_cons f_table_Put.fits (slk_cons f_table_Drop.fits (slk_nil))), mixed := mixed }
theorem f_law09_TableRises.fits : Fits P 8 f_law09_TableRises.S := fits_of f_law09_TableRises.V_ok Go.Proofs.Try.func8 (by kernel_rfl) (by decide) (by decide) rfl (fun x r ⟨k, H⟩ => f_law09_TableRises.f_ok f_law09_TableRises.V_ok k x.1 x.2.1 x.2.2.1 H)
/-! ### f_ref01_May: function 70, wayfinder/wayfinderref01.May -/
abbrev f_ref01_May.ps : Sg := [(true, T713d)]
abbrev f_ref01_May.rs : Sg := [(false, .bool)]
noncomputable def f_ref01_May.c0 : Code := (Go.Proofs.Try.f70.body).getD .skip
noncomputable def f_ref01_May.G : List (Nat × Spec) := [(76, f_ref01_Bit.S)]
noncomputable def f_ref01_May.V : Env := { tt := tt, Γ := slk f_ref01_May.G }
noncomputable abbrev f_ref01_May.Q (r : Tup f_ref01_May.rs) : Exit → St → Prop := Qr tt Go.Proofs.Try.f70.results ⟨f_ref01_May.ps, f_ref01_May.rs, .any, none, fun _ _ => True⟩ r
abbrev f_ref01_May.R := Tup f_ref01_May.rs
noncomputable def f_ref01_May.s1 (p1 : Bool) (p2 : T713d.T) : St := ⟨33, [(1, .cv (.one (.ptr 0 0))), (21, .cv (.one (.bool p1)))], [(.box 2, [.int .i64 p2.1, .int .i64 p2.2])]⟩
noncomputable def f_ref01_May.s2 (p1 : Int) (p2 : T713d.T) : St := ⟨33, [(1, .cv (.one (.ptr 0 0))), (3, .cv (.one (.int .i64 p1)))], [(.box 2, [.int .i64 p2.1, .int .i64 p2.2])]⟩
noncomputable def f_ref01_May.b2 (L2 : Int → T713d.T → Option f_ref01_May.R) (k : Nat) (p1 : Int) (p2 : T713d.T) : Option f_ref01_May.R :=
  if (decide (p1 < (32 : Int))) = true then
  (f_ref01_Bit.f k p2.1 p1).bind fun y4 =>
    if (y4.1 == (1 : Int)) = true then
      some (false, ())
    else
      L2 (IntKind.i64.wrap (p1 + 1)) p2
else
  some (true, ())
theorem f_ref01_May.b2_ok (hV : EnvOk P f_ref01_May.V) {r : f_ref01_May.R} (L2 : Int → T713d.T → Option f_ref01_May.R) (m2 : Nat) (hL2 : ∀ (p1 : Int) (p2 : T713d.T), L2 p1 p2 = some r → WL P 0 (Code.l (Code.l (Code.r (Code.l (Code.r (Code.r f_ref01_May.c0)))))) (blockW 0 (thenW P 0 (Code.r (Code.r (Code.r f_ref01_May.c0))) (f_ref01_May.Q r))) m2 (f_ref01_May.s2 p1 p2)) (k : Nat) (p1 : Int) (p2 : T713d.T) (H : f_ref01_May.b2 L2 k p1 p2 = some r) : W P 0 (Code.l (Code.l (Code.r (Code.l (Code.r (Code.r f_ref01_May.c0)))))) (f_ref01_May.s2 p1 p2) (roundW P 0 (Code.l (Code.l (Code.r (Code.l (Code.r (Code.r f_ref01_May.c0)))))) (blockW 0 (thenW P 0 (Code.r (Code.r (Code.r f_ref01_May.c0))) (f_ref01_May.Q r))) m2) := by
  unfold f_ref01_May.b2 at H
  refine D_seq (by kernel_rfl) ?_
  refine D_seq (by kernel_rfl) ?_
  refine D_reg (cs := []) (τ := ⟨33, [(1, .cv (.one (.ptr 0 0))), (3, .cv (.one (.int .i64 p1))), (25, .cv (.one (.bool (decide (p1 < (32 : Int))))))], [(.box 2, [.int .i64 p2.1, .int .i64 p2.2])]⟩) hV 0 [] {live := [1, 3, 25], src := [some 0]} (by kernel_rfl) (by kernel_rfl) trivial ?_
  refine th_n ?_
  refine D_condB (t := 25) (b := (decide (p1 < (32 : Int)))) (by kernel_rfl) (by kernel_rfl) (fun hb3 => ?_) (fun hb3 => ?_)
  · rw [if_pos hb3] at H
    refine D_skip (by kernel_rfl) ?_
    refine th_n ?_
    refine D_seq (by kernel_rfl) ?_
    refine D_block (id := 1) (by kernel_rfl) ?_
    refine D_seq (by kernel_rfl) ?_
    obtain ⟨y4, e5, H⟩ := of_bind H
    refine D_reg (cs := [f_ref01_Bit.S.rel (p2.1, p1, ()) y4]) (τ := ⟨33, [(1, .cv (.one (.ptr 0 0))), (3, .cv (.one (.int .i64 p1))), (32, .cv (.one (.bool (y4.1 == (1 : Int)))))], [(.box 2, [.int .i64 p2.1, .int .i64 p2.2])]⟩) hV 0 [(3, {res := some ⟨f_ref01_Bit.S.rs, y4⟩})] {live := [1, 3, 32], src := [some 0]} (by kernel_rfl) (by kernel_rfl) ⟨⟨k, e5⟩, trivial⟩ ?_
    refine th_n ?_
    refine D_condB (t := 32) (b := (y4.1 == (1 : Int))) (by kernel_rfl) (by kernel_rfl) (fun hb6 => ?_) (fun hb6 => ?_)
    · rw [if_pos hb6] at H
      refine D_seq (by kernel_rfl) ?_
      refine D_reg (cs := []) (τ := ⟨33, [(2, .cv (.one (.bool false)))], []⟩) hV 0 [] {live := [2], src := []} (by kernel_rfl) (by kernel_rfl) trivial ?_
      refine th_n ?_
      refine D_ret (by kernel_rfl) ?_
      refine bl_r ?_
      refine th_r ?_
      refine ro_r ?_
      refine bl_r ?_
      refine th_r ?_
      exact lf_r (Eq.trans (by kernel_rfl) H)
    · rw [if_neg (by rw [hb6]; decide)] at H
      refine D_skip (by kernel_rfl) ?_
      refine bl_n ?_
      refine th_n ?_
      refine D_reg (cs := []) (τ := ⟨33, [(1, .cv (.one (.ptr 0 0))), (3, .cv (.one (.int .i64 (IntKind.i64.wrap (p1 + 1)))))], [(.box 2, [.int .i64 p2.1, .int .i64 p2.2])]⟩) hV 0 [] {live := [1, 3], src := [some 0]} (by kernel_rfl) (by kernel_rfl) trivial ?_
      refine ro_n (WL_tell (τ := f_ref01_May.s2 (IntKind.i64.wrap (p1 + 1)) p2) {fz := [], gr := 0, ad := [], live := [1, 3], src := [some 0]} (by kernel_rfl) (by kernel_rfl) ?_)
      exact hL2 (IntKind.i64.wrap (p1 + 1)) p2 H
  · rw [if_neg (by rw [hb3]; decide)] at H
    refine D_exit (id := 0) (by kernel_rfl) ?_
    refine th_x ?_
    refine ro_x ?_
    refine bl_h ?_
    refine th_n ?_
    refine D_seq (by kernel_rfl) ?_
    refine D_reg (cs := []) (τ := ⟨33, [(2, .cv (.one (.bool true)))], []⟩) hV 0 [] {live := [2], src := []} (by kernel_rfl) (by kernel_rfl) trivial ?_
    refine th_n ?_
    refine D_ret (by kernel_rfl) ?_
    exact lf_r (Eq.trans (by kernel_rfl) H)
noncomputable def f_ref01_May.l2 (k : Nat) : Nat → Int → T713d.T → Option f_ref01_May.R
  | 0, _, _ => none
  | m + 1, p1, p2 => f_ref01_May.b2 (f_ref01_May.l2 k m) k p1 p2
theorem f_ref01_May.l2_ok (hV : EnvOk P f_ref01_May.V) {r : f_ref01_May.R} (k : Nat) : ∀ (m2 : Nat) (p1 : Int) (p2 : T713d.T), f_ref01_May.l2 k m2 p1 p2 = some r → WL P 0 (Code.l (Code.l (Code.r (Code.l (Code.r (Code.r f_ref01_May.c0)))))) (blockW 0 (thenW P 0 (Code.r (Code.r (Code.r f_ref01_May.c0))) (f_ref01_May.Q r))) m2 (f_ref01_May.s2 p1 p2)
  | 0, _, _, H => by cases H
  | m2 + 1, p1, p2, H => WL_succ (f_ref01_May.b2_ok hV (f_ref01_May.l2 k m2) m2 (fun p1 p2 H => f_ref01_May.l2_ok hV k m2 p1 p2 H) k p1 p2 H)
noncomputable def f_ref01_May.j1 (k : Nat) (p1 : Bool) (p2 : T713d.T) : Option f_ref01_May.R :=
  if p1 = true then
  some (false, ())
else
  f_ref01_May.l2 k k p2.2 p2
theorem f_ref01_May.j1_ok (hV : EnvOk P f_ref01_May.V) {r : f_ref01_May.R} (k : Nat) (p1 : Bool) (p2 : T713d.T) (H : f_ref01_May.j1 k p1 p2 = some r) : W P 0 (Code.r (Code.l (Code.r f_ref01_May.c0))) (f_ref01_May.s1 p1 p2) (thenW P 0 (Code.r (Code.r f_ref01_May.c0)) (f_ref01_May.Q r)) := by
  unfold f_ref01_May.j1 at H
  refine D_condB (t := 21) (b := p1) (by kernel_rfl) (by kernel_rfl) (fun hb2 => ?_) (fun hb2 => ?_)
  · rw [if_pos hb2] at H
    refine D_seq (by kernel_rfl) ?_
    refine D_reg (cs := []) (τ := ⟨33, [(2, .cv (.one (.bool false)))], []⟩) hV 0 [] {live := [2], src := []} (by kernel_rfl) (by kernel_rfl) trivial ?_
    refine th_n ?_
    refine D_ret (by kernel_rfl) ?_
    refine th_r ?_
    exact lf_r (Eq.trans (by kernel_rfl) H)
  · rw [if_neg (by rw [hb2]; decide)] at H
    refine D_skip (by kernel_rfl) ?_
    refine th_n ?_
    refine D_seq (by kernel_rfl) ?_
    refine D_seq (by kernel_rfl) ?_
    refine D_reg (cs := []) (τ := ⟨33, [(1, .cv (.one (.ptr 0 0))), (3, .cv (.one (.int .i64 p2.2)))], [(.box 2, [.int .i64 p2.1, .int .i64 p2.2])]⟩) hV 0 [] {live := [1, 3], src := [some 0]} (by kernel_rfl) (by kernel_rfl) trivial ?_
    refine th_n ?_
    refine D_block (id := 0) (by kernel_rfl) ?_
    refine W_tell (τ := f_ref01_May.s2 p2.2 p2) {fz := [], gr := 0, ad := [], live := [1, 3], src := [some 0]} (by kernel_rfl) (by kernel_rfl) ?_
    exact D_loop (by kernel_rfl) k (f_ref01_May.l2_ok hV k k p2.2 p2 H)
noncomputable def f_ref01_May.f (k : Nat) (a1 : T713d.T) : Option f_ref01_May.R :=
  if (decide (a1.2 < (0 : Int))) = true then
    f_ref01_May.j1 k true a1
  else
    if (decide (a1.2 > (32 : Int))) = true then
      f_ref01_May.j1 k true a1
    else
      if (decide (a1.1 < (0 : Int))) = true then
        f_ref01_May.j1 k true a1
      else
        f_ref01_May.j1 k (decide (a1.1 > (4294967295 : Int))) a1
noncomputable def f_ref01_May.S : Spec := ⟨f_ref01_May.ps, f_ref01_May.rs, .any, none, fun x r => ∃ k, f_ref01_May.f k x.1 = some r⟩
theorem f_ref01_May.f_ok (hV : EnvOk P f_ref01_May.V) {r : f_ref01_May.R} (k : Nat) (a1 : T713d.T) (H : f_ref01_May.f k a1 = some r) : W P 0 f_ref01_May.c0 (⟨33, [(0, .cv (.agg [.int .i64 a1.1, .int .i64 a1.2]))], []⟩) (f_ref01_May.Q r) := by
  unfold f_ref01_May.f at H
  refine D_seq (by kernel_rfl) ?_
  refine D_reg (cs := []) (τ := ⟨33, [(1, .cv (.one (.ptr 0 0)))], [(.box 2, [.int .i64 a1.1, .int .i64 a1.2])]⟩) hV 1 [(0, {sb := 0})] {live := [1], src := [some 0]} (by kernel_rfl) (by kernel_rfl) trivial ?_
  refine th_n ?_
  refine D_seq (by kernel_rfl) ?_
  refine D_seq (by kernel_rfl) ?_
  rcases of_ite H with ⟨hb1, H⟩ | ⟨hb1, H⟩
  · refine D_reg (cs := [((decide (a1.2 < (0 : Int)))) = true]) (τ := ⟨33, [(1, .cv (.one (.ptr 0 0))), (21, .cv (.one (.bool true)))], [(.box 2, [.int .i64 a1.1, .int .i64 a1.2])]⟩) hV 0 [(2, {bv := some true})] {live := [1, 21], src := [some 0]} (by kernel_rfl) (by kernel_rfl) ⟨hb1, trivial⟩ ?_
    refine th_n ?_
    refine W_tell (τ := f_ref01_May.s1 true a1) {fz := [], gr := 0, ad := [], live := [1, 21], src := [some 0]} (by kernel_rfl) (by kernel_rfl) ?_
    exact f_ref01_May.j1_ok hV k true a1 H
  · rcases of_ite H with ⟨hb7, H⟩ | ⟨hb7, H⟩
    · refine D_reg (cs := [((decide (a1.2 < (0 : Int)))) = false, ((decide (a1.2 > (32 : Int)))) = true]) (τ := ⟨33, [(1, .cv (.one (.ptr 0 0))), (21, .cv (.one (.bool true)))], [(.box 2, [.int .i64 a1.1, .int .i64 a1.2])]⟩) hV 0 [(2, {bv := some false}), (7, {bv := some true})] {live := [1, 21], src := [some 0]} (by kernel_rfl) (by kernel_rfl) ⟨hb1, hb7, trivial⟩ ?_
      refine th_n ?_
      refine W_tell (τ := f_ref01_May.s1 true a1) {fz := [], gr := 0, ad := [], live := [1, 21], src := [some 0]} (by kernel_rfl) (by kernel_rfl) ?_
      exact f_ref01_May.j1_ok hV k true a1 H
    · rcases of_ite H with ⟨hb8, H⟩ | ⟨hb8, H⟩
      · refine D_reg (cs := [((decide (a1.2 < (0 : Int)))) = false, ((decide (a1.2 > (32 : Int)))) = false, ((decide (a1.1 < (0 : Int)))) = true]) (τ := ⟨33, [(1, .cv (.one (.ptr 0 0))), (21, .cv (.one (.bool true)))], [(.box 2, [.int .i64 a1.1, .int .i64 a1.2])]⟩) hV 0 [(2, {bv := some false}), (7, {bv := some false}), (12, {bv := some true})] {live := [1, 21], src := [some 0]} (by kernel_rfl) (by kernel_rfl) ⟨hb1, hb7, hb8, trivial⟩ ?_
        refine th_n ?_
        refine W_tell (τ := f_ref01_May.s1 true a1) {fz := [], gr := 0, ad := [], live := [1, 21], src := [some 0]} (by kernel_rfl) (by kernel_rfl) ?_
        exact f_ref01_May.j1_ok hV k true a1 H
      · refine D_reg (cs := [((decide (a1.2 < (0 : Int)))) = false, ((decide (a1.2 > (32 : Int)))) = false, ((decide (a1.1 < (0 : Int)))) = false]) (τ := ⟨33, [(1, .cv (.one (.ptr 0 0))), (21, .cv (.one (.bool (decide (a1.1 > (4294967295 : Int))))))], [(.box 2, [.int .i64 a1.1, .int .i64 a1.2])]⟩) hV 0 [(2, {bv := some false}), (7, {bv := some false}), (12, {bv := some false})] {live := [1, 21], src := [some 0]} (by kernel_rfl) (by kernel_rfl) ⟨hb1, hb7, hb8, trivial⟩ ?_
        refine th_n ?_
        refine W_tell (τ := f_ref01_May.s1 (decide (a1.1 > (4294967295 : Int))) a1) {fz := [], gr := 0, ad := [], live := [1, 21], src := [some 0]} (by kernel_rfl) (by kernel_rfl) ?_
        exact f_ref01_May.j1_ok hV k (decide (a1.1 > (4294967295 : Int))) a1 H
theorem f_ref01_May.V_ok : EnvOk P f_ref01_May.V := { ck := tt_ck, fits := slk_cons f_ref01_Bit.fits (slk_nil), mixed := mixed }
theorem f_ref01_May.fits : Fits P 70 f_ref01_May.S := fits_of f_ref01_May.V_ok Go.Proofs.Try.func70 (by kernel_rfl) (by decide) (by decide) rfl (fun x r ⟨k, H⟩ => f_ref01_May.f_ok f_ref01_May.V_ok k x.1 H)
/-! ### f_ref04_May: function 52, wayfinder/wayfinderref04.May -/
abbrev f_ref04_May.ps : Sg := [(true, T1383)]
abbrev f_ref04_May.rs : Sg := [(false, .bool)]
noncomputable def f_ref04_May.c0 : Code := (Go.Proofs.Try.f52.body).getD .skip
noncomputable def f_ref04_May.G : List (Nat × Spec) := [(70, f_ref01_May.S)]
noncomputable def f_ref04_May.V : Env := { tt := tt, Γ := slk f_ref04_May.G }
noncomputable abbrev f_ref04_May.Q (r : Tup f_ref04_May.rs) : Exit → St → Prop := Qr tt Go.Proofs.Try.f52.results ⟨f_ref04_May.ps, f_ref04_May.rs, .any, none, fun _ _ => True⟩ r
abbrev f_ref04_May.R := Tup f_ref04_May.rs
noncomputable def f_ref04_May.s1 (p1 : Bool) (p2 : T1383.T) : St := ⟨53, [(1, .cv (.one (.ptr 0 0))), (28, .cv (.one (.bool p1)))], [(.box 6, [.int .i64 p2.1.1, .int .i64 p2.1.2, .int .i64 p2.2.1, .int .i64 p2.2.2.1, .int .i64 p2.2.2.2.1, .int .i64 p2.2.2.2.2])]⟩
noncomputable def f_ref04_May.j1 (k : Nat) (p1 : Bool) (p2 : T1383.T) : Option f_ref04_May.R :=
  if p1 = true then
  some (false, ())
else
  if (p2.2.2.2.1 == (0 : Int)) = true then
    some ((p2.2.2.2.2 == (0 : Int)), ())
  else
    if (p2.2.2.2.1 == (1 : Int)) = true then
      if (decide (p2.2.2.2.2 ≥ (0 : Int))) = true then
        some ((decide (p2.2.2.2.2 ≤ (7 : Int))), ())
      else
        some (false, ())
    else
      some (false, ())
theorem f_ref04_May.j1_ok (hV : EnvOk P f_ref04_May.V) {r : f_ref04_May.R} (k : Nat) (p1 : Bool) (p2 : T1383.T) (H : f_ref04_May.j1 k p1 p2 = some r) : W P 0 (Code.r (Code.l (Code.r (Code.r f_ref04_May.c0)))) (f_ref04_May.s1 p1 p2) (thenW P 0 (Code.r (Code.r (Code.r f_ref04_May.c0))) (f_ref04_May.Q r)) := by
  unfold f_ref04_May.j1 at H
  refine D_condB (t := 28) (b := p1) (by kernel_rfl) (by kernel_rfl) (fun hb4 => ?_) (fun hb4 => ?_)
  · rw [if_pos hb4] at H
    refine D_seq (by kernel_rfl) ?_
    refine D_reg (cs := []) (τ := ⟨53, [(2, .cv (.one (.bool false)))], []⟩) hV 0 [] {live := [2], src := []} (by kernel_rfl) (by kernel_rfl) trivial ?_
    refine th_n ?_
    refine D_ret (by kernel_rfl) ?_
    refine th_r ?_
    exact lf_r (Eq.trans (by kernel_rfl) H)
  · rw [if_neg (by rw [hb4]; decide)] at H
    refine D_skip (by kernel_rfl) ?_
    refine th_n ?_
    refine D_seq (by kernel_rfl) ?_
    refine D_seq (by kernel_rfl) ?_
    refine D_reg (cs := []) (τ := ⟨53, [(1, .cv (.one (.ptr 0 0))), (32, .cv (.one (.bool (p2.2.2.2.1 == (0 : Int)))))], [(.box 6, [.int .i64 p2.1.1, .int .i64 p2.1.2, .int .i64 p2.2.1, .int .i64 p2.2.2.1, .int .i64 p2.2.2.2.1, .int .i64 p2.2.2.2.2])]⟩) hV 0 [] {live := [1, 32], src := [some 0]} (by kernel_rfl) (by kernel_rfl) trivial ?_
    refine th_n ?_
    refine D_condB (t := 32) (b := (p2.2.2.2.1 == (0 : Int))) (by kernel_rfl) (by kernel_rfl) (fun hb5 => ?_) (fun hb5 => ?_)
    · rw [if_pos hb5] at H
      refine D_seq (by kernel_rfl) ?_
      refine D_reg (cs := []) (τ := ⟨53, [(2, .cv (.one (.bool (p2.2.2.2.2 == (0 : Int)))))], []⟩) hV 0 [] {live := [2], src := []} (by kernel_rfl) (by kernel_rfl) trivial ?_
      refine th_n ?_
      refine D_ret (by kernel_rfl) ?_
      refine th_r ?_
      exact lf_r (Eq.trans (by kernel_rfl) H)
    · rw [if_neg (by rw [hb5]; decide)] at H
      refine D_skip (by kernel_rfl) ?_
      refine th_n ?_
      refine D_seq (by kernel_rfl) ?_
      rcases of_ite H with ⟨hb6, H⟩ | ⟨hb6, H⟩
      · rcases of_ite H with ⟨hb7, H⟩ | ⟨hb7, H⟩
        · refine D_reg (cs := [((p2.2.2.2.1 == (1 : Int))) = true, ((decide (p2.2.2.2.2 ≥ (0 : Int)))) = true]) (τ := ⟨53, [(2, .cv (.one (.bool (decide (p2.2.2.2.2 ≤ (7 : Int))))))], []⟩) hV 0 [(3, {bv := some true}), (9, {bv := some true})] {live := [2], src := []} (by kernel_rfl) (by kernel_rfl) ⟨hb6, hb7, trivial⟩ ?_
          refine th_n ?_
          refine D_ret (by kernel_rfl) ?_
          exact lf_r (Eq.trans (by kernel_rfl) H)
        · refine D_reg (cs := [((p2.2.2.2.1 == (1 : Int))) = true, ((decide (p2.2.2.2.2 ≥ (0 : Int)))) = false]) (τ := ⟨53, [(2, .cv (.one (.bool false)))], []⟩) hV 0 [(3, {bv := some true}), (9, {bv := some false})] {live := [2], src := []} (by kernel_rfl) (by kernel_rfl) ⟨hb6, hb7, trivial⟩ ?_
          refine th_n ?_
          refine D_ret (by kernel_rfl) ?_
          exact lf_r (Eq.trans (by kernel_rfl) H)
      · refine D_reg (cs := [((p2.2.2.2.1 == (1 : Int))) = false]) (τ := ⟨53, [(2, .cv (.one (.bool false)))], []⟩) hV 0 [(3, {bv := some false})] {live := [2], src := []} (by kernel_rfl) (by kernel_rfl) ⟨hb6, trivial⟩ ?_
        refine th_n ?_
        refine D_ret (by kernel_rfl) ?_
        exact lf_r (Eq.trans (by kernel_rfl) H)
noncomputable def f_ref04_May.f (k : Nat) (a1 : T1383.T) : Option f_ref04_May.R :=
  (f_ref01_May.f k a1.1).bind fun y1 =>
    if (!y1.1) = true then
      f_ref04_May.j1 k true a1
    else
      if (decide (a1.2.1 < (-1 : Int))) = true then
        f_ref04_May.j1 k true a1
      else
        if (decide (a1.2.1 > (7 : Int))) = true then
          f_ref04_May.j1 k true a1
        else
          if (decide (a1.2.2.1 < (0 : Int))) = true then
            f_ref04_May.j1 k true a1
          else
            f_ref04_May.j1 k (decide (a1.2.2.1 > (255 : Int))) a1
noncomputable def f_ref04_May.S : Spec := ⟨f_ref04_May.ps, f_ref04_May.rs, .any, none, fun x r => ∃ k, f_ref04_May.f k x.1 = some r⟩
theorem f_ref04_May.f_ok (hV : EnvOk P f_ref04_May.V) {r : f_ref04_May.R} (k : Nat) (a1 : T1383.T) (H : f_ref04_May.f k a1 = some r) : W P 0 f_ref04_May.c0 (⟨53, [(0, .cv (.agg [.int .i64 a1.1.1, .int .i64 a1.1.2, .int .i64 a1.2.1, .int .i64 a1.2.2.1, .int .i64 a1.2.2.2.1, .int .i64 a1.2.2.2.2]))], []⟩) (f_ref04_May.Q r) := by
  unfold f_ref04_May.f at H
  refine D_seq (by kernel_rfl) ?_
  refine D_reg (cs := []) (τ := ⟨53, [(1, .cv (.one (.ptr 0 0)))], [(.box 6, [.int .i64 a1.1.1, .int .i64 a1.1.2, .int .i64 a1.2.1, .int .i64 a1.2.2.1, .int .i64 a1.2.2.2.1, .int .i64 a1.2.2.2.2])]⟩) hV 1 [(0, {sb := 0})] {live := [1], src := [some 0]} (by kernel_rfl) (by kernel_rfl) trivial ?_
  refine th_n ?_
  refine D_seq (by kernel_rfl) ?_
  obtain ⟨y1, e2, H⟩ := of_bind H
  refine D_reg (cs := [f_ref01_May.S.rel (a1.1, ()) y1]) (τ := ⟨53, [(1, .cv (.one (.ptr 0 0))), (3, .cv (.one (.bool y1.1)))], [(.box 6, [.int .i64 a1.1.1, .int .i64 a1.1.2, .int .i64 a1.2.1, .int .i64 a1.2.2.1, .int .i64 a1.2.2.2.1, .int .i64 a1.2.2.2.2])]⟩) hV 0 [(2, {res := some ⟨f_ref01_May.S.rs, y1⟩})] {live := [1, 3], src := [some 0]} (by kernel_rfl) (by kernel_rfl) ⟨⟨k, e2⟩, trivial⟩ ?_
  refine th_n ?_
  refine D_seq (by kernel_rfl) ?_
  refine D_seq (by kernel_rfl) ?_
  rcases of_ite H with ⟨hb3, H⟩ | ⟨hb3, H⟩
  · refine D_reg (cs := [((!y1.1)) = true]) (τ := ⟨53, [(1, .cv (.one (.ptr 0 0))), (28, .cv (.one (.bool true)))], [(.box 6, [.int .i64 a1.1.1, .int .i64 a1.1.2, .int .i64 a1.2.1, .int .i64 a1.2.2.1, .int .i64 a1.2.2.2.1, .int .i64 a1.2.2.2.2])]⟩) hV 0 [(1, {bv := some true})] {live := [1, 28], src := [some 0]} (by kernel_rfl) (by kernel_rfl) ⟨hb3, trivial⟩ ?_
    refine th_n ?_
    refine W_tell (τ := f_ref04_May.s1 true a1) {fz := [], gr := 0, ad := [], live := [1, 28], src := [some 0]} (by kernel_rfl) (by kernel_rfl) ?_
    exact f_ref04_May.j1_ok hV k true a1 H
  · rcases of_ite H with ⟨hb8, H⟩ | ⟨hb8, H⟩
    · refine D_reg (cs := [((!y1.1)) = false, ((decide (a1.2.1 < (-1 : Int)))) = true]) (τ := ⟨53, [(1, .cv (.one (.ptr 0 0))), (28, .cv (.one (.bool true)))], [(.box 6, [.int .i64 a1.1.1, .int .i64 a1.1.2, .int .i64 a1.2.1, .int .i64 a1.2.2.1, .int .i64 a1.2.2.2.1, .int .i64 a1.2.2.2.2])]⟩) hV 0 [(1, {bv := some false}), (6, {bv := some true})] {live := [1, 28], src := [some 0]} (by kernel_rfl) (by kernel_rfl) ⟨hb3, hb8, trivial⟩ ?_
      refine th_n ?_
      refine W_tell (τ := f_ref04_May.s1 true a1) {fz := [], gr := 0, ad := [], live := [1, 28], src := [some 0]} (by kernel_rfl) (by kernel_rfl) ?_
      exact f_ref04_May.j1_ok hV k true a1 H
    · rcases of_ite H with ⟨hb9, H⟩ | ⟨hb9, H⟩
      · refine D_reg (cs := [((!y1.1)) = false, ((decide (a1.2.1 < (-1 : Int)))) = false, ((decide (a1.2.1 > (7 : Int)))) = true]) (τ := ⟨53, [(1, .cv (.one (.ptr 0 0))), (28, .cv (.one (.bool true)))], [(.box 6, [.int .i64 a1.1.1, .int .i64 a1.1.2, .int .i64 a1.2.1, .int .i64 a1.2.2.1, .int .i64 a1.2.2.2.1, .int .i64 a1.2.2.2.2])]⟩) hV 0 [(1, {bv := some false}), (6, {bv := some false}), (11, {bv := some true})] {live := [1, 28], src := [some 0]} (by kernel_rfl) (by kernel_rfl) ⟨hb3, hb8, hb9, trivial⟩ ?_
        refine th_n ?_
        refine W_tell (τ := f_ref04_May.s1 true a1) {fz := [], gr := 0, ad := [], live := [1, 28], src := [some 0]} (by kernel_rfl) (by kernel_rfl) ?_
        exact f_ref04_May.j1_ok hV k true a1 H
      · rcases of_ite H with ⟨hb10, H⟩ | ⟨hb10, H⟩
        · refine D_reg (cs := [((!y1.1)) = false, ((decide (a1.2.1 < (-1 : Int)))) = false, ((decide (a1.2.1 > (7 : Int)))) = false, ((decide (a1.2.2.1 < (0 : Int)))) = true]) (τ := ⟨53, [(1, .cv (.one (.ptr 0 0))), (28, .cv (.one (.bool true)))], [(.box 6, [.int .i64 a1.1.1, .int .i64 a1.1.2, .int .i64 a1.2.1, .int .i64 a1.2.2.1, .int .i64 a1.2.2.2.1, .int .i64 a1.2.2.2.2])]⟩) hV 0 [(1, {bv := some false}), (6, {bv := some false}), (11, {bv := some false}), (16, {bv := some true})] {live := [1, 28], src := [some 0]} (by kernel_rfl) (by kernel_rfl) ⟨hb3, hb8, hb9, hb10, trivial⟩ ?_
          refine th_n ?_
          refine W_tell (τ := f_ref04_May.s1 true a1) {fz := [], gr := 0, ad := [], live := [1, 28], src := [some 0]} (by kernel_rfl) (by kernel_rfl) ?_
          exact f_ref04_May.j1_ok hV k true a1 H
        · refine D_reg (cs := [((!y1.1)) = false, ((decide (a1.2.1 < (-1 : Int)))) = false, ((decide (a1.2.1 > (7 : Int)))) = false, ((decide (a1.2.2.1 < (0 : Int)))) = false]) (τ := ⟨53, [(1, .cv (.one (.ptr 0 0))), (28, .cv (.one (.bool (decide (a1.2.2.1 > (255 : Int))))))], [(.box 6, [.int .i64 a1.1.1, .int .i64 a1.1.2, .int .i64 a1.2.1, .int .i64 a1.2.2.1, .int .i64 a1.2.2.2.1, .int .i64 a1.2.2.2.2])]⟩) hV 0 [(1, {bv := some false}), (6, {bv := some false}), (11, {bv := some false}), (16, {bv := some false})] {live := [1, 28], src := [some 0]} (by kernel_rfl) (by kernel_rfl) ⟨hb3, hb8, hb9, hb10, trivial⟩ ?_
          refine th_n ?_
          refine W_tell (τ := f_ref04_May.s1 (decide (a1.2.2.1 > (255 : Int))) a1) {fz := [], gr := 0, ad := [], live := [1, 28], src := [some 0]} (by kernel_rfl) (by kernel_rfl) ?_
          exact f_ref04_May.j1_ok hV k (decide (a1.2.2.1 > (255 : Int))) a1 H
theorem f_ref04_May.V_ok : EnvOk P f_ref04_May.V := { ck := tt_ck, fits := slk_cons f_ref01_May.fits (slk_nil), mixed := mixed }
theorem f_ref04_May.fits : Fits P 52 f_ref04_May.S := fits_of f_ref04_May.V_ok Go.Proofs.Try.func52 (by kernel_rfl) (by decide) (by decide) rfl (fun x r ⟨k, H⟩ => f_ref04_May.f_ok f_ref04_May.V_ok k x.1 H)
/-! ### f_ref04_Alike: function 53, wayfinder/wayfinderref04.Alike -/
abbrev f_ref04_Alike.ps : Sg := [(true, T1383), (true, T1383)]
abbrev f_ref04_Alike.rs : Sg := [(false, .bool)]
noncomputable def f_ref04_Alike.c0 : Code := (Go.Proofs.Try.f53.body).getD .skip
noncomputable def f_ref04_Alike.G : List (Nat × Spec) := []
noncomputable def f_ref04_Alike.V : Env := { tt := tt, Γ := slk f_ref04_Alike.G }
noncomputable abbrev f_ref04_Alike.Q (r : Tup f_ref04_Alike.rs) : Exit → St → Prop := Qr tt Go.Proofs.Try.f53.results ⟨f_ref04_Alike.ps, f_ref04_Alike.rs, .any, none, fun _ _ => True⟩ r
abbrev f_ref04_Alike.R := Tup f_ref04_Alike.rs
noncomputable def f_ref04_Alike.f (k : Nat) (a1 : T1383.T) (a2 : T1383.T) : Option f_ref04_Alike.R :=
  if ((a1.1.1 == a2.1.1) && ((a1.1.2 == a2.1.2) && true)) = true then
    if (a1.2.1 == a2.2.1) = true then
      some ((a1.2.2.1 == a2.2.2.1), ())
    else
      some (false, ())
  else
    some (false, ())
noncomputable def f_ref04_Alike.S : Spec := ⟨f_ref04_Alike.ps, f_ref04_Alike.rs, .any, none, fun x r => ∃ k, f_ref04_Alike.f k x.1 x.2.1 = some r⟩
theorem f_ref04_Alike.f_ok (hV : EnvOk P f_ref04_Alike.V) {r : f_ref04_Alike.R} (k : Nat) (a1 : T1383.T) (a2 : T1383.T) (H : f_ref04_Alike.f k a1 a2 = some r) : W P 0 f_ref04_Alike.c0 (⟨24, [(0, .cv (.agg [.int .i64 a1.1.1, .int .i64 a1.1.2, .int .i64 a1.2.1, .int .i64 a1.2.2.1, .int .i64 a1.2.2.2.1, .int .i64 a1.2.2.2.2])), (1, .cv (.agg [.int .i64 a2.1.1, .int .i64 a2.1.2, .int .i64 a2.2.1, .int .i64 a2.2.2.1, .int .i64 a2.2.2.2.1, .int .i64 a2.2.2.2.2]))], []⟩) (f_ref04_Alike.Q r) := by
  unfold f_ref04_Alike.f at H
  refine D_seq (by kernel_rfl) ?_
  refine D_reg (cs := []) (τ := ⟨24, [(2, .cv (.one (.ptr 0 0))), (3, .cv (.one (.ptr 1 0)))], [(.box 6, [.int .i64 a1.1.1, .int .i64 a1.1.2, .int .i64 a1.2.1, .int .i64 a1.2.2.1, .int .i64 a1.2.2.2.1, .int .i64 a1.2.2.2.2]), (.box 6, [.int .i64 a2.1.1, .int .i64 a2.1.2, .int .i64 a2.2.1, .int .i64 a2.2.2.1, .int .i64 a2.2.2.2.1, .int .i64 a2.2.2.2.2])]⟩) hV 2 [(0, {sb := 0}), (1, {sb := 1})] {live := [2, 3], src := [some 0, some 1]} (by kernel_rfl) (by kernel_rfl) trivial ?_
  refine th_n ?_
  refine D_seq (by kernel_rfl) ?_
  rcases of_ite H with ⟨hb1, H⟩ | ⟨hb1, H⟩
  · rcases of_ite H with ⟨hb2, H⟩ | ⟨hb2, H⟩
    · refine D_reg (cs := [(((a1.1.1 == a2.1.1) && ((a1.1.2 == a2.1.2) && true))) = true, ((a1.2.1 == a2.2.1)) = true]) (τ := ⟨24, [(4, .cv (.one (.bool (a1.2.2.1 == a2.2.2.1))))], []⟩) hV 0 [(4, {bv := some true}), (11, {bv := some true})] {live := [4], src := []} (by kernel_rfl) (by kernel_rfl) ⟨hb1, hb2, trivial⟩ ?_
      refine th_n ?_
      refine D_ret (by kernel_rfl) ?_
      exact lf_r (Eq.trans (by kernel_rfl) H)
    · refine D_reg (cs := [(((a1.1.1 == a2.1.1) && ((a1.1.2 == a2.1.2) && true))) = true, ((a1.2.1 == a2.2.1)) = false]) (τ := ⟨24, [(4, .cv (.one (.bool false)))], []⟩) hV 0 [(4, {bv := some true}), (11, {bv := some false})] {live := [4], src := []} (by kernel_rfl) (by kernel_rfl) ⟨hb1, hb2, trivial⟩ ?_
      refine th_n ?_
      refine D_ret (by kernel_rfl) ?_
      exact lf_r (Eq.trans (by kernel_rfl) H)
  · refine D_reg (cs := [(((a1.1.1 == a2.1.1) && ((a1.1.2 == a2.1.2) && true))) = false]) (τ := ⟨24, [(4, .cv (.one (.bool false)))], []⟩) hV 0 [(4, {bv := some false})] {live := [4], src := []} (by kernel_rfl) (by kernel_rfl) ⟨hb1, trivial⟩ ?_
    refine th_n ?_
    refine D_ret (by kernel_rfl) ?_
    exact lf_r (Eq.trans (by kernel_rfl) H)
theorem f_ref04_Alike.V_ok : EnvOk P f_ref04_Alike.V := { ck := tt_ck, fits := slk_nil, mixed := mixed }
theorem f_ref04_Alike.fits : Fits P 53 f_ref04_Alike.S := fits_of f_ref04_Alike.V_ok Go.Proofs.Try.func53 (by kernel_rfl) (by decide) (by decide) rfl (fun x r ⟨k, H⟩ => f_ref04_Alike.f_ok f_ref04_Alike.V_ok k x.1 x.2.1 H)
/-! ### f_ref09_with: function 54, wayfinder/wayfinderref09.with -/
abbrev f_ref09_with.ps : Sg := [(false, (.slice T814c)), (false, (.int .i64)), (false, (.slice T1383))]
abbrev f_ref09_with.rs : Sg := [(false, (.slice T814c))]
noncomputable def f_ref09_with.c0 : Code := (Go.Proofs.Try.f54.body).getD .skip
noncomputable def f_ref09_with.G : List (Nat × Spec) := []
noncomputable def f_ref09_with.V : Env := { tt := tt, Γ := slk f_ref09_with.G }
noncomputable abbrev f_ref09_with.Q (r : Tup f_ref09_with.rs) : Exit → St → Prop := Qr tt Go.Proofs.Try.f54.results ⟨f_ref09_with.ps, f_ref09_with.rs, .any, none, fun _ _ => True⟩ r
abbrev f_ref09_with.R := Tup f_ref09_with.rs
noncomputable def f_ref09_with.f (k : Nat) (a1 : List T814c.T) (a2 : Int) (a3 : List T1383.T) : Option f_ref09_with.R :=
  if a1.length * 32 ≤ 140737488355328 then
    if 0 ≤ a2 then
      if a2 < (a1.length : Int) then
        some ((a1.set a2.toNat ((att T814c a1 a2).1, a3)), ())
      else none
    else none
  else none
noncomputable def f_ref09_with.S : Spec := ⟨f_ref09_with.ps, f_ref09_with.rs, .any, none, fun x r => ∃ k, f_ref09_with.f k x.1 x.2.1 x.2.2.1 = some r⟩
theorem f_ref09_with.f_ok (hV : EnvOk P f_ref09_with.V) {r : f_ref09_with.R} (k : Nat) (a1 : List T814c.T) (a2 : Int) (a3 : List T1383.T) (H : f_ref09_with.f k a1 a2 a3 = some r) : W P 0 f_ref09_with.c0 (⟨16, [(0, .cv (.one (.sl T814c a1 .any))), (1, .cv (.one (.int .i64 a2))), (2, .cv (.one (.sl T1383 a3 .any)))], []⟩) (f_ref09_with.Q r) := by
  unfold f_ref09_with.f at H
  refine D_seq (by kernel_rfl) ?_
  refine D_reg (cs := []) (τ := ⟨16, [(0, .cv (.one (.sl T814c a1 .any))), (1, .cv (.one (.int .i64 a2))), (2, .cv (.one (.sl T1383 a3 .any)))], []⟩) hV 0 [] {live := [0, 1, 2], src := []} (by kernel_rfl) (by kernel_rfl) trivial ?_
  refine th_n ?_
  refine D_seq (by kernel_rfl) ?_
  obtain ⟨n1, H⟩ := of_if H
  refine D_reg (cs := [a1.length * 32 ≤ 140737488355328]) (τ := ⟨16, [(1, .cv (.one (.int .i64 a2))), (2, .cv (.one (.sl T1383 a3 .any))), (7, .cv (.one (.own 0)))], [(.buf 49 T814c a1, [])]⟩) hV 1 [(1, {sb := 0})] {live := [1, 2, 7], src := [some 0]} (by kernel_rfl) (by kernel_rfl) ⟨n1, trivial⟩ ?_
  refine th_n ?_
  refine D_seq (by kernel_rfl) ?_
  obtain ⟨n2, H⟩ := of_if H
  obtain ⟨n3, H⟩ := of_if H
  refine D_reg (cs := [0 ≤ a2, a2 < (a1.length : Int)]) (τ := ⟨16, [(7, .cv (.one (.own 0)))], [(.buf 49 T814c (a1.set a2.toNat ((att T814c a1 a2).1, a3)), [])]⟩) hV 0 [] {live := [7], src := [some 0]} (by kernel_rfl) (by kernel_rfl) ⟨n2, n3, trivial⟩ ?_
  refine th_n ?_
  refine D_seq (by kernel_rfl) ?_
  refine D_reg (cs := []) (τ := ⟨16, [(6, .cv (.one (.own 0)))], [(.buf 49 T814c (a1.set a2.toNat ((att T814c a1 a2).1, a3)), [])]⟩) hV 0 [] {live := [6], src := [some 0]} (by kernel_rfl) (by kernel_rfl) trivial ?_
  refine th_n ?_
  refine D_ret (by kernel_rfl) ?_
  exact lf_r (Eq.trans (by kernel_rfl) H)
theorem f_ref09_with.V_ok : EnvOk P f_ref09_with.V := { ck := tt_ck, fits := slk_nil, mixed := mixed }
theorem f_ref09_with.fits : Fits P 54 f_ref09_with.S := fits_of f_ref09_with.V_ok Go.Proofs.Try.func54 (by kernel_rfl) (by decide) (by decide) rfl (fun x r ⟨k, H⟩ => f_ref09_with.f_ok f_ref09_with.V_ok k x.1 x.2.1 x.2.2.1 H)
/-! ### f_ref09_Size: function 33, wayfinder/wayfinderref09.Size -/
abbrev f_ref09_Size.ps : Sg := [(false, (.slice T814c))]
abbrev f_ref09_Size.rs : Sg := [(false, (.int .i64))]
noncomputable def f_ref09_Size.c0 : Code := (Go.Proofs.Try.f33.body).getD .skip
noncomputable def f_ref09_Size.G : List (Nat × Spec) := []
noncomputable def f_ref09_Size.V : Env := { tt := tt, Γ := slk f_ref09_Size.G }
noncomputable abbrev f_ref09_Size.Q (r : Tup f_ref09_Size.rs) : Exit → St → Prop := Qr tt Go.Proofs.Try.f33.results ⟨f_ref09_Size.ps, f_ref09_Size.rs, .any, none, fun _ _ => True⟩ r
abbrev f_ref09_Size.R := Tup f_ref09_Size.rs
noncomputable def f_ref09_Size.s1 (p1 : List T814c.T) (p2 : Int) (p3 : Int) : St := ⟨20, [(0, .cv (.one (.sl T814c p1 .any))), (3, .cv (.one (.int .i64 p2))), (4, .cv (.one (.int .i64 p3)))], []⟩
noncomputable def f_ref09_Size.b1 (L1 : List T814c.T → Int → Int → Option f_ref09_Size.R) (k : Nat) (p1 : List T814c.T) (p2 : Int) (p3 : Int) : Option f_ref09_Size.R :=
  if (decide (p3 < (p1.length : Int))) = true then
  if 0 ≤ p3 then
    if p3 < (p1.length : Int) then
      L1 p1 (IntKind.i64.wrap (p2 + (((att T814c p1 p3).2).length : Int))) (IntKind.i64.wrap (p3 + 1))
    else none
  else none
else
  some (p2, ())
theorem f_ref09_Size.b1_ok (hV : EnvOk P f_ref09_Size.V) {r : f_ref09_Size.R} (L1 : List T814c.T → Int → Int → Option f_ref09_Size.R) (m1 : Nat) (hL1 : ∀ (p1 : List T814c.T) (p2 : Int) (p3 : Int), L1 p1 p2 p3 = some r → WL P 0 (Code.l (Code.l (Code.r (Code.l (Code.r (Code.r f_ref09_Size.c0)))))) (blockW 0 (thenW P 0 (Code.r (Code.r (Code.r f_ref09_Size.c0))) (f_ref09_Size.Q r))) m1 (f_ref09_Size.s1 p1 p2 p3)) (k : Nat) (p1 : List T814c.T) (p2 : Int) (p3 : Int) (H : f_ref09_Size.b1 L1 k p1 p2 p3 = some r) : W P 0 (Code.l (Code.l (Code.r (Code.l (Code.r (Code.r f_ref09_Size.c0)))))) (f_ref09_Size.s1 p1 p2 p3) (roundW P 0 (Code.l (Code.l (Code.r (Code.l (Code.r (Code.r f_ref09_Size.c0)))))) (blockW 0 (thenW P 0 (Code.r (Code.r (Code.r f_ref09_Size.c0))) (f_ref09_Size.Q r))) m1) := by
  unfold f_ref09_Size.b1 at H
  refine D_seq (by kernel_rfl) ?_
  refine D_seq (by kernel_rfl) ?_
  refine D_reg (cs := []) (τ := ⟨20, [(0, .cv (.one (.sl T814c p1 .any))), (3, .cv (.one (.int .i64 p2))), (4, .cv (.one (.int .i64 p3))), (8, .cv (.one (.bool (decide (p3 < (p1.length : Int))))))], []⟩) hV 0 [] {live := [0, 3, 4, 8], src := []} (by kernel_rfl) (by kernel_rfl) trivial ?_
  refine th_n ?_
  refine D_condB (t := 8) (b := (decide (p3 < (p1.length : Int)))) (by kernel_rfl) (by kernel_rfl) (fun hb1 => ?_) (fun hb1 => ?_)
  · rw [if_pos hb1] at H
    refine D_skip (by kernel_rfl) ?_
    refine th_n ?_
    refine D_seq (by kernel_rfl) ?_
    refine D_block (id := 1) (by kernel_rfl) ?_
    obtain ⟨n2, H⟩ := of_if H
    obtain ⟨n3, H⟩ := of_if H
    refine D_reg (cs := [0 ≤ p3, p3 < (p1.length : Int)]) (τ := ⟨20, [(0, .cv (.one (.sl T814c p1 .any))), (3, .cv (.one (.int .i64 (IntKind.i64.wrap (p2 + (((att T814c p1 p3).2).length : Int)))))), (4, .cv (.one (.int .i64 p3)))], []⟩) hV 0 [] {live := [0, 3, 4], src := []} (by kernel_rfl) (by kernel_rfl) ⟨n2, n3, trivial⟩ ?_
    refine bl_n ?_
    refine th_n ?_
    refine D_reg (cs := []) (τ := ⟨20, [(0, .cv (.one (.sl T814c p1 .any))), (3, .cv (.one (.int .i64 (IntKind.i64.wrap (p2 + (((att T814c p1 p3).2).length : Int)))))), (4, .cv (.one (.int .i64 (IntKind.i64.wrap (p3 + 1)))))], []⟩) hV 0 [] {live := [0, 3, 4], src := []} (by kernel_rfl) (by kernel_rfl) trivial ?_
    refine ro_n (WL_tell (τ := f_ref09_Size.s1 p1 (IntKind.i64.wrap (p2 + (((att T814c p1 p3).2).length : Int))) (IntKind.i64.wrap (p3 + 1))) {fz := [], gr := 0, ad := [], live := [0, 3, 4], src := []} (by kernel_rfl) (by kernel_rfl) ?_)
    exact hL1 p1 (IntKind.i64.wrap (p2 + (((att T814c p1 p3).2).length : Int))) (IntKind.i64.wrap (p3 + 1)) H
  · rw [if_neg (by rw [hb1]; decide)] at H
    refine D_exit (id := 0) (by kernel_rfl) ?_
    refine th_x ?_
    refine ro_x ?_
    refine bl_h ?_
    refine th_n ?_
    refine D_seq (by kernel_rfl) ?_
    refine D_reg (cs := []) (τ := ⟨20, [(2, .cv (.one (.int .i64 p2)))], []⟩) hV 0 [] {live := [2], src := []} (by kernel_rfl) (by kernel_rfl) trivial ?_
    refine th_n ?_
    refine D_ret (by kernel_rfl) ?_
    exact lf_r (Eq.trans (by kernel_rfl) H)
noncomputable def f_ref09_Size.l1 (k : Nat) : Nat → List T814c.T → Int → Int → Option f_ref09_Size.R
  | 0, _, _, _ => none
  | m + 1, p1, p2, p3 => f_ref09_Size.b1 (f_ref09_Size.l1 k m) k p1 p2 p3
theorem f_ref09_Size.l1_ok (hV : EnvOk P f_ref09_Size.V) {r : f_ref09_Size.R} (k : Nat) : ∀ (m1 : Nat) (p1 : List T814c.T) (p2 : Int) (p3 : Int), f_ref09_Size.l1 k m1 p1 p2 p3 = some r → WL P 0 (Code.l (Code.l (Code.r (Code.l (Code.r (Code.r f_ref09_Size.c0)))))) (blockW 0 (thenW P 0 (Code.r (Code.r (Code.r f_ref09_Size.c0))) (f_ref09_Size.Q r))) m1 (f_ref09_Size.s1 p1 p2 p3)
  | 0, _, _, _, H => by cases H
  | m1 + 1, p1, p2, p3, H => WL_succ (f_ref09_Size.b1_ok hV (f_ref09_Size.l1 k m1) m1 (fun p1 p2 p3 H => f_ref09_Size.l1_ok hV k m1 p1 p2 p3 H) k p1 p2 p3 H)
noncomputable def f_ref09_Size.f (k : Nat) (a1 : List T814c.T) : Option f_ref09_Size.R :=
  f_ref09_Size.l1 k k a1 0 0
noncomputable def f_ref09_Size.S : Spec := ⟨f_ref09_Size.ps, f_ref09_Size.rs, .any, none, fun x r => ∃ k, f_ref09_Size.f k x.1 = some r⟩
theorem f_ref09_Size.f_ok (hV : EnvOk P f_ref09_Size.V) {r : f_ref09_Size.R} (k : Nat) (a1 : List T814c.T) (H : f_ref09_Size.f k a1 = some r) : W P 0 f_ref09_Size.c0 (⟨20, [(0, .cv (.one (.sl T814c a1 .any)))], []⟩) (f_ref09_Size.Q r) := by
  unfold f_ref09_Size.f at H
  refine D_seq (by kernel_rfl) ?_
  refine D_reg (cs := []) (τ := ⟨20, [(0, .cv (.one (.sl T814c a1 .any)))], []⟩) hV 0 [] {live := [0], src := []} (by kernel_rfl) (by kernel_rfl) trivial ?_
  refine th_n ?_
  refine D_seq (by kernel_rfl) ?_
  refine D_reg (cs := []) (τ := ⟨20, [(0, .cv (.one (.sl T814c a1 .any))), (3, .cv (.one (.int .i64 0)))], []⟩) hV 0 [] {live := [0, 3], src := []} (by kernel_rfl) (by kernel_rfl) trivial ?_
  refine th_n ?_
  refine D_seq (by kernel_rfl) ?_
  refine D_seq (by kernel_rfl) ?_
  refine D_reg (cs := []) (τ := ⟨20, [(0, .cv (.one (.sl T814c a1 .any))), (3, .cv (.one (.int .i64 0))), (4, .cv (.one (.int .i64 0)))], []⟩) hV 0 [] {live := [0, 3, 4], src := []} (by kernel_rfl) (by kernel_rfl) trivial ?_
  refine th_n ?_
  refine D_block (id := 0) (by kernel_rfl) ?_
  refine W_tell (τ := f_ref09_Size.s1 a1 0 0) {fz := [], gr := 0, ad := [], live := [0, 3, 4], src := []} (by kernel_rfl) (by kernel_rfl) ?_
  exact D_loop (by kernel_rfl) k (f_ref09_Size.l1_ok hV k k a1 0 0 H)
theorem f_ref09_Size.V_ok : EnvOk P f_ref09_Size.V := { ck := tt_ck, fits := slk_nil, mixed := mixed }
theorem f_ref09_Size.fits : Fits P 33 f_ref09_Size.S := fits_of f_ref09_Size.V_ok Go.Proofs.Try.func33 (by kernel_rfl) (by decide) (by decide) rfl (fun x r ⟨k, H⟩ => f_ref09_Size.f_ok f_ref09_Size.V_ok k x.1 H)
/-! ### i_ref09_Of_baa: function 30, wayfinder/wayfinderref09.Of, where it is called -/
noncomputable def i_ref09_Of_baa.c0 : Code := (Go.Proofs.Try.f30.body).getD .skip
noncomputable def i_ref09_Of_baa.G : List (Nat × Spec) := [(55, f_ref09_where.S)]
noncomputable def i_ref09_Of_baa.V : Env := { tt := tt, Γ := slk i_ref09_Of_baa.G }
theorem i_ref09_Of_baa.V_ok : EnvOk P i_ref09_Of_baa.V := { ck := tt_ck, fits := slk_cons f_ref09_where.fits (slk_nil), mixed := mixed }
abbrev i_ref09_Of_baa.R := (Bool) × (T1383.T) × (List T1383.T) × Unit
noncomputable def i_ref09_Of_baa.s0 (p1 : List T814c.T) (p2 : Int) (p3 : T1383.T) : St := ⟨18, [(0, .cv (.one (.sl T814c p1 .any))), (1, .cv (.one (.int .i64 p2)))], [(.box 6, [.int .i64 p3.1.1, .int .i64 p3.1.2, .int .i64 p3.2.1, .int .i64 p3.2.2.1, .int .i64 p3.2.2.2.1, .int .i64 p3.2.2.2.2])]⟩
noncomputable def i_ref09_Of_baa.out (r : i_ref09_Of_baa.R) : St := ⟨18, [(4, .cv (.one (.own 1))), (5, .cv (.one (.bool r.1)))], [(.box 6, [.int .i64 r.2.1.1.1, .int .i64 r.2.1.1.2, .int .i64 r.2.1.2.1, .int .i64 r.2.1.2.2.1, .int .i64 r.2.1.2.2.2.1, .int .i64 r.2.1.2.2.2.2]), (.buf 39 T1383 r.2.2.1, [])]⟩
abbrev i_ref09_Of_baa.Q (r : i_ref09_Of_baa.R) := CallQ 1 (i_ref09_Of_baa.out r)
noncomputable def i_ref09_Of_baa.f (k : Nat) (p1 : List T814c.T) (p2 : Int) (p3 : T1383.T) : Option i_ref09_Of_baa.R :=
  (f_ref09_where.f k p1 p2).bind fun y1 =>
    if (decide (y1.1 < (0 : Int))) = true then
      some (false, (p3, ([], ())))
    else
      if 0 ≤ y1.1 then
        if y1.1 < (p1.length : Int) then
          if ((att T814c p1 y1.1).2).length * 48 ≤ 140737488355328 then
            some (true, (p3, ((att T814c p1 y1.1).2, ())))
          else none
        else none
      else none
theorem i_ref09_Of_baa.f_ok (hV : EnvOk P i_ref09_Of_baa.V) {r : i_ref09_Of_baa.R} (k : Nat) (p1 : List T814c.T) (p2 : Int) (p3 : T1383.T) (H : i_ref09_Of_baa.f k p1 p2 p3 = some r) : W P 1 i_ref09_Of_baa.c0 (⟨18, [(0, .cv (.one (.sl T814c p1 .any))), (1, .cv (.one (.int .i64 p2)))], [(.box 6, [.int .i64 p3.1.1, .int .i64 p3.1.2, .int .i64 p3.2.1, .int .i64 p3.2.2.1, .int .i64 p3.2.2.2.1, .int .i64 p3.2.2.2.2])]⟩) (i_ref09_Of_baa.Q r) := by
  unfold i_ref09_Of_baa.f at H
  refine D_seq (by kernel_rfl) ?_
  refine D_reg (cs := []) (τ := ⟨18, [(0, .cv (.one (.sl T814c p1 .any))), (1, .cv (.one (.int .i64 p2)))], [(.box 6, [.int .i64 p3.1.1, .int .i64 p3.1.2, .int .i64 p3.2.1, .int .i64 p3.2.2.1, .int .i64 p3.2.2.2.1, .int .i64 p3.2.2.2.2])]⟩) hV 0 [] {live := [0, 1], src := [some 0]} (by kernel_rfl) (by kernel_rfl) trivial ?_
  refine th_n ?_
  refine D_seq (by kernel_rfl) ?_
  obtain ⟨y1, e2, H⟩ := of_bind H
  refine D_reg (cs := [f_ref09_where.S.rel (p1, p2, ()) y1]) (τ := ⟨18, [(0, .cv (.one (.sl T814c p1 .any))), (6, .cv (.one (.int .i64 y1.1)))], [(.box 6, [.int .i64 p3.1.1, .int .i64 p3.1.2, .int .i64 p3.2.1, .int .i64 p3.2.2.1, .int .i64 p3.2.2.2.1, .int .i64 p3.2.2.2.2])]⟩) hV 0 [(2, {res := some ⟨f_ref09_where.S.rs, y1⟩})] {live := [0, 6], src := [some 0]} (by kernel_rfl) (by kernel_rfl) ⟨⟨k, e2⟩, trivial⟩ ?_
  refine th_n ?_
  refine D_seq (by kernel_rfl) ?_
  refine D_seq (by kernel_rfl) ?_
  refine D_reg (cs := []) (τ := ⟨18, [(0, .cv (.one (.sl T814c p1 .any))), (6, .cv (.one (.int .i64 y1.1))), (11, .cv (.one (.bool (decide (y1.1 < (0 : Int))))))], [(.box 6, [.int .i64 p3.1.1, .int .i64 p3.1.2, .int .i64 p3.2.1, .int .i64 p3.2.2.1, .int .i64 p3.2.2.2.1, .int .i64 p3.2.2.2.2])]⟩) hV 0 [] {live := [0, 6, 11], src := [some 0]} (by kernel_rfl) (by kernel_rfl) trivial ?_
  refine th_n ?_
  refine D_condB (t := 11) (b := (decide (y1.1 < (0 : Int)))) (by kernel_rfl) (by kernel_rfl) (fun hb3 => ?_) (fun hb3 => ?_)
  · rw [if_pos hb3] at H
    refine D_seq (by kernel_rfl) ?_
    refine D_reg (cs := []) (τ := ⟨18, [(4, .cv (.one (.nils))), (5, .cv (.one (.bool false)))], [(.box 6, [.int .i64 p3.1.1, .int .i64 p3.1.2, .int .i64 p3.2.1, .int .i64 p3.2.2.1, .int .i64 p3.2.2.2.1, .int .i64 p3.2.2.2.2])]⟩) hV 0 [] {live := [4, 5], src := [some 0]} (by kernel_rfl) (by kernel_rfl) trivial ?_
    refine th_n ?_
    refine D_ret (by kernel_rfl) ?_
    refine th_r ?_
    obtain rfl := Option.some.inj H
    exact cq_r {fz := [], gr := 1, ad := [.ownT 4 1 39 T1383], live := [4, 5], src := [some 0, some 1]} (by kernel_rfl) (by kernel_rfl)
  · rw [if_neg (by rw [hb3]; decide)] at H
    refine D_skip (by kernel_rfl) ?_
    refine th_n ?_
    refine D_seq (by kernel_rfl) ?_
    obtain ⟨n4, H⟩ := of_if H
    obtain ⟨n5, H⟩ := of_if H
    obtain ⟨n6, H⟩ := of_if H
    refine D_reg (cs := [0 ≤ y1.1, y1.1 < (p1.length : Int), ((att T814c p1 y1.1).2).length * 48 ≤ 140737488355328]) (τ := ⟨18, [(4, .cv (.one (.own 1))), (5, .cv (.one (.bool true)))], [(.box 6, [.int .i64 p3.1.1, .int .i64 p3.1.2, .int .i64 p3.2.1, .int .i64 p3.2.2.1, .int .i64 p3.2.2.2.1, .int .i64 p3.2.2.2.2]), (.buf 39 T1383 ((att T814c p1 y1.1).2), [])]⟩) hV 1 [(5, {sb := 1})] {live := [4, 5], src := [some 0, some 1]} (by kernel_rfl) (by kernel_rfl) ⟨n4, n5, n6, trivial⟩ ?_
    refine th_n ?_
    refine D_ret (by kernel_rfl) ?_
    obtain rfl := Option.some.inj H
    exact cq_r {fz := [], gr := 0, ad := [], live := [4, 5], src := [some 0, some 1]} (by kernel_rfl) (by kernel_rfl)
theorem i_ref09_Of_baa.ok {r : i_ref09_Of_baa.R} (k : Nat) (p1 : List T814c.T) (p2 : Int) (p3 : T1383.T) (H : i_ref09_Of_baa.f k p1 p2 p3 = some r) : W P 1 i_ref09_Of_baa.c0 (i_ref09_Of_baa.s0 p1 p2 p3) (CallQ 1 (i_ref09_Of_baa.out r)) := i_ref09_Of_baa.f_ok i_ref09_Of_baa.V_ok k p1 p2 p3 H
/-! ### i_ref09_with_b4d: function 54, wayfinder/wayfinderref09.with, where it is called -/
noncomputable def i_ref09_with_b4d.c0 : Code := (Go.Proofs.Try.f54.body).getD .skip
noncomputable def i_ref09_with_b4d.G : List (Nat × Spec) := []
noncomputable def i_ref09_with_b4d.V : Env := { tt := tt, Γ := slk i_ref09_with_b4d.G }
theorem i_ref09_with_b4d.V_ok : EnvOk P i_ref09_with_b4d.V := { ck := tt_ck, fits := slk_nil, mixed := mixed }
abbrev i_ref09_with_b4d.R := (List T814c.T) × Unit
noncomputable def i_ref09_with_b4d.s0 (p1 : List T814c.T) (p2 : Int) (p3 : List T1383.T) : St := ⟨16, [(0, .cv (.one (.sl T814c p1 .any))), (1, .cv (.one (.int .i64 p2))), (2, .cv (.one (.own 0)))], [(.buf 39 T1383 p3, [])]⟩
noncomputable def i_ref09_with_b4d.out (r : i_ref09_with_b4d.R) : St := ⟨16, [(6, .cv (.one (.own 1)))], [(.dead, []), (.buf 49 T814c r.1, [])]⟩
abbrev i_ref09_with_b4d.Q (r : i_ref09_with_b4d.R) := CallQ 1 (i_ref09_with_b4d.out r)
noncomputable def i_ref09_with_b4d.f (k : Nat) (p1 : List T814c.T) (p2 : Int) (p3 : List T1383.T) : Option i_ref09_with_b4d.R :=
  if p1.length * 32 ≤ 140737488355328 then
    if 0 ≤ p2 then
      if p2 < (p1.length : Int) then
        some ((p1.set p2.toNat ((att T814c p1 p2).1, p3)), ())
      else none
    else none
  else none
theorem i_ref09_with_b4d.f_ok (hV : EnvOk P i_ref09_with_b4d.V) {r : i_ref09_with_b4d.R} (k : Nat) (p1 : List T814c.T) (p2 : Int) (p3 : List T1383.T) (H : i_ref09_with_b4d.f k p1 p2 p3 = some r) : W P 1 i_ref09_with_b4d.c0 (⟨16, [(0, .cv (.one (.sl T814c p1 .any))), (1, .cv (.one (.int .i64 p2))), (2, .cv (.one (.own 0)))], [(.buf 39 T1383 p3, [])]⟩) (i_ref09_with_b4d.Q r) := by
  unfold i_ref09_with_b4d.f at H
  refine D_seq (by kernel_rfl) ?_
  refine D_reg (cs := []) (τ := ⟨16, [(0, .cv (.one (.sl T814c p1 .any))), (1, .cv (.one (.int .i64 p2))), (2, .cv (.one (.own 0)))], [(.buf 39 T1383 p3, [])]⟩) hV 0 [] {live := [0, 1, 2], src := [some 0]} (by kernel_rfl) (by kernel_rfl) trivial ?_
  refine th_n ?_
  refine D_seq (by kernel_rfl) ?_
  obtain ⟨n1, H⟩ := of_if H
  refine D_reg (cs := [p1.length * 32 ≤ 140737488355328]) (τ := ⟨16, [(1, .cv (.one (.int .i64 p2))), (2, .cv (.one (.own 0))), (7, .cv (.one (.own 1)))], [(.buf 39 T1383 p3, []), (.buf 49 T814c p1, [])]⟩) hV 1 [(1, {sb := 1})] {live := [1, 2, 7], src := [some 0, some 1]} (by kernel_rfl) (by kernel_rfl) ⟨n1, trivial⟩ ?_
  refine th_n ?_
  refine D_seq (by kernel_rfl) ?_
  refine W_tell (τ := ⟨16, [(1, .cv (.one (.int .i64 p2))), (2, .cv (.one (.sl T1383 p3 .any))), (7, .cv (.one (.own 1)))], [(.dead, []), (.buf 49 T814c p1, [])]⟩) {fz := [0], live := [1, 2, 7], src := [some 0, some 1]} (by kernel_rfl) (by kernel_rfl) ?_
  obtain ⟨n2, H⟩ := of_if H
  obtain ⟨n3, H⟩ := of_if H
  refine D_reg (cs := [0 ≤ p2, p2 < (p1.length : Int)]) (τ := ⟨16, [(7, .cv (.one (.own 1)))], [(.dead, []), (.buf 49 T814c (p1.set p2.toNat ((att T814c p1 p2).1, p3)), [])]⟩) hV 0 [] {live := [7], src := [some 0, some 1]} (by kernel_rfl) (by kernel_rfl) ⟨n2, n3, trivial⟩ ?_
  refine th_n ?_
  refine D_seq (by kernel_rfl) ?_
  refine D_reg (cs := []) (τ := ⟨16, [(6, .cv (.one (.own 1)))], [(.dead, []), (.buf 49 T814c (p1.set p2.toNat ((att T814c p1 p2).1, p3)), [])]⟩) hV 0 [] {live := [6], src := [some 0, some 1]} (by kernel_rfl) (by kernel_rfl) trivial ?_
  refine th_n ?_
  refine D_ret (by kernel_rfl) ?_
  obtain rfl := Option.some.inj H
  exact cq_r {fz := [], gr := 0, ad := [], live := [6], src := [some 0, some 1]} (by kernel_rfl) (by kernel_rfl)
theorem i_ref09_with_b4d.ok {r : i_ref09_with_b4d.R} (k : Nat) (p1 : List T814c.T) (p2 : Int) (p3 : List T1383.T) (H : i_ref09_with_b4d.f k p1 p2 p3 = some r) : W P 1 i_ref09_with_b4d.c0 (i_ref09_with_b4d.s0 p1 p2 p3) (CallQ 1 (i_ref09_with_b4d.out r)) := i_ref09_with_b4d.f_ok i_ref09_with_b4d.V_ok k p1 p2 p3 H
/-! ### f_ref09_Put: function 27, wayfinder/wayfinderref09.Put -/
abbrev f_ref09_Put.ps : Sg := [(false, (.slice T814c)), (false, (.int .i64)), (true, T1383), (false, (.int .i64))]
abbrev f_ref09_Put.rs : Sg := [(false, (.slice T814c)), (false, (.int .i64))]
noncomputable def f_ref09_Put.c0 : Code := (Go.Proofs.Try.f27.body).getD .skip
noncomputable def f_ref09_Put.G : List (Nat × Spec) := [(33, f_ref09_Size.S), (52, f_ref04_May.S), (53, f_ref04_Alike.S), (55, f_ref09_where.S)]
noncomputable def f_ref09_Put.V : Env := { tt := tt, Γ := slk f_ref09_Put.G }
noncomputable abbrev f_ref09_Put.Q (r : Tup f_ref09_Put.rs) : Exit → St → Prop := Qr tt Go.Proofs.Try.f27.results ⟨f_ref09_Put.ps, f_ref09_Put.rs, .any, none, fun _ _ => True⟩ r
abbrev f_ref09_Put.R := Tup f_ref09_Put.rs
noncomputable def f_ref09_Put.s1 (p1 : List T814c.T) (p2 : Int) (p3 : Int) (p4 : Bool) (p5 : T1383.T) : St := ⟨117, [(0, .cv (.one (.sl T814c p1 .any))), (1, .cv (.one (.int .i64 p2))), (3, .cv (.one (.int .i64 p3))), (6, .cv (.one (.ptr 0 0))), (29, .cv (.one (.bool p4)))], [(.box 6, [.int .i64 p5.1.1, .int .i64 p5.1.2, .int .i64 p5.2.1, .int .i64 p5.2.2.1, .int .i64 p5.2.2.2.1, .int .i64 p5.2.2.2.2])]⟩
noncomputable def f_ref09_Put.s2 (p1 : List T814c.T) (p2 : Int) (p3 : Int) (p4 : Bool) (p5 : Int) (p6 : T1383.T) (p7 : List T1383.T) : St := ⟨117, [(0, .cv (.one (.sl T814c p1 .any))), (1, .cv (.one (.int .i64 p2))), (3, .cv (.one (.int .i64 p3))), (6, .cv (.one (.ptr 0 0))), (11, .cv (.one (.own 1))), (12, .cv (.one (.bool p4))), (13, .cv (.one (.int .i64 p5)))], [(.box 6, [.int .i64 p6.1.1, .int .i64 p6.1.2, .int .i64 p6.2.1, .int .i64 p6.2.2.1, .int .i64 p6.2.2.2.1, .int .i64 p6.2.2.2.2]), (.buf 39 T1383 p7, [])]⟩
noncomputable def f_ref09_Put.s3 (p1 : List T814c.T) (p2 : Int) (p3 : Bool) (p4 : Int) (p5 : T1383.T) (p6 : List T814c.T) : St := ⟨117, [(0, .cv (.one (.sl T814c p1 .any))), (1, .cv (.one (.int .i64 p2))), (6, .cv (.one (.ptr 0 0))), (15, .cv (.one (.own 1))), (16, .cv (.one (.bool p3))), (17, .cv (.one (.int .i64 p4)))], [(.box 6, [.int .i64 p5.1.1, .int .i64 p5.1.2, .int .i64 p5.2.1, .int .i64 p5.2.2.1, .int .i64 p5.2.2.2.1, .int .i64 p5.2.2.2.2]), (.buf 49 T814c p6, [])]⟩
noncomputable def f_ref09_Put.s5 (p1 : List T814c.T) (p2 : Int) (p3 : Bool) (p4 : Int) (p5 : Bool) (p6 : T1383.T) (p7 : List T814c.T) : St := ⟨117, [(0, .cv (.one (.sl T814c p1 .any))), (1, .cv (.one (.int .i64 p2))), (6, .cv (.one (.ptr 0 0))), (15, .cv (.one (.own 1))), (16, .cv (.one (.bool p3))), (17, .cv (.one (.int .i64 p4))), (92, .cv (.one (.bool p5)))], [(.box 6, [.int .i64 p6.1.1, .int .i64 p6.1.2, .int .i64 p6.2.1, .int .i64 p6.2.2.1, .int .i64 p6.2.2.2.1, .int .i64 p6.2.2.2.2]), (.buf 49 T814c p7, [])]⟩
noncomputable def f_ref09_Put.s4 (p1 : List T814c.T) (p2 : Int) (p3 : Bool) (p4 : Int) (p5 : T1383.T) (p6 : List T814c.T) : St := ⟨117, [(0, .cv (.one (.sl T814c p1 .any))), (1, .cv (.one (.int .i64 p2))), (6, .cv (.one (.ptr 0 0))), (15, .cv (.one (.own 1))), (16, .cv (.one (.bool p3))), (17, .cv (.one (.int .i64 p4)))], [(.box 6, [.int .i64 p5.1.1, .int .i64 p5.1.2, .int .i64 p5.2.1, .int .i64 p5.2.2.1, .int .i64 p5.2.2.2.1, .int .i64 p5.2.2.2.2]), (.buf 49 T814c p6, [])]⟩
noncomputable def f_ref09_Put.j4 (L3 : List T814c.T → Int → Bool → Int → T1383.T → List T814c.T → Option f_ref09_Put.R) (k : Nat) (p1 : List T814c.T) (p2 : Int) (p3 : Bool) (p4 : Int) (p5 : T1383.T) (p6 : List T814c.T) : Option f_ref09_Put.R :=
  if 0 ≤ p4 then
  if p4 < (p1.length : Int) then
    if (p6.length + 1) * 32 ≤ 140737488355328 then
      L3 p1 p2 p3 (IntKind.i64.wrap (p4 + 1)) p5 (p6 ++ [(att T814c p1 p4)])
    else none
  else none
else none
theorem f_ref09_Put.j4_ok (hV : EnvOk P f_ref09_Put.V) {r : f_ref09_Put.R} (L3 : List T814c.T → Int → Bool → Int → T1383.T → List T814c.T → Option f_ref09_Put.R) (m3 : Nat) (hL3 : ∀ (p1 : List T814c.T) (p2 : Int) (p3 : Bool) (p4 : Int) (p5 : T1383.T) (p6 : List T814c.T), L3 p1 p2 p3 p4 p5 p6 = some r → WL P 0 (Code.l (Code.l (Code.r (Code.l (Code.r (Code.r (Code.r (Code.r (Code.r (Code.r (Code.r (Code.r (Code.r f_ref09_Put.c0))))))))))))) (blockW 2 (thenW P 0 (Code.r (Code.r (Code.r (Code.r (Code.r (Code.r (Code.r (Code.r (Code.r (Code.r f_ref09_Put.c0)))))))))) (f_ref09_Put.Q r))) m3 (f_ref09_Put.s3 p1 p2 p3 p4 p5 p6)) (k : Nat) (p1 : List T814c.T) (p2 : Int) (p3 : Bool) (p4 : Int) (p5 : T1383.T) (p6 : List T814c.T) (H : f_ref09_Put.j4 L3 k p1 p2 p3 p4 p5 p6 = some r) : W P 0 (Code.r (Code.l (Code.l (Code.r (Code.l (Code.l (Code.r (Code.l (Code.r (Code.r (Code.r (Code.r (Code.r (Code.r (Code.r (Code.r (Code.r f_ref09_Put.c0))))))))))))))))) (f_ref09_Put.s4 p1 p2 p3 p4 p5 p6) (blockW 3 (thenW P 0 (Code.r (Code.r (Code.l (Code.l (Code.r (Code.l (Code.r (Code.r (Code.r (Code.r (Code.r (Code.r (Code.r (Code.r (Code.r f_ref09_Put.c0))))))))))))))) (roundW P 0 (Code.l (Code.l (Code.r (Code.l (Code.r (Code.r (Code.r (Code.r (Code.r (Code.r (Code.r (Code.r (Code.r f_ref09_Put.c0))))))))))))) (blockW 2 (thenW P 0 (Code.r (Code.r (Code.r (Code.r (Code.r (Code.r (Code.r (Code.r (Code.r (Code.r f_ref09_Put.c0)))))))))) (f_ref09_Put.Q r))) m3))) := by
  unfold f_ref09_Put.j4 at H
  obtain ⟨n32, H⟩ := of_if H
  obtain ⟨n33, H⟩ := of_if H
  obtain ⟨n34, H⟩ := of_if H
  refine D_reg (cs := [0 ≤ p4, p4 < (p1.length : Int), (p6.length + 1) * 32 ≤ 140737488355328]) (τ := ⟨117, [(0, .cv (.one (.sl T814c p1 .any))), (1, .cv (.one (.int .i64 p2))), (6, .cv (.one (.ptr 0 0))), (15, .cv (.one (.own 1))), (16, .cv (.one (.bool p3))), (17, .cv (.one (.int .i64 p4)))], [(.box 6, [.int .i64 p5.1.1, .int .i64 p5.1.2, .int .i64 p5.2.1, .int .i64 p5.2.2.1, .int .i64 p5.2.2.2.1, .int .i64 p5.2.2.2.2]), (.buf 49 T814c (p6 ++ [(att T814c p1 p4)]), [])]⟩) hV 1 [(6, {sb := 2})] {live := [0, 1, 6, 15, 16, 17], src := [some 0, some 2]} (by kernel_rfl) (by kernel_rfl) ⟨n32, n33, n34, trivial⟩ ?_
  refine bl_n ?_
  refine th_n ?_
  refine D_reg (cs := []) (τ := ⟨117, [(0, .cv (.one (.sl T814c p1 .any))), (1, .cv (.one (.int .i64 p2))), (6, .cv (.one (.ptr 0 0))), (15, .cv (.one (.own 1))), (16, .cv (.one (.bool p3))), (17, .cv (.one (.int .i64 (IntKind.i64.wrap (p4 + 1)))))], [(.box 6, [.int .i64 p5.1.1, .int .i64 p5.1.2, .int .i64 p5.2.1, .int .i64 p5.2.2.1, .int .i64 p5.2.2.2.1, .int .i64 p5.2.2.2.2]), (.buf 49 T814c (p6 ++ [(att T814c p1 p4)]), [])]⟩) hV 0 [] {live := [0, 1, 6, 15, 16, 17], src := [some 0, some 1]} (by kernel_rfl) (by kernel_rfl) trivial ?_
  refine ro_n (WL_tell (τ := f_ref09_Put.s3 p1 p2 p3 (IntKind.i64.wrap (p4 + 1)) p5 (p6 ++ [(att T814c p1 p4)])) {fz := [], gr := 0, ad := [], live := [0, 1, 6, 15, 16, 17], src := [some 0, some 1]} (by kernel_rfl) (by kernel_rfl) ?_)
  exact hL3 p1 p2 p3 (IntKind.i64.wrap (p4 + 1)) p5 (p6 ++ [(att T814c p1 p4)]) H
noncomputable def f_ref09_Put.j5 (L3 : List T814c.T → Int → Bool → Int → T1383.T → List T814c.T → Option f_ref09_Put.R) (k : Nat) (p1 : List T814c.T) (p2 : Int) (p3 : Bool) (p4 : Int) (p5 : Bool) (p6 : T1383.T) (p7 : List T814c.T) : Option f_ref09_Put.R :=
  if p5 = true then
  if (p7.length + 1) * 32 ≤ 140737488355328 then
    f_ref09_Put.j4 L3 k p1 p2 true p4 p6 (p7 ++ [(p2, [p6])])
  else none
else
  f_ref09_Put.j4 L3 k p1 p2 p3 p4 p6 p7
theorem f_ref09_Put.j5_ok (hV : EnvOk P f_ref09_Put.V) {r : f_ref09_Put.R} (L3 : List T814c.T → Int → Bool → Int → T1383.T → List T814c.T → Option f_ref09_Put.R) (m3 : Nat) (hL3 : ∀ (p1 : List T814c.T) (p2 : Int) (p3 : Bool) (p4 : Int) (p5 : T1383.T) (p6 : List T814c.T), L3 p1 p2 p3 p4 p5 p6 = some r → WL P 0 (Code.l (Code.l (Code.r (Code.l (Code.r (Code.r (Code.r (Code.r (Code.r (Code.r (Code.r (Code.r (Code.r f_ref09_Put.c0))))))))))))) (blockW 2 (thenW P 0 (Code.r (Code.r (Code.r (Code.r (Code.r (Code.r (Code.r (Code.r (Code.r (Code.r f_ref09_Put.c0)))))))))) (f_ref09_Put.Q r))) m3 (f_ref09_Put.s3 p1 p2 p3 p4 p5 p6)) (k : Nat) (p1 : List T814c.T) (p2 : Int) (p3 : Bool) (p4 : Int) (p5 : Bool) (p6 : T1383.T) (p7 : List T814c.T) (H : f_ref09_Put.j5 L3 k p1 p2 p3 p4 p5 p6 p7 = some r) : W P 0 (Code.r (Code.l (Code.l (Code.l (Code.r (Code.l (Code.l (Code.r (Code.l (Code.r (Code.r (Code.r (Code.r (Code.r (Code.r (Code.r (Code.r (Code.r f_ref09_Put.c0)))))))))))))))))) (f_ref09_Put.s5 p1 p2 p3 p4 p5 p6 p7) (thenW P 0 (Code.r (Code.l (Code.l (Code.r (Code.l (Code.l (Code.r (Code.l (Code.r (Code.r (Code.r (Code.r (Code.r (Code.r (Code.r (Code.r (Code.r f_ref09_Put.c0))))))))))))))))) (blockW 3 (thenW P 0 (Code.r (Code.r (Code.l (Code.l (Code.r (Code.l (Code.r (Code.r (Code.r (Code.r (Code.r (Code.r (Code.r (Code.r (Code.r f_ref09_Put.c0))))))))))))))) (roundW P 0 (Code.l (Code.l (Code.r (Code.l (Code.r (Code.r (Code.r (Code.r (Code.r (Code.r (Code.r (Code.r (Code.r f_ref09_Put.c0))))))))))))) (blockW 2 (thenW P 0 (Code.r (Code.r (Code.r (Code.r (Code.r (Code.r (Code.r (Code.r (Code.r (Code.r f_ref09_Put.c0)))))))))) (f_ref09_Put.Q r))) m3)))) := by
  unfold f_ref09_Put.j5 at H
  refine D_condB (t := 92) (b := p5) (by kernel_rfl) (by kernel_rfl) (fun hb30 => ?_) (fun hb30 => ?_)
  · rw [if_pos hb30] at H
    refine D_seq (by kernel_rfl) ?_
    obtain ⟨n31, H⟩ := of_if H
    refine D_reg (cs := [(p7.length + 1) * 32 ≤ 140737488355328]) (τ := ⟨117, [(0, .cv (.one (.sl T814c p1 .any))), (1, .cv (.one (.int .i64 p2))), (6, .cv (.one (.ptr 0 0))), (15, .cv (.one (.own 1))), (17, .cv (.one (.int .i64 p4)))], [(.box 6, [.int .i64 p6.1.1, .int .i64 p6.1.2, .int .i64 p6.2.1, .int .i64 p6.2.2.1, .int .i64 p6.2.2.2.1, .int .i64 p6.2.2.2.2]), (.buf 49 T814c (p7 ++ [(p2, [p6])]), [])]⟩) hV 1 [(6, {sb := 2})] {live := [0, 1, 6, 15, 17], src := [some 0, some 2]} (by kernel_rfl) (by kernel_rfl) ⟨n31, trivial⟩ ?_
    refine th_n ?_
    refine D_reg (cs := []) (τ := ⟨117, [(0, .cv (.one (.sl T814c p1 .any))), (1, .cv (.one (.int .i64 p2))), (6, .cv (.one (.ptr 0 0))), (15, .cv (.one (.own 1))), (16, .cv (.one (.bool true))), (17, .cv (.one (.int .i64 p4)))], [(.box 6, [.int .i64 p6.1.1, .int .i64 p6.1.2, .int .i64 p6.2.1, .int .i64 p6.2.2.1, .int .i64 p6.2.2.2.1, .int .i64 p6.2.2.2.2]), (.buf 49 T814c (p7 ++ [(p2, [p6])]), [])]⟩) hV 0 [] {live := [0, 1, 6, 15, 16, 17], src := [some 0, some 1]} (by kernel_rfl) (by kernel_rfl) trivial ?_
    refine th_n ?_
    refine W_tell (τ := f_ref09_Put.s4 p1 p2 true p4 p6 (p7 ++ [(p2, [p6])])) {fz := [], gr := 0, ad := [], live := [0, 1, 6, 15, 16, 17], src := [some 0, some 1]} (by kernel_rfl) (by kernel_rfl) ?_
    exact f_ref09_Put.j4_ok hV L3 m3 hL3 k p1 p2 true p4 p6 (p7 ++ [(p2, [p6])]) H
  · rw [if_neg (by rw [hb30]; decide)] at H
    refine D_skip (by kernel_rfl) ?_
    refine th_n ?_
    refine W_tell (τ := f_ref09_Put.s4 p1 p2 p3 p4 p6 p7) {fz := [], gr := 0, ad := [], live := [0, 1, 6, 15, 16, 17], src := [some 0, some 1]} (by kernel_rfl) (by kernel_rfl) ?_
    exact f_ref09_Put.j4_ok hV L3 m3 hL3 k p1 p2 p3 p4 p6 p7 H
noncomputable def f_ref09_Put.s6 (p1 : List T814c.T) : St := ⟨117, [(15, .cv (.one (.own 0)))], [(.buf 49 T814c p1, [])]⟩
noncomputable def f_ref09_Put.j6 (k : Nat) (p1 : List T814c.T) : Option f_ref09_Put.R :=
  some (p1, ((0 : Int), ()))
theorem f_ref09_Put.j6_ok (hV : EnvOk P f_ref09_Put.V) {r : f_ref09_Put.R} (k : Nat) (p1 : List T814c.T) (H : f_ref09_Put.j6 k p1 = some r) : W P 0 (Code.r (Code.r (Code.r (Code.r (Code.r (Code.r (Code.r (Code.r (Code.r (Code.r (Code.r f_ref09_Put.c0))))))))))) (f_ref09_Put.s6 p1) (f_ref09_Put.Q r) := by
  unfold f_ref09_Put.j6 at H
  refine D_seq (by kernel_rfl) ?_
  refine D_reg (cs := []) (τ := ⟨117, [(8, .cv (.one (.own 0))), (9, .cv (.one (.int .i64 0)))], [(.buf 49 T814c p1, [])]⟩) hV 0 [] {live := [8, 9], src := [some 0]} (by kernel_rfl) (by kernel_rfl) trivial ?_
  refine th_n ?_
  refine D_ret (by kernel_rfl) ?_
  exact lf_r (Eq.trans (by kernel_rfl) H)
noncomputable def f_ref09_Put.b3 (L3 : List T814c.T → Int → Bool → Int → T1383.T → List T814c.T → Option f_ref09_Put.R) (k : Nat) (p1 : List T814c.T) (p2 : Int) (p3 : Bool) (p4 : Int) (p5 : T1383.T) (p6 : List T814c.T) : Option f_ref09_Put.R :=
  if (decide (p4 < (p1.length : Int))) = true then
  if (!p3) = true then
    if 0 ≤ p4 then
      if p4 < (p1.length : Int) then
        f_ref09_Put.j5 L3 k p1 p2 p3 p4 (decide (((att T814c p1 p4).1) > p2)) p5 p6
      else none
    else none
  else
    f_ref09_Put.j5 L3 k p1 p2 p3 p4 false p5 p6
else
  if (!p3) = true then
    if (p6.length + 1) * 32 ≤ 140737488355328 then
      f_ref09_Put.j6 k (p6 ++ [(p2, [p5])])
    else none
  else
    f_ref09_Put.j6 k p6
theorem f_ref09_Put.b3_ok (hV : EnvOk P f_ref09_Put.V) {r : f_ref09_Put.R} (L3 : List T814c.T → Int → Bool → Int → T1383.T → List T814c.T → Option f_ref09_Put.R) (m3 : Nat) (hL3 : ∀ (p1 : List T814c.T) (p2 : Int) (p3 : Bool) (p4 : Int) (p5 : T1383.T) (p6 : List T814c.T), L3 p1 p2 p3 p4 p5 p6 = some r → WL P 0 (Code.l (Code.l (Code.r (Code.l (Code.r (Code.r (Code.r (Code.r (Code.r (Code.r (Code.r (Code.r (Code.r f_ref09_Put.c0))))))))))))) (blockW 2 (thenW P 0 (Code.r (Code.r (Code.r (Code.r (Code.r (Code.r (Code.r (Code.r (Code.r (Code.r f_ref09_Put.c0)))))))))) (f_ref09_Put.Q r))) m3 (f_ref09_Put.s3 p1 p2 p3 p4 p5 p6)) (k : Nat) (p1 : List T814c.T) (p2 : Int) (p3 : Bool) (p4 : Int) (p5 : T1383.T) (p6 : List T814c.T) (H : f_ref09_Put.b3 L3 k p1 p2 p3 p4 p5 p6 = some r) : W P 0 (Code.l (Code.l (Code.r (Code.l (Code.r (Code.r (Code.r (Code.r (Code.r (Code.r (Code.r (Code.r (Code.r f_ref09_Put.c0))))))))))))) (f_ref09_Put.s3 p1 p2 p3 p4 p5 p6) (roundW P 0 (Code.l (Code.l (Code.r (Code.l (Code.r (Code.r (Code.r (Code.r (Code.r (Code.r (Code.r (Code.r (Code.r f_ref09_Put.c0))))))))))))) (blockW 2 (thenW P 0 (Code.r (Code.r (Code.r (Code.r (Code.r (Code.r (Code.r (Code.r (Code.r (Code.r f_ref09_Put.c0)))))))))) (f_ref09_Put.Q r))) m3) := by
  unfold f_ref09_Put.b3 at H
  refine D_seq (by kernel_rfl) ?_
  refine D_seq (by kernel_rfl) ?_
  refine D_reg (cs := []) (τ := ⟨117, [(0, .cv (.one (.sl T814c p1 .any))), (1, .cv (.one (.int .i64 p2))), (6, .cv (.one (.ptr 0 0))), (15, .cv (.one (.own 1))), (16, .cv (.one (.bool p3))), (17, .cv (.one (.int .i64 p4))), (79, .cv (.one (.bool (decide (p4 < (p1.length : Int))))))], [(.box 6, [.int .i64 p5.1.1, .int .i64 p5.1.2, .int .i64 p5.2.1, .int .i64 p5.2.2.1, .int .i64 p5.2.2.2.1, .int .i64 p5.2.2.2.2]), (.buf 49 T814c p6, [])]⟩) hV 0 [] {live := [0, 1, 6, 15, 16, 17, 79], src := [some 0, some 1]} (by kernel_rfl) (by kernel_rfl) trivial ?_
  refine th_n ?_
  refine D_condB (t := 79) (b := (decide (p4 < (p1.length : Int)))) (by kernel_rfl) (by kernel_rfl) (fun hb26 => ?_) (fun hb26 => ?_)
  · rw [if_pos hb26] at H
    refine D_skip (by kernel_rfl) ?_
    refine th_n ?_
    refine D_seq (by kernel_rfl) ?_
    refine D_block (id := 3) (by kernel_rfl) ?_
    refine D_seq (by kernel_rfl) ?_
    refine D_seq (by kernel_rfl) ?_
    rcases of_ite H with ⟨hb27, H⟩ | ⟨hb27, H⟩
    · obtain ⟨n28, H⟩ := of_if H
      obtain ⟨n29, H⟩ := of_if H
      refine D_reg (cs := [((!p3)) = true, 0 ≤ p4, p4 < (p1.length : Int)]) (τ := ⟨117, [(0, .cv (.one (.sl T814c p1 .any))), (1, .cv (.one (.int .i64 p2))), (6, .cv (.one (.ptr 0 0))), (15, .cv (.one (.own 1))), (16, .cv (.one (.bool p3))), (17, .cv (.one (.int .i64 p4))), (92, .cv (.one (.bool (decide (((att T814c p1 p4).1) > p2)))))], [(.box 6, [.int .i64 p5.1.1, .int .i64 p5.1.2, .int .i64 p5.2.1, .int .i64 p5.2.2.1, .int .i64 p5.2.2.2.1, .int .i64 p5.2.2.2.2]), (.buf 49 T814c p6, [])]⟩) hV 0 [(1, {bv := some true})] {live := [0, 1, 6, 15, 16, 17, 92], src := [some 0, some 1]} (by kernel_rfl) (by kernel_rfl) ⟨hb27, n28, n29, trivial⟩ ?_
      refine th_n ?_
      refine W_tell (τ := f_ref09_Put.s5 p1 p2 p3 p4 (decide (((att T814c p1 p4).1) > p2)) p5 p6) {fz := [], gr := 0, ad := [], live := [0, 1, 6, 15, 16, 17, 92], src := [some 0, some 1]} (by kernel_rfl) (by kernel_rfl) ?_
      exact f_ref09_Put.j5_ok hV L3 m3 hL3 k p1 p2 p3 p4 (decide (((att T814c p1 p4).1) > p2)) p5 p6 H
    · refine D_reg (cs := [((!p3)) = false]) (τ := ⟨117, [(0, .cv (.one (.sl T814c p1 .any))), (1, .cv (.one (.int .i64 p2))), (6, .cv (.one (.ptr 0 0))), (15, .cv (.one (.own 1))), (16, .cv (.one (.bool p3))), (17, .cv (.one (.int .i64 p4))), (92, .cv (.one (.bool false)))], [(.box 6, [.int .i64 p5.1.1, .int .i64 p5.1.2, .int .i64 p5.2.1, .int .i64 p5.2.2.1, .int .i64 p5.2.2.2.1, .int .i64 p5.2.2.2.2]), (.buf 49 T814c p6, [])]⟩) hV 0 [(1, {bv := some false})] {live := [0, 1, 6, 15, 16, 17, 92], src := [some 0, some 1]} (by kernel_rfl) (by kernel_rfl) ⟨hb27, trivial⟩ ?_
      refine th_n ?_
      refine W_tell (τ := f_ref09_Put.s5 p1 p2 p3 p4 false p5 p6) {fz := [], gr := 0, ad := [], live := [0, 1, 6, 15, 16, 17, 92], src := [some 0, some 1]} (by kernel_rfl) (by kernel_rfl) ?_
      exact f_ref09_Put.j5_ok hV L3 m3 hL3 k p1 p2 p3 p4 false p5 p6 H
  · rw [if_neg (by rw [hb26]; decide)] at H
    refine D_exit (id := 2) (by kernel_rfl) ?_
    refine th_x ?_
    refine ro_x ?_
    refine bl_h ?_
    refine th_n ?_
    refine D_seq (by kernel_rfl) ?_
    refine D_seq (by kernel_rfl) ?_
    refine D_reg (cs := []) (τ := ⟨117, [(1, .cv (.one (.int .i64 p2))), (6, .cv (.one (.ptr 0 0))), (15, .cv (.one (.own 1))), (108, .cv (.one (.bool (!p3))))], [(.box 6, [.int .i64 p5.1.1, .int .i64 p5.1.2, .int .i64 p5.2.1, .int .i64 p5.2.2.1, .int .i64 p5.2.2.2.1, .int .i64 p5.2.2.2.2]), (.buf 49 T814c p6, [])]⟩) hV 0 [] {live := [1, 6, 15, 108], src := [some 0, some 1]} (by kernel_rfl) (by kernel_rfl) trivial ?_
    refine th_n ?_
    refine D_condB (t := 108) (b := (!p3)) (by kernel_rfl) (by kernel_rfl) (fun hb35 => ?_) (fun hb35 => ?_)
    · rw [if_pos hb35] at H
      obtain ⟨n36, H⟩ := of_if H
      refine D_reg (cs := [(p6.length + 1) * 32 ≤ 140737488355328]) (τ := ⟨117, [(15, .cv (.one (.own 0)))], [(.buf 49 T814c (p6 ++ [(p2, [p5])]), [])]⟩) hV 1 [(6, {sb := 2})] {live := [15], src := [some 2]} (by kernel_rfl) (by kernel_rfl) ⟨n36, trivial⟩ ?_
      refine th_n ?_
      refine W_tell (τ := f_ref09_Put.s6 (p6 ++ [(p2, [p5])])) {fz := [], gr := 0, ad := [], live := [15], src := [some 0]} (by kernel_rfl) (by kernel_rfl) ?_
      exact f_ref09_Put.j6_ok hV k (p6 ++ [(p2, [p5])]) H
    · rw [if_neg (by rw [hb35]; decide)] at H
      refine D_skip (by kernel_rfl) ?_
      refine th_n ?_
      refine W_tell (τ := f_ref09_Put.s6 p6) {fz := [], gr := 0, ad := [], live := [15], src := [some 1]} (by kernel_rfl) (by kernel_rfl) ?_
      exact f_ref09_Put.j6_ok hV k p6 H
noncomputable def f_ref09_Put.l3 (k : Nat) : Nat → List T814c.T → Int → Bool → Int → T1383.T → List T814c.T → Option f_ref09_Put.R
  | 0, _, _, _, _, _, _ => none
  | m + 1, p1, p2, p3, p4, p5, p6 => f_ref09_Put.b3 (f_ref09_Put.l3 k m) k p1 p2 p3 p4 p5 p6
theorem f_ref09_Put.l3_ok (hV : EnvOk P f_ref09_Put.V) {r : f_ref09_Put.R} (k : Nat) : ∀ (m3 : Nat) (p1 : List T814c.T) (p2 : Int) (p3 : Bool) (p4 : Int) (p5 : T1383.T) (p6 : List T814c.T), f_ref09_Put.l3 k m3 p1 p2 p3 p4 p5 p6 = some r → WL P 0 (Code.l (Code.l (Code.r (Code.l (Code.r (Code.r (Code.r (Code.r (Code.r (Code.r (Code.r (Code.r (Code.r f_ref09_Put.c0))))))))))))) (blockW 2 (thenW P 0 (Code.r (Code.r (Code.r (Code.r (Code.r (Code.r (Code.r (Code.r (Code.r (Code.r f_ref09_Put.c0)))))))))) (f_ref09_Put.Q r))) m3 (f_ref09_Put.s3 p1 p2 p3 p4 p5 p6)
  | 0, _, _, _, _, _, _, H => by cases H
  | m3 + 1, p1, p2, p3, p4, p5, p6, H => WL_succ (f_ref09_Put.b3_ok hV (f_ref09_Put.l3 k m3) m3 (fun p1 p2 p3 p4 p5 p6 H => f_ref09_Put.l3_ok hV k m3 p1 p2 p3 p4 p5 p6 H) k p1 p2 p3 p4 p5 p6 H)
noncomputable def f_ref09_Put.b2 (L2 : List T814c.T → Int → Int → Bool → Int → T1383.T → List T1383.T → Option f_ref09_Put.R) (k : Nat) (p1 : List T814c.T) (p2 : Int) (p3 : Int) (p4 : Bool) (p5 : Int) (p6 : T1383.T) (p7 : List T1383.T) : Option f_ref09_Put.R :=
  if (decide (p5 < (p7.length : Int))) = true then
  if 0 ≤ p5 then
    if p5 < (p7.length : Int) then
      (f_ref04_Alike.f k (att T1383 p7 p5) p6).bind fun y8 =>
        if y8.1 = true then
          (f_ref09_where.f k p1 p2).bind fun y13 =>
            (i_ref09_with_b4d.f k p1 y13.1 (p7.set p5.toNat p6)).bind fun y15 =>
              some (y15.1, ((0 : Int), ()))
        else
          L2 p1 p2 p3 p4 (IntKind.i64.wrap (p5 + 1)) p6 p7
    else none
  else none
else
  (f_ref09_Size.f k p1).bind fun y17 =>
    if (decide (y17.1 ≥ p3)) = true then
      some (p1, ((7 : Int), ()))
    else
      if p4 = true then
        if (p7.length + 1) * 48 ≤ 140737488355328 then
          (f_ref09_where.f k p1 p2).bind fun y22 =>
            (i_ref09_with_b4d.f k p1 y22.1 (p7 ++ [p6])).bind fun y24 =>
              some (y24.1, ((0 : Int), ()))
        else none
      else
        f_ref09_Put.l3 k k p1 p2 false 0 p6 []
theorem f_ref09_Put.b2_ok (hV : EnvOk P f_ref09_Put.V) {r : f_ref09_Put.R} (L2 : List T814c.T → Int → Int → Bool → Int → T1383.T → List T1383.T → Option f_ref09_Put.R) (m2 : Nat) (hL2 : ∀ (p1 : List T814c.T) (p2 : Int) (p3 : Int) (p4 : Bool) (p5 : Int) (p6 : T1383.T) (p7 : List T1383.T), L2 p1 p2 p3 p4 p5 p6 p7 = some r → WL P 0 (Code.l (Code.l (Code.r (Code.l (Code.r (Code.r (Code.r (Code.r f_ref09_Put.c0)))))))) (blockW 0 (thenW P 0 (Code.r (Code.r (Code.r (Code.r (Code.r f_ref09_Put.c0))))) (f_ref09_Put.Q r))) m2 (f_ref09_Put.s2 p1 p2 p3 p4 p5 p6 p7)) (k : Nat) (p1 : List T814c.T) (p2 : Int) (p3 : Int) (p4 : Bool) (p5 : Int) (p6 : T1383.T) (p7 : List T1383.T) (H : f_ref09_Put.b2 L2 k p1 p2 p3 p4 p5 p6 p7 = some r) : W P 0 (Code.l (Code.l (Code.r (Code.l (Code.r (Code.r (Code.r (Code.r f_ref09_Put.c0)))))))) (f_ref09_Put.s2 p1 p2 p3 p4 p5 p6 p7) (roundW P 0 (Code.l (Code.l (Code.r (Code.l (Code.r (Code.r (Code.r (Code.r f_ref09_Put.c0)))))))) (blockW 0 (thenW P 0 (Code.r (Code.r (Code.r (Code.r (Code.r f_ref09_Put.c0))))) (f_ref09_Put.Q r))) m2) := by
  unfold f_ref09_Put.b2 at H
  refine D_seq (by kernel_rfl) ?_
  refine D_seq (by kernel_rfl) ?_
  refine D_reg (cs := []) (τ := ⟨117, [(0, .cv (.one (.sl T814c p1 .any))), (1, .cv (.one (.int .i64 p2))), (3, .cv (.one (.int .i64 p3))), (6, .cv (.one (.ptr 0 0))), (11, .cv (.one (.own 1))), (12, .cv (.one (.bool p4))), (13, .cv (.one (.int .i64 p5))), (40, .cv (.one (.bool (decide (p5 < (p7.length : Int))))))], [(.box 6, [.int .i64 p6.1.1, .int .i64 p6.1.2, .int .i64 p6.2.1, .int .i64 p6.2.2.1, .int .i64 p6.2.2.2.1, .int .i64 p6.2.2.2.2]), (.buf 39 T1383 p7, [])]⟩) hV 0 [] {live := [0, 1, 3, 6, 11, 12, 13, 40], src := [some 0, some 1]} (by kernel_rfl) (by kernel_rfl) trivial ?_
  refine th_n ?_
  refine D_condB (t := 40) (b := (decide (p5 < (p7.length : Int)))) (by kernel_rfl) (by kernel_rfl) (fun hb7 => ?_) (fun hb7 => ?_)
  · rw [if_pos hb7] at H
    refine D_skip (by kernel_rfl) ?_
    refine th_n ?_
    refine D_seq (by kernel_rfl) ?_
    refine D_block (id := 1) (by kernel_rfl) ?_
    refine D_seq (by kernel_rfl) ?_
    obtain ⟨n9, H⟩ := of_if H
    obtain ⟨n10, H⟩ := of_if H
    obtain ⟨y8, e11, H⟩ := of_bind H
    refine D_reg (cs := [0 ≤ p5, p5 < (p7.length : Int), f_ref04_Alike.S.rel ((att T1383 p7 p5), p6, ()) y8]) (τ := ⟨117, [(0, .cv (.one (.sl T814c p1 .any))), (1, .cv (.one (.int .i64 p2))), (3, .cv (.one (.int .i64 p3))), (6, .cv (.one (.ptr 0 0))), (11, .cv (.one (.own 1))), (12, .cv (.one (.bool p4))), (13, .cv (.one (.int .i64 p5))), (14, .cv (.one (.bool y8.1)))], [(.box 6, [.int .i64 p6.1.1, .int .i64 p6.1.2, .int .i64 p6.2.1, .int .i64 p6.2.2.1, .int .i64 p6.2.2.2.1, .int .i64 p6.2.2.2.2]), (.buf 39 T1383 p7, [])]⟩) hV 0 [(5, {res := some ⟨f_ref04_Alike.S.rs, y8⟩})] {live := [0, 1, 3, 6, 11, 12, 13, 14], src := [some 0, some 1]} (by kernel_rfl) (by kernel_rfl) ⟨n9, n10, ⟨k, e11⟩, trivial⟩ ?_
    refine th_n ?_
    refine D_seq (by kernel_rfl) ?_
    refine D_reg (cs := []) (τ := ⟨117, [(0, .cv (.one (.sl T814c p1 .any))), (1, .cv (.one (.int .i64 p2))), (3, .cv (.one (.int .i64 p3))), (6, .cv (.one (.ptr 0 0))), (11, .cv (.one (.own 1))), (12, .cv (.one (.bool p4))), (13, .cv (.one (.int .i64 p5))), (49, .cv (.one (.bool y8.1)))], [(.box 6, [.int .i64 p6.1.1, .int .i64 p6.1.2, .int .i64 p6.2.1, .int .i64 p6.2.2.1, .int .i64 p6.2.2.2.1, .int .i64 p6.2.2.2.2]), (.buf 39 T1383 p7, [])]⟩) hV 0 [] {live := [0, 1, 3, 6, 11, 12, 13, 49], src := [some 0, some 1]} (by kernel_rfl) (by kernel_rfl) trivial ?_
    refine th_n ?_
    refine D_condB (t := 49) (b := y8.1) (by kernel_rfl) (by kernel_rfl) (fun hb12 => ?_) (fun hb12 => ?_)
    · rw [if_pos hb12] at H
      refine D_seq (by kernel_rfl) ?_
      refine D_reg (cs := [0 ≤ p5, p5 < (p7.length : Int)]) (τ := ⟨117, [(0, .cv (.one (.sl T814c p1 .any))), (1, .cv (.one (.int .i64 p2))), (11, .cv (.one (.own 0)))], [(.buf 39 T1383 (p7.set p5.toNat p6), [])]⟩) hV 0 [] {live := [0, 1, 11], src := [some 1]} (by kernel_rfl) (by kernel_rfl) ⟨n9, n10, trivial⟩ ?_
      refine th_n ?_
      refine D_seq (by kernel_rfl) ?_
      refine D_regI [0, 1, 2, 3, 4, 5, 6, 7] (by kernel_rfl) (by kernel_rfl) ?_
      obtain ⟨y13, e14, H⟩ := of_bind H
      refine D_ev (cs := [f_ref09_where.S.rel (p1, p2, ()) y13]) (τ := ⟨117, [(0, .cv (.one (.sl T814c p1 .any))), (1, .cv (.one (.int .i64 p2))), (11, .cv (.one (.own 0))), (54, .cv (.one (.sl T814c p1 .any))), (55, .cv (.one (.sl T814c p1 .any))), (56, .cv (.one (.int .i64 p2))), (57, .cv (.one (.int .i64 y13.1))), (58, .cv (.one (.own 0)))], [(.buf 39 T1383 (p7.set p5.toNat p6), [])]⟩) hV 0 [(3, {res := some ⟨f_ref09_where.S.rs, y13⟩})] [0, 1, 2, 3, 4] [5, 6, 7] rfl (by kernel_rfl) ⟨⟨k, e14⟩, trivial⟩ ?_
      obtain ⟨y15, e16, H⟩ := of_bind H
      refine D_call (f := 54) (N := 1) (cvs := [.one (.sl T814c p1 .any), .one (.int .i64 y13.1), .one (.own 0)]) (σ0 := i_ref09_with_b4d.s0 p1 y13.1 (p7.set p5.toNat p6)) (τ := i_ref09_with_b4d.out y15) (σ2 := ⟨117, [(0, .cv (.one (.sl T814c p1 .any))), (1, .cv (.one (.int .i64 p2))), (11, .cv (.one (.own 0))), (54, .cv (.one (.sl T814c p1 .any))), (55, .cv (.one (.sl T814c p1 .any))), (56, .cv (.one (.int .i64 p2))), (57, .cv (.one (.int .i64 y13.1))), (58, .cv (.one (.own 0))), (59, .cv (.one (.own 1)))], [(.dead, []), (.buf 49 T814c y15.1, [])]⟩) hV 5 (by kernel_rfl) Go.Proofs.Try.func54 (by kernel_rfl) (by decide) (by kernel_rfl) (by kernel_rfl) (by kernel_rfl) (i_ref09_with_b4d.ok k p1 y13.1 (p7.set p5.toNat p6) e16) (by kernel_rfl) ?_
      refine D_ev (cs := []) (τ := ⟨117, [(0, .cv (.one (.sl T814c p1 .any))), (1, .cv (.one (.int .i64 p2))), (8, .cv (.one (.own 1))), (9, .cv (.one (.int .i64 0))), (11, .cv (.one (.own 0))), (54, .cv (.one (.sl T814c p1 .any))), (55, .cv (.one (.sl T814c p1 .any))), (56, .cv (.one (.int .i64 p2))), (57, .cv (.one (.int .i64 y13.1))), (58, .cv (.one (.own 0))), (59, .cv (.one (.own 1)))], [(.dead, []), (.buf 49 T814c y15.1, [])]⟩) hV 0 [] [6, 7] [] rfl (by kernel_rfl) trivial ?_
      refine WO_tell (τ := ⟨117, [(8, .cv (.one (.own 0))), (9, .cv (.one (.int .i64 0)))], [(.buf 49 T814c y15.1, [])]⟩) {live := [8, 9], src := [some 1]} (by kernel_rfl) (by kernel_rfl) ?_
      refine WO_nil ?_
      refine th_n ?_
      refine D_ret (by kernel_rfl) ?_
      refine bl_r ?_
      refine th_r ?_
      refine ro_r ?_
      refine bl_r ?_
      refine th_r ?_
      exact lf_r (Eq.trans (by kernel_rfl) H)
    · rw [if_neg (by rw [hb12]; decide)] at H
      refine D_skip (by kernel_rfl) ?_
      refine bl_n ?_
      refine th_n ?_
      refine D_reg (cs := []) (τ := ⟨117, [(0, .cv (.one (.sl T814c p1 .any))), (1, .cv (.one (.int .i64 p2))), (3, .cv (.one (.int .i64 p3))), (6, .cv (.one (.ptr 0 0))), (11, .cv (.one (.own 1))), (12, .cv (.one (.bool p4))), (13, .cv (.one (.int .i64 (IntKind.i64.wrap (p5 + 1)))))], [(.box 6, [.int .i64 p6.1.1, .int .i64 p6.1.2, .int .i64 p6.2.1, .int .i64 p6.2.2.1, .int .i64 p6.2.2.2.1, .int .i64 p6.2.2.2.2]), (.buf 39 T1383 p7, [])]⟩) hV 0 [] {live := [0, 1, 3, 6, 11, 12, 13], src := [some 0, some 1]} (by kernel_rfl) (by kernel_rfl) trivial ?_
      refine ro_n (WL_tell (τ := f_ref09_Put.s2 p1 p2 p3 p4 (IntKind.i64.wrap (p5 + 1)) p6 p7) {fz := [], gr := 0, ad := [], live := [0, 1, 3, 6, 11, 12, 13], src := [some 0, some 1]} (by kernel_rfl) (by kernel_rfl) ?_)
      exact hL2 p1 p2 p3 p4 (IntKind.i64.wrap (p5 + 1)) p6 p7 H
  · rw [if_neg (by rw [hb7]; decide)] at H
    refine D_exit (id := 0) (by kernel_rfl) ?_
    refine th_x ?_
    refine ro_x ?_
    refine bl_h ?_
    refine th_n ?_
    refine D_seq (by kernel_rfl) ?_
    refine D_seq (by kernel_rfl) ?_
    obtain ⟨y17, e18, H⟩ := of_bind H
    refine D_reg (cs := [f_ref09_Size.S.rel (p1, ()) y17]) (τ := ⟨117, [(0, .cv (.one (.sl T814c p1 .any))), (1, .cv (.one (.int .i64 p2))), (6, .cv (.one (.ptr 0 0))), (11, .cv (.one (.own 1))), (12, .cv (.one (.bool p4))), (63, .cv (.one (.bool (decide (y17.1 ≥ p3)))))], [(.box 6, [.int .i64 p6.1.1, .int .i64 p6.1.2, .int .i64 p6.2.1, .int .i64 p6.2.2.1, .int .i64 p6.2.2.2.1, .int .i64 p6.2.2.2.2]), (.buf 39 T1383 p7, [])]⟩) hV 0 [(1, {res := some ⟨f_ref09_Size.S.rs, y17⟩})] {live := [0, 1, 6, 11, 12, 63], src := [some 0, some 1]} (by kernel_rfl) (by kernel_rfl) ⟨⟨k, e18⟩, trivial⟩ ?_
    refine th_n ?_
    refine D_condB (t := 63) (b := (decide (y17.1 ≥ p3))) (by kernel_rfl) (by kernel_rfl) (fun hb19 => ?_) (fun hb19 => ?_)
    · rw [if_pos hb19] at H
      refine D_seq (by kernel_rfl) ?_
      refine D_reg (cs := []) (τ := ⟨117, [(8, .cv (.one (.sl T814c p1 .any))), (9, .cv (.one (.int .i64 7)))], []⟩) hV 0 [] {live := [8, 9], src := []} (by kernel_rfl) (by kernel_rfl) trivial ?_
      refine th_n ?_
      refine D_ret (by kernel_rfl) ?_
      refine th_r ?_
      exact lf_r (Eq.trans (by kernel_rfl) H)
    · rw [if_neg (by rw [hb19]; decide)] at H
      refine D_skip (by kernel_rfl) ?_
      refine th_n ?_
      refine D_seq (by kernel_rfl) ?_
      refine D_seq (by kernel_rfl) ?_
      refine D_reg (cs := []) (τ := ⟨117, [(0, .cv (.one (.sl T814c p1 .any))), (1, .cv (.one (.int .i64 p2))), (6, .cv (.one (.ptr 0 0))), (11, .cv (.one (.own 1))), (65, .cv (.one (.bool p4)))], [(.box 6, [.int .i64 p6.1.1, .int .i64 p6.1.2, .int .i64 p6.2.1, .int .i64 p6.2.2.1, .int .i64 p6.2.2.2.1, .int .i64 p6.2.2.2.2]), (.buf 39 T1383 p7, [])]⟩) hV 0 [] {live := [0, 1, 6, 11, 65], src := [some 0, some 1]} (by kernel_rfl) (by kernel_rfl) trivial ?_
      refine th_n ?_
      refine D_condB (t := 65) (b := p4) (by kernel_rfl) (by kernel_rfl) (fun hb20 => ?_) (fun hb20 => ?_)
      · rw [if_pos hb20] at H
        refine D_seq (by kernel_rfl) ?_
        obtain ⟨n21, H⟩ := of_if H
        refine D_reg (cs := [(p7.length + 1) * 48 ≤ 140737488355328]) (τ := ⟨117, [(0, .cv (.one (.sl T814c p1 .any))), (1, .cv (.one (.int .i64 p2))), (11, .cv (.one (.own 0)))], [(.buf 39 T1383 (p7 ++ [p6]), [])]⟩) hV 1 [(3, {sb := 2})] {live := [0, 1, 11], src := [some 2]} (by kernel_rfl) (by kernel_rfl) ⟨n21, trivial⟩ ?_
        refine th_n ?_
        refine D_seq (by kernel_rfl) ?_
        refine D_regI [0, 1, 2, 3, 4, 5, 6, 7] (by kernel_rfl) (by kernel_rfl) ?_
        obtain ⟨y22, e23, H⟩ := of_bind H
        refine D_ev (cs := [f_ref09_where.S.rel (p1, p2, ()) y22]) (τ := ⟨117, [(0, .cv (.one (.sl T814c p1 .any))), (1, .cv (.one (.int .i64 p2))), (11, .cv (.one (.own 0))), (70, .cv (.one (.sl T814c p1 .any))), (71, .cv (.one (.sl T814c p1 .any))), (72, .cv (.one (.int .i64 p2))), (73, .cv (.one (.int .i64 y22.1))), (74, .cv (.one (.own 0)))], [(.buf 39 T1383 (p7 ++ [p6]), [])]⟩) hV 0 [(3, {res := some ⟨f_ref09_where.S.rs, y22⟩})] [0, 1, 2, 3, 4] [5, 6, 7] rfl (by kernel_rfl) ⟨⟨k, e23⟩, trivial⟩ ?_
        obtain ⟨y24, e25, H⟩ := of_bind H
        refine D_call (f := 54) (N := 1) (cvs := [.one (.sl T814c p1 .any), .one (.int .i64 y22.1), .one (.own 0)]) (σ0 := i_ref09_with_b4d.s0 p1 y22.1 (p7 ++ [p6])) (τ := i_ref09_with_b4d.out y24) (σ2 := ⟨117, [(0, .cv (.one (.sl T814c p1 .any))), (1, .cv (.one (.int .i64 p2))), (11, .cv (.one (.own 0))), (70, .cv (.one (.sl T814c p1 .any))), (71, .cv (.one (.sl T814c p1 .any))), (72, .cv (.one (.int .i64 p2))), (73, .cv (.one (.int .i64 y22.1))), (74, .cv (.one (.own 0))), (75, .cv (.one (.own 1)))], [(.dead, []), (.buf 49 T814c y24.1, [])]⟩) hV 5 (by kernel_rfl) Go.Proofs.Try.func54 (by kernel_rfl) (by decide) (by kernel_rfl) (by kernel_rfl) (by kernel_rfl) (i_ref09_with_b4d.ok k p1 y22.1 (p7 ++ [p6]) e25) (by kernel_rfl) ?_
        refine D_ev (cs := []) (τ := ⟨117, [(0, .cv (.one (.sl T814c p1 .any))), (1, .cv (.one (.int .i64 p2))), (8, .cv (.one (.own 1))), (9, .cv (.one (.int .i64 0))), (11, .cv (.one (.own 0))), (70, .cv (.one (.sl T814c p1 .any))), (71, .cv (.one (.sl T814c p1 .any))), (72, .cv (.one (.int .i64 p2))), (73, .cv (.one (.int .i64 y22.1))), (74, .cv (.one (.own 0))), (75, .cv (.one (.own 1)))], [(.dead, []), (.buf 49 T814c y24.1, [])]⟩) hV 0 [] [6, 7] [] rfl (by kernel_rfl) trivial ?_
        refine WO_tell (τ := ⟨117, [(8, .cv (.one (.own 0))), (9, .cv (.one (.int .i64 0)))], [(.buf 49 T814c y24.1, [])]⟩) {live := [8, 9], src := [some 1]} (by kernel_rfl) (by kernel_rfl) ?_
        refine WO_nil ?_
        refine th_n ?_
        refine D_ret (by kernel_rfl) ?_
        refine th_r ?_
        exact lf_r (Eq.trans (by kernel_rfl) H)
      · rw [if_neg (by rw [hb20]; decide)] at H
        refine D_skip (by kernel_rfl) ?_
        refine th_n ?_
        refine D_seq (by kernel_rfl) ?_
        refine D_reg (cs := []) (τ := ⟨117, [(0, .cv (.one (.sl T814c p1 .any))), (1, .cv (.one (.int .i64 p2))), (6, .cv (.one (.ptr 0 0))), (15, .cv (.one (.nils)))], [(.box 6, [.int .i64 p6.1.1, .int .i64 p6.1.2, .int .i64 p6.2.1, .int .i64 p6.2.2.1, .int .i64 p6.2.2.2.1, .int .i64 p6.2.2.2.2])]⟩) hV 0 [] {live := [0, 1, 6, 15], src := [some 0]} (by kernel_rfl) (by kernel_rfl) trivial ?_
        refine th_n ?_
        refine D_seq (by kernel_rfl) ?_
        refine D_reg (cs := []) (τ := ⟨117, [(0, .cv (.one (.sl T814c p1 .any))), (1, .cv (.one (.int .i64 p2))), (6, .cv (.one (.ptr 0 0))), (15, .cv (.one (.nils))), (16, .cv (.one (.bool false)))], [(.box 6, [.int .i64 p6.1.1, .int .i64 p6.1.2, .int .i64 p6.2.1, .int .i64 p6.2.2.1, .int .i64 p6.2.2.2.1, .int .i64 p6.2.2.2.2])]⟩) hV 0 [] {live := [0, 1, 6, 15, 16], src := [some 0]} (by kernel_rfl) (by kernel_rfl) trivial ?_
        refine th_n ?_
        refine D_seq (by kernel_rfl) ?_
        refine D_seq (by kernel_rfl) ?_
        refine D_reg (cs := []) (τ := ⟨117, [(0, .cv (.one (.sl T814c p1 .any))), (1, .cv (.one (.int .i64 p2))), (6, .cv (.one (.ptr 0 0))), (15, .cv (.one (.nils))), (16, .cv (.one (.bool false))), (17, .cv (.one (.int .i64 0)))], [(.box 6, [.int .i64 p6.1.1, .int .i64 p6.1.2, .int .i64 p6.2.1, .int .i64 p6.2.2.1, .int .i64 p6.2.2.2.1, .int .i64 p6.2.2.2.2])]⟩) hV 0 [] {live := [0, 1, 6, 15, 16, 17], src := [some 0]} (by kernel_rfl) (by kernel_rfl) trivial ?_
        refine th_n ?_
        refine D_block (id := 2) (by kernel_rfl) ?_
        refine W_tell (τ := f_ref09_Put.s3 p1 p2 false 0 p6 []) {fz := [], gr := 1, ad := [.ownT 15 1 49 T814c], live := [0, 1, 6, 15, 16, 17], src := [some 0, some 1]} (by kernel_rfl) (by kernel_rfl) ?_
        exact D_loop (by kernel_rfl) k (f_ref09_Put.l3_ok hV k k p1 p2 false 0 p6 [] H)
noncomputable def f_ref09_Put.l2 (k : Nat) : Nat → List T814c.T → Int → Int → Bool → Int → T1383.T → List T1383.T → Option f_ref09_Put.R
  | 0, _, _, _, _, _, _, _ => none
  | m + 1, p1, p2, p3, p4, p5, p6, p7 => f_ref09_Put.b2 (f_ref09_Put.l2 k m) k p1 p2 p3 p4 p5 p6 p7
theorem f_ref09_Put.l2_ok (hV : EnvOk P f_ref09_Put.V) {r : f_ref09_Put.R} (k : Nat) : ∀ (m2 : Nat) (p1 : List T814c.T) (p2 : Int) (p3 : Int) (p4 : Bool) (p5 : Int) (p6 : T1383.T) (p7 : List T1383.T), f_ref09_Put.l2 k m2 p1 p2 p3 p4 p5 p6 p7 = some r → WL P 0 (Code.l (Code.l (Code.r (Code.l (Code.r (Code.r (Code.r (Code.r f_ref09_Put.c0)))))))) (blockW 0 (thenW P 0 (Code.r (Code.r (Code.r (Code.r (Code.r f_ref09_Put.c0))))) (f_ref09_Put.Q r))) m2 (f_ref09_Put.s2 p1 p2 p3 p4 p5 p6 p7)
  | 0, _, _, _, _, _, _, _, H => by cases H
  | m2 + 1, p1, p2, p3, p4, p5, p6, p7, H => WL_succ (f_ref09_Put.b2_ok hV (f_ref09_Put.l2 k m2) m2 (fun p1 p2 p3 p4 p5 p6 p7 H => f_ref09_Put.l2_ok hV k m2 p1 p2 p3 p4 p5 p6 p7 H) k p1 p2 p3 p4 p5 p6 p7 H)
noncomputable def f_ref09_Put.j1 (k : Nat) (p1 : List T814c.T) (p2 : Int) (p3 : Int) (p4 : Bool) (p5 : T1383.T) : Option f_ref09_Put.R :=
  if p4 = true then
  some (p1, ((1 : Int), ()))
else
  (i_ref09_Of_baa.f k p1 p2 p5).bind fun y5 =>
    f_ref09_Put.l2 k k p1 p2 p3 y5.1 0 y5.2.1 y5.2.2.1
theorem f_ref09_Put.j1_ok (hV : EnvOk P f_ref09_Put.V) {r : f_ref09_Put.R} (k : Nat) (p1 : List T814c.T) (p2 : Int) (p3 : Int) (p4 : Bool) (p5 : T1383.T) (H : f_ref09_Put.j1 k p1 p2 p3 p4 p5 = some r) : W P 0 (Code.r (Code.l (Code.r (Code.r f_ref09_Put.c0)))) (f_ref09_Put.s1 p1 p2 p3 p4 p5) (thenW P 0 (Code.r (Code.r (Code.r f_ref09_Put.c0))) (f_ref09_Put.Q r)) := by
  unfold f_ref09_Put.j1 at H
  refine D_condB (t := 29) (b := p4) (by kernel_rfl) (by kernel_rfl) (fun hb4 => ?_) (fun hb4 => ?_)
  · rw [if_pos hb4] at H
    refine D_seq (by kernel_rfl) ?_
    refine D_reg (cs := []) (τ := ⟨117, [(8, .cv (.one (.sl T814c p1 .any))), (9, .cv (.one (.int .i64 1)))], []⟩) hV 0 [] {live := [8, 9], src := []} (by kernel_rfl) (by kernel_rfl) trivial ?_
    refine th_n ?_
    refine D_ret (by kernel_rfl) ?_
    refine th_r ?_
    exact lf_r (Eq.trans (by kernel_rfl) H)
  · rw [if_neg (by rw [hb4]; decide)] at H
    refine D_skip (by kernel_rfl) ?_
    refine th_n ?_
    refine D_seq (by kernel_rfl) ?_
    refine D_regI [0, 1, 2, 3, 4, 5, 6, 7] (by kernel_rfl) (by kernel_rfl) ?_
    refine D_ev (cs := []) (τ := ⟨117, [(0, .cv (.one (.sl T814c p1 .any))), (1, .cv (.one (.int .i64 p2))), (3, .cv (.one (.int .i64 p3))), (6, .cv (.one (.ptr 0 0))), (29, .cv (.one (.bool p4))), (32, .cv (.one (.sl T814c p1 .any))), (33, .cv (.one (.int .i64 p2)))], [(.box 6, [.int .i64 p5.1.1, .int .i64 p5.1.2, .int .i64 p5.2.1, .int .i64 p5.2.2.1, .int .i64 p5.2.2.2.1, .int .i64 p5.2.2.2.2])]⟩) hV 0 [] [0, 1] [2, 3, 4, 5, 6, 7] rfl (by kernel_rfl) trivial ?_
    obtain ⟨y5, e6, H⟩ := of_bind H
    refine D_call (f := 30) (N := 1) (cvs := [.one (.sl T814c p1 .any), .one (.int .i64 p2)]) (σ0 := i_ref09_Of_baa.s0 p1 p2 p5) (τ := i_ref09_Of_baa.out y5) (σ2 := ⟨117, [(0, .cv (.one (.sl T814c p1 .any))), (1, .cv (.one (.int .i64 p2))), (3, .cv (.one (.int .i64 p3))), (6, .cv (.one (.ptr 0 0))), (29, .cv (.one (.bool p4))), (32, .cv (.one (.sl T814c p1 .any))), (33, .cv (.one (.int .i64 p2))), (34, .tup [.one (.own 1), .one (.bool y5.1)])], [(.box 6, [.int .i64 y5.2.1.1.1, .int .i64 y5.2.1.1.2, .int .i64 y5.2.1.2.1, .int .i64 y5.2.1.2.2.1, .int .i64 y5.2.1.2.2.2.1, .int .i64 y5.2.1.2.2.2.2]), (.buf 39 T1383 y5.2.2.1, [])]⟩) hV 2 (by kernel_rfl) Go.Proofs.Try.func30 (by kernel_rfl) (by decide) (by kernel_rfl) (by kernel_rfl) (by kernel_rfl) (i_ref09_Of_baa.ok k p1 p2 p5 e6) (by kernel_rfl) ?_
    refine D_ev (cs := []) (τ := ⟨117, [(0, .cv (.one (.sl T814c p1 .any))), (1, .cv (.one (.int .i64 p2))), (3, .cv (.one (.int .i64 p3))), (6, .cv (.one (.ptr 0 0))), (11, .cv (.one (.own 1))), (12, .cv (.one (.bool y5.1))), (29, .cv (.one (.bool p4))), (31, .tup [.one (.own 1), .one (.bool y5.1)]), (32, .cv (.one (.sl T814c p1 .any))), (33, .cv (.one (.int .i64 p2))), (34, .tup [.one (.own 1), .one (.bool y5.1)]), (35, .cv (.one (.own 1))), (36, .cv (.one (.bool y5.1)))], [(.box 6, [.int .i64 y5.2.1.1.1, .int .i64 y5.2.1.1.2, .int .i64 y5.2.1.2.1, .int .i64 y5.2.1.2.2.1, .int .i64 y5.2.1.2.2.2.1, .int .i64 y5.2.1.2.2.2.2]), (.buf 39 T1383 y5.2.2.1, [])]⟩) hV 0 [] [3, 4, 5, 6, 7] [] rfl (by kernel_rfl) trivial ?_
    refine WO_tell (τ := ⟨117, [(0, .cv (.one (.sl T814c p1 .any))), (1, .cv (.one (.int .i64 p2))), (3, .cv (.one (.int .i64 p3))), (6, .cv (.one (.ptr 0 0))), (11, .cv (.one (.own 1))), (12, .cv (.one (.bool y5.1)))], [(.box 6, [.int .i64 y5.2.1.1.1, .int .i64 y5.2.1.1.2, .int .i64 y5.2.1.2.1, .int .i64 y5.2.1.2.2.1, .int .i64 y5.2.1.2.2.2.1, .int .i64 y5.2.1.2.2.2.2]), (.buf 39 T1383 y5.2.2.1, [])]⟩) {live := [0, 1, 3, 6, 11, 12], src := [some 0, some 1]} (by kernel_rfl) (by kernel_rfl) ?_
    refine WO_nil ?_
    refine th_n ?_
    refine D_seq (by kernel_rfl) ?_
    refine D_seq (by kernel_rfl) ?_
    refine D_reg (cs := []) (τ := ⟨117, [(0, .cv (.one (.sl T814c p1 .any))), (1, .cv (.one (.int .i64 p2))), (3, .cv (.one (.int .i64 p3))), (6, .cv (.one (.ptr 0 0))), (11, .cv (.one (.own 1))), (12, .cv (.one (.bool y5.1))), (13, .cv (.one (.int .i64 0)))], [(.box 6, [.int .i64 y5.2.1.1.1, .int .i64 y5.2.1.1.2, .int .i64 y5.2.1.2.1, .int .i64 y5.2.1.2.2.1, .int .i64 y5.2.1.2.2.2.1, .int .i64 y5.2.1.2.2.2.2]), (.buf 39 T1383 y5.2.2.1, [])]⟩) hV 0 [] {live := [0, 1, 3, 6, 11, 12, 13], src := [some 0, some 1]} (by kernel_rfl) (by kernel_rfl) trivial ?_
    refine th_n ?_
    refine D_block (id := 0) (by kernel_rfl) ?_
    refine W_tell (τ := f_ref09_Put.s2 p1 p2 p3 y5.1 0 y5.2.1 y5.2.2.1) {fz := [], gr := 0, ad := [], live := [0, 1, 3, 6, 11, 12, 13], src := [some 0, some 1]} (by kernel_rfl) (by kernel_rfl) ?_
    exact D_loop (by kernel_rfl) k (f_ref09_Put.l2_ok hV k k p1 p2 p3 y5.1 0 y5.2.1 y5.2.2.1 H)
noncomputable def f_ref09_Put.f (k : Nat) (a1 : List T814c.T) (a2 : Int) (a3 : T1383.T) (a4 : Int) : Option f_ref09_Put.R :=
  (f_ref04_May.f k a3).bind fun y1 =>
    if (!y1.1) = true then
      f_ref09_Put.j1 k a1 a2 a4 true a3
    else
      if (decide (a2 < (1 : Int))) = true then
        f_ref09_Put.j1 k a1 a2 a4 true a3
      else
        f_ref09_Put.j1 k a1 a2 a4 (decide (a2 > (4095 : Int))) a3
noncomputable def f_ref09_Put.S : Spec := ⟨f_ref09_Put.ps, f_ref09_Put.rs, .any, none, fun x r => ∃ k, f_ref09_Put.f k x.1 x.2.1 x.2.2.1 x.2.2.2.1 = some r⟩
theorem f_ref09_Put.f_ok (hV : EnvOk P f_ref09_Put.V) {r : f_ref09_Put.R} (k : Nat) (a1 : List T814c.T) (a2 : Int) (a3 : T1383.T) (a4 : Int) (H : f_ref09_Put.f k a1 a2 a3 a4 = some r) : W P 0 f_ref09_Put.c0 (⟨117, [(0, .cv (.one (.sl T814c a1 .any))), (1, .cv (.one (.int .i64 a2))), (2, .cv (.agg [.int .i64 a3.1.1, .int .i64 a3.1.2, .int .i64 a3.2.1, .int .i64 a3.2.2.1, .int .i64 a3.2.2.2.1, .int .i64 a3.2.2.2.2])), (3, .cv (.one (.int .i64 a4)))], []⟩) (f_ref09_Put.Q r) := by
  unfold f_ref09_Put.f at H
  refine D_seq (by kernel_rfl) ?_
  refine D_reg (cs := []) (τ := ⟨117, [(0, .cv (.one (.sl T814c a1 .any))), (1, .cv (.one (.int .i64 a2))), (3, .cv (.one (.int .i64 a4))), (6, .cv (.one (.ptr 0 0)))], [(.box 6, [.int .i64 a3.1.1, .int .i64 a3.1.2, .int .i64 a3.2.1, .int .i64 a3.2.2.1, .int .i64 a3.2.2.2.1, .int .i64 a3.2.2.2.2])]⟩) hV 1 [(0, {sb := 0})] {live := [0, 1, 3, 6], src := [some 0]} (by kernel_rfl) (by kernel_rfl) trivial ?_
  refine th_n ?_
  refine D_seq (by kernel_rfl) ?_
  obtain ⟨y1, e2, H⟩ := of_bind H
  refine D_reg (cs := [f_ref04_May.S.rel (a3, ()) y1]) (τ := ⟨117, [(0, .cv (.one (.sl T814c a1 .any))), (1, .cv (.one (.int .i64 a2))), (3, .cv (.one (.int .i64 a4))), (6, .cv (.one (.ptr 0 0))), (10, .cv (.one (.bool y1.1)))], [(.box 6, [.int .i64 a3.1.1, .int .i64 a3.1.2, .int .i64 a3.2.1, .int .i64 a3.2.2.1, .int .i64 a3.2.2.2.1, .int .i64 a3.2.2.2.2])]⟩) hV 0 [(1, {res := some ⟨f_ref04_May.S.rs, y1⟩})] {live := [0, 1, 3, 6, 10], src := [some 0]} (by kernel_rfl) (by kernel_rfl) ⟨⟨k, e2⟩, trivial⟩ ?_
  refine th_n ?_
  refine D_seq (by kernel_rfl) ?_
  refine D_seq (by kernel_rfl) ?_
  rcases of_ite H with ⟨hb3, H⟩ | ⟨hb3, H⟩
  · refine D_reg (cs := [((!y1.1)) = true]) (τ := ⟨117, [(0, .cv (.one (.sl T814c a1 .any))), (1, .cv (.one (.int .i64 a2))), (3, .cv (.one (.int .i64 a4))), (6, .cv (.one (.ptr 0 0))), (29, .cv (.one (.bool true)))], [(.box 6, [.int .i64 a3.1.1, .int .i64 a3.1.2, .int .i64 a3.2.1, .int .i64 a3.2.2.1, .int .i64 a3.2.2.2.1, .int .i64 a3.2.2.2.2])]⟩) hV 0 [(1, {bv := some true})] {live := [0, 1, 3, 6, 29], src := [some 0]} (by kernel_rfl) (by kernel_rfl) ⟨hb3, trivial⟩ ?_
    refine th_n ?_
    refine W_tell (τ := f_ref09_Put.s1 a1 a2 a4 true a3) {fz := [], gr := 0, ad := [], live := [0, 1, 3, 6, 29], src := [some 0]} (by kernel_rfl) (by kernel_rfl) ?_
    exact f_ref09_Put.j1_ok hV k a1 a2 a4 true a3 H
  · rcases of_ite H with ⟨hb37, H⟩ | ⟨hb37, H⟩
    · refine D_reg (cs := [((!y1.1)) = false, ((decide (a2 < (1 : Int)))) = true]) (τ := ⟨117, [(0, .cv (.one (.sl T814c a1 .any))), (1, .cv (.one (.int .i64 a2))), (3, .cv (.one (.int .i64 a4))), (6, .cv (.one (.ptr 0 0))), (29, .cv (.one (.bool true)))], [(.box 6, [.int .i64 a3.1.1, .int .i64 a3.1.2, .int .i64 a3.2.1, .int .i64 a3.2.2.1, .int .i64 a3.2.2.2.1, .int .i64 a3.2.2.2.2])]⟩) hV 0 [(1, {bv := some false}), (5, {bv := some true})] {live := [0, 1, 3, 6, 29], src := [some 0]} (by kernel_rfl) (by kernel_rfl) ⟨hb3, hb37, trivial⟩ ?_
      refine th_n ?_
      refine W_tell (τ := f_ref09_Put.s1 a1 a2 a4 true a3) {fz := [], gr := 0, ad := [], live := [0, 1, 3, 6, 29], src := [some 0]} (by kernel_rfl) (by kernel_rfl) ?_
      exact f_ref09_Put.j1_ok hV k a1 a2 a4 true a3 H
    · refine D_reg (cs := [((!y1.1)) = false, ((decide (a2 < (1 : Int)))) = false]) (τ := ⟨117, [(0, .cv (.one (.sl T814c a1 .any))), (1, .cv (.one (.int .i64 a2))), (3, .cv (.one (.int .i64 a4))), (6, .cv (.one (.ptr 0 0))), (29, .cv (.one (.bool (decide (a2 > (4095 : Int))))))], [(.box 6, [.int .i64 a3.1.1, .int .i64 a3.1.2, .int .i64 a3.2.1, .int .i64 a3.2.2.1, .int .i64 a3.2.2.2.1, .int .i64 a3.2.2.2.2])]⟩) hV 0 [(1, {bv := some false}), (5, {bv := some false})] {live := [0, 1, 3, 6, 29], src := [some 0]} (by kernel_rfl) (by kernel_rfl) ⟨hb3, hb37, trivial⟩ ?_
      refine th_n ?_
      refine W_tell (τ := f_ref09_Put.s1 a1 a2 a4 (decide (a2 > (4095 : Int))) a3) {fz := [], gr := 0, ad := [], live := [0, 1, 3, 6, 29], src := [some 0]} (by kernel_rfl) (by kernel_rfl) ?_
      exact f_ref09_Put.j1_ok hV k a1 a2 a4 (decide (a2 > (4095 : Int))) a3 H
theorem f_ref09_Put.V_ok : EnvOk P f_ref09_Put.V := { ck := tt_ck, fits := slk_cons f_ref09_Size.fits (slk_cons f_ref04_May.fits (slk_cons f_ref04_Alike.fits (slk_cons f_ref09_where.fits (slk_nil)))), mixed := mixed }
theorem f_ref09_Put.fits : Fits P 27 f_ref09_Put.S := fits_of f_ref09_Put.V_ok Go.Proofs.Try.func27 (by kernel_rfl) (by decide) (by decide) rfl (fun x r ⟨k, H⟩ => f_ref09_Put.f_ok f_ref09_Put.V_ok k x.1 x.2.1 x.2.2.1 x.2.2.2.1 H)
/-! ### f_ref09_Drop: function 28, wayfinder/wayfinderref09.Drop -/
abbrev f_ref09_Drop.ps : Sg := [(false, (.slice T814c)), (false, (.int .i64))]
abbrev f_ref09_Drop.rs : Sg := [(false, (.slice T814c))]
noncomputable def f_ref09_Drop.c0 : Code := (Go.Proofs.Try.f28.body).getD .skip
noncomputable def f_ref09_Drop.G : List (Nat × Spec) := [(55, f_ref09_where.S)]
noncomputable def f_ref09_Drop.V : Env := { tt := tt, Γ := slk f_ref09_Drop.G }
noncomputable abbrev f_ref09_Drop.Q (r : Tup f_ref09_Drop.rs) : Exit → St → Prop := Qr tt Go.Proofs.Try.f28.results ⟨f_ref09_Drop.ps, f_ref09_Drop.rs, .any, none, fun _ _ => True⟩ r
abbrev f_ref09_Drop.R := Tup f_ref09_Drop.rs
noncomputable def f_ref09_Drop.s1 (p1 : List T814c.T) (p2 : Int) (p3 : Int) (p4 : List T814c.T) : St := ⟨28, [(0, .cv (.one (.sl T814c p1 .any))), (5, .cv (.one (.int .i64 p2))), (6, .cv (.one (.own 0))), (7, .cv (.one (.int .i64 p3)))], [(.buf 49 T814c p4, [])]⟩
noncomputable def f_ref09_Drop.s2 (p1 : List T814c.T) (p2 : Int) (p3 : Int) (p4 : List T814c.T) : St := ⟨28, [(0, .cv (.one (.sl T814c p1 .any))), (5, .cv (.one (.int .i64 p2))), (6, .cv (.one (.own 0))), (7, .cv (.one (.int .i64 p3)))], [(.buf 49 T814c p4, [])]⟩
noncomputable def f_ref09_Drop.j2 (L1 : List T814c.T → Int → Int → List T814c.T → Option f_ref09_Drop.R) (k : Nat) (p1 : List T814c.T) (p2 : Int) (p3 : Int) (p4 : List T814c.T) : Option f_ref09_Drop.R :=
  L1 p1 p2 (IntKind.i64.wrap (p3 + 1)) p4
theorem f_ref09_Drop.j2_ok (hV : EnvOk P f_ref09_Drop.V) {r : f_ref09_Drop.R} (L1 : List T814c.T → Int → Int → List T814c.T → Option f_ref09_Drop.R) (m1 : Nat) (hL1 : ∀ (p1 : List T814c.T) (p2 : Int) (p3 : Int) (p4 : List T814c.T), L1 p1 p2 p3 p4 = some r → WL P 0 (Code.l (Code.l (Code.r (Code.l (Code.r (Code.r (Code.r f_ref09_Drop.c0))))))) (blockW 0 (thenW P 0 (Code.r (Code.r (Code.r (Code.r f_ref09_Drop.c0)))) (f_ref09_Drop.Q r))) m1 (f_ref09_Drop.s1 p1 p2 p3 p4)) (k : Nat) (p1 : List T814c.T) (p2 : Int) (p3 : Int) (p4 : List T814c.T) (H : f_ref09_Drop.j2 L1 k p1 p2 p3 p4 = some r) : W P 0 (Code.r (Code.r (Code.l (Code.l (Code.r (Code.l (Code.r (Code.r (Code.r f_ref09_Drop.c0))))))))) (f_ref09_Drop.s2 p1 p2 p3 p4) (roundW P 0 (Code.l (Code.l (Code.r (Code.l (Code.r (Code.r (Code.r f_ref09_Drop.c0))))))) (blockW 0 (thenW P 0 (Code.r (Code.r (Code.r (Code.r f_ref09_Drop.c0)))) (f_ref09_Drop.Q r))) m1) := by
  unfold f_ref09_Drop.j2 at H
  refine D_reg (cs := []) (τ := ⟨28, [(0, .cv (.one (.sl T814c p1 .any))), (5, .cv (.one (.int .i64 p2))), (6, .cv (.one (.own 0))), (7, .cv (.one (.int .i64 (IntKind.i64.wrap (p3 + 1)))))], [(.buf 49 T814c p4, [])]⟩) hV 0 [] {live := [0, 5, 6, 7], src := [some 0]} (by kernel_rfl) (by kernel_rfl) trivial ?_
  refine ro_n (WL_tell (τ := f_ref09_Drop.s1 p1 p2 (IntKind.i64.wrap (p3 + 1)) p4) {fz := [], gr := 0, ad := [], live := [0, 5, 6, 7], src := [some 0]} (by kernel_rfl) (by kernel_rfl) ?_)
  exact hL1 p1 p2 (IntKind.i64.wrap (p3 + 1)) p4 H
noncomputable def f_ref09_Drop.b1 (L1 : List T814c.T → Int → Int → List T814c.T → Option f_ref09_Drop.R) (k : Nat) (p1 : List T814c.T) (p2 : Int) (p3 : Int) (p4 : List T814c.T) : Option f_ref09_Drop.R :=
  if (decide (p3 < (p1.length : Int))) = true then
  if (p3 != p2) = true then
    if 0 ≤ p3 then
      if p3 < (p1.length : Int) then
        if (p4.length + 1) * 32 ≤ 140737488355328 then
          f_ref09_Drop.j2 L1 k p1 p2 p3 (p4 ++ [(att T814c p1 p3)])
        else none
      else none
    else none
  else
    f_ref09_Drop.j2 L1 k p1 p2 p3 p4
else
  some (p4, ())
theorem f_ref09_Drop.b1_ok (hV : EnvOk P f_ref09_Drop.V) {r : f_ref09_Drop.R} (L1 : List T814c.T → Int → Int → List T814c.T → Option f_ref09_Drop.R) (m1 : Nat) (hL1 : ∀ (p1 : List T814c.T) (p2 : Int) (p3 : Int) (p4 : List T814c.T), L1 p1 p2 p3 p4 = some r → WL P 0 (Code.l (Code.l (Code.r (Code.l (Code.r (Code.r (Code.r f_ref09_Drop.c0))))))) (blockW 0 (thenW P 0 (Code.r (Code.r (Code.r (Code.r f_ref09_Drop.c0)))) (f_ref09_Drop.Q r))) m1 (f_ref09_Drop.s1 p1 p2 p3 p4)) (k : Nat) (p1 : List T814c.T) (p2 : Int) (p3 : Int) (p4 : List T814c.T) (H : f_ref09_Drop.b1 L1 k p1 p2 p3 p4 = some r) : W P 0 (Code.l (Code.l (Code.r (Code.l (Code.r (Code.r (Code.r f_ref09_Drop.c0))))))) (f_ref09_Drop.s1 p1 p2 p3 p4) (roundW P 0 (Code.l (Code.l (Code.r (Code.l (Code.r (Code.r (Code.r f_ref09_Drop.c0))))))) (blockW 0 (thenW P 0 (Code.r (Code.r (Code.r (Code.r f_ref09_Drop.c0)))) (f_ref09_Drop.Q r))) m1) := by
  unfold f_ref09_Drop.b1 at H
  refine D_seq (by kernel_rfl) ?_
  refine D_seq (by kernel_rfl) ?_
  refine D_reg (cs := []) (τ := ⟨28, [(0, .cv (.one (.sl T814c p1 .any))), (5, .cv (.one (.int .i64 p2))), (6, .cv (.one (.own 0))), (7, .cv (.one (.int .i64 p3))), (14, .cv (.one (.bool (decide (p3 < (p1.length : Int))))))], [(.buf 49 T814c p4, [])]⟩) hV 0 [] {live := [0, 5, 6, 7, 14], src := [some 0]} (by kernel_rfl) (by kernel_rfl) trivial ?_
  refine th_n ?_
  refine D_condB (t := 14) (b := (decide (p3 < (p1.length : Int)))) (by kernel_rfl) (by kernel_rfl) (fun hb3 => ?_) (fun hb3 => ?_)
  · rw [if_pos hb3] at H
    refine D_skip (by kernel_rfl) ?_
    refine th_n ?_
    refine D_seq (by kernel_rfl) ?_
    refine D_block (id := 1) (by kernel_rfl) ?_
    refine D_seq (by kernel_rfl) ?_
    refine D_reg (cs := []) (τ := ⟨28, [(0, .cv (.one (.sl T814c p1 .any))), (5, .cv (.one (.int .i64 p2))), (6, .cv (.one (.own 0))), (7, .cv (.one (.int .i64 p3))), (19, .cv (.one (.bool (p3 != p2))))], [(.buf 49 T814c p4, [])]⟩) hV 0 [] {live := [0, 5, 6, 7, 19], src := [some 0]} (by kernel_rfl) (by kernel_rfl) trivial ?_
    refine th_n ?_
    refine D_condB (t := 19) (b := (p3 != p2)) (by kernel_rfl) (by kernel_rfl) (fun hb4 => ?_) (fun hb4 => ?_)
    · rw [if_pos hb4] at H
      obtain ⟨n5, H⟩ := of_if H
      obtain ⟨n6, H⟩ := of_if H
      obtain ⟨n7, H⟩ := of_if H
      refine D_reg (cs := [0 ≤ p3, p3 < (p1.length : Int), (p4.length + 1) * 32 ≤ 140737488355328]) (τ := ⟨28, [(0, .cv (.one (.sl T814c p1 .any))), (5, .cv (.one (.int .i64 p2))), (6, .cv (.one (.own 0))), (7, .cv (.one (.int .i64 p3)))], [(.buf 49 T814c (p4 ++ [(att T814c p1 p3)]), [])]⟩) hV 1 [(6, {sb := 1})] {live := [0, 5, 6, 7], src := [some 1]} (by kernel_rfl) (by kernel_rfl) ⟨n5, n6, n7, trivial⟩ ?_
      refine bl_n ?_
      refine th_n ?_
      refine W_tell (τ := f_ref09_Drop.s2 p1 p2 p3 (p4 ++ [(att T814c p1 p3)])) {fz := [], gr := 0, ad := [], live := [0, 5, 6, 7], src := [some 0]} (by kernel_rfl) (by kernel_rfl) ?_
      exact f_ref09_Drop.j2_ok hV L1 m1 hL1 k p1 p2 p3 (p4 ++ [(att T814c p1 p3)]) H
    · rw [if_neg (by rw [hb4]; decide)] at H
      refine D_skip (by kernel_rfl) ?_
      refine bl_n ?_
      refine th_n ?_
      refine W_tell (τ := f_ref09_Drop.s2 p1 p2 p3 p4) {fz := [], gr := 0, ad := [], live := [0, 5, 6, 7], src := [some 0]} (by kernel_rfl) (by kernel_rfl) ?_
      exact f_ref09_Drop.j2_ok hV L1 m1 hL1 k p1 p2 p3 p4 H
  · rw [if_neg (by rw [hb3]; decide)] at H
    refine D_exit (id := 0) (by kernel_rfl) ?_
    refine th_x ?_
    refine ro_x ?_
    refine bl_h ?_
    refine th_n ?_
    refine D_seq (by kernel_rfl) ?_
    refine D_reg (cs := []) (τ := ⟨28, [(4, .cv (.one (.own 0)))], [(.buf 49 T814c p4, [])]⟩) hV 0 [] {live := [4], src := [some 0]} (by kernel_rfl) (by kernel_rfl) trivial ?_
    refine th_n ?_
    refine D_ret (by kernel_rfl) ?_
    exact lf_r (Eq.trans (by kernel_rfl) H)
noncomputable def f_ref09_Drop.l1 (k : Nat) : Nat → List T814c.T → Int → Int → List T814c.T → Option f_ref09_Drop.R
  | 0, _, _, _, _ => none
  | m + 1, p1, p2, p3, p4 => f_ref09_Drop.b1 (f_ref09_Drop.l1 k m) k p1 p2 p3 p4
theorem f_ref09_Drop.l1_ok (hV : EnvOk P f_ref09_Drop.V) {r : f_ref09_Drop.R} (k : Nat) : ∀ (m1 : Nat) (p1 : List T814c.T) (p2 : Int) (p3 : Int) (p4 : List T814c.T), f_ref09_Drop.l1 k m1 p1 p2 p3 p4 = some r → WL P 0 (Code.l (Code.l (Code.r (Code.l (Code.r (Code.r (Code.r f_ref09_Drop.c0))))))) (blockW 0 (thenW P 0 (Code.r (Code.r (Code.r (Code.r f_ref09_Drop.c0)))) (f_ref09_Drop.Q r))) m1 (f_ref09_Drop.s1 p1 p2 p3 p4)
  | 0, _, _, _, _, H => by cases H
  | m1 + 1, p1, p2, p3, p4, H => WL_succ (f_ref09_Drop.b1_ok hV (f_ref09_Drop.l1 k m1) m1 (fun p1 p2 p3 p4 H => f_ref09_Drop.l1_ok hV k m1 p1 p2 p3 p4 H) k p1 p2 p3 p4 H)
noncomputable def f_ref09_Drop.f (k : Nat) (a1 : List T814c.T) (a2 : Int) : Option f_ref09_Drop.R :=
  (f_ref09_where.f k a1 a2).bind fun y1 =>
    f_ref09_Drop.l1 k k a1 y1.1 0 []
noncomputable def f_ref09_Drop.S : Spec := ⟨f_ref09_Drop.ps, f_ref09_Drop.rs, .any, none, fun x r => ∃ k, f_ref09_Drop.f k x.1 x.2.1 = some r⟩
theorem f_ref09_Drop.f_ok (hV : EnvOk P f_ref09_Drop.V) {r : f_ref09_Drop.R} (k : Nat) (a1 : List T814c.T) (a2 : Int) (H : f_ref09_Drop.f k a1 a2 = some r) : W P 0 f_ref09_Drop.c0 (⟨28, [(0, .cv (.one (.sl T814c a1 .any))), (1, .cv (.one (.int .i64 a2)))], []⟩) (f_ref09_Drop.Q r) := by
  unfold f_ref09_Drop.f at H
  refine D_seq (by kernel_rfl) ?_
  refine D_reg (cs := []) (τ := ⟨28, [(0, .cv (.one (.sl T814c a1 .any))), (1, .cv (.one (.int .i64 a2)))], []⟩) hV 0 [] {live := [0, 1], src := []} (by kernel_rfl) (by kernel_rfl) trivial ?_
  refine th_n ?_
  refine D_seq (by kernel_rfl) ?_
  obtain ⟨y1, e2, H⟩ := of_bind H
  refine D_reg (cs := [f_ref09_where.S.rel (a1, a2, ()) y1]) (τ := ⟨28, [(0, .cv (.one (.sl T814c a1 .any))), (5, .cv (.one (.int .i64 y1.1)))], []⟩) hV 0 [(2, {res := some ⟨f_ref09_where.S.rs, y1⟩})] {live := [0, 5], src := []} (by kernel_rfl) (by kernel_rfl) ⟨⟨k, e2⟩, trivial⟩ ?_
  refine th_n ?_
  refine D_seq (by kernel_rfl) ?_
  refine D_reg (cs := []) (τ := ⟨28, [(0, .cv (.one (.sl T814c a1 .any))), (5, .cv (.one (.int .i64 y1.1))), (6, .cv (.one (.nils)))], []⟩) hV 0 [] {live := [0, 5, 6], src := []} (by kernel_rfl) (by kernel_rfl) trivial ?_
  refine th_n ?_
  refine D_seq (by kernel_rfl) ?_
  refine D_seq (by kernel_rfl) ?_
  refine D_reg (cs := []) (τ := ⟨28, [(0, .cv (.one (.sl T814c a1 .any))), (5, .cv (.one (.int .i64 y1.1))), (6, .cv (.one (.nils))), (7, .cv (.one (.int .i64 0)))], []⟩) hV 0 [] {live := [0, 5, 6, 7], src := []} (by kernel_rfl) (by kernel_rfl) trivial ?_
  refine th_n ?_
  refine D_block (id := 0) (by kernel_rfl) ?_
  refine W_tell (τ := f_ref09_Drop.s1 a1 y1.1 0 []) {fz := [], gr := 1, ad := [.ownT 6 0 49 T814c], live := [0, 5, 6, 7], src := [some 0]} (by kernel_rfl) (by kernel_rfl) ?_
  exact D_loop (by kernel_rfl) k (f_ref09_Drop.l1_ok hV k k a1 y1.1 0 [] H)
theorem f_ref09_Drop.V_ok : EnvOk P f_ref09_Drop.V := { ck := tt_ck, fits := slk_cons f_ref09_where.fits (slk_nil), mixed := mixed }
theorem f_ref09_Drop.fits : Fits P 28 f_ref09_Drop.S := fits_of f_ref09_Drop.V_ok Go.Proofs.Try.func28 (by kernel_rfl) (by decide) (by decide) rfl (fun x r ⟨k, H⟩ => f_ref09_Drop.f_ok f_ref09_Drop.V_ok k x.1 x.2.1 H)
/-! ### f_table_Of: function 29, wayfinder/table.Of -/
abbrev f_table_Of.ps : Sg := [(false, (.slice T814c)), (false, (.int .i64))]
abbrev f_table_Of.rs : Sg := [(false, (.slice T1383)), (false, .bool)]
noncomputable def f_table_Of.c0 : Code := (Go.Proofs.Try.f29.body).getD .skip
noncomputable def f_table_Of.G : List (Nat × Spec) := [(41, f_table_at.S), (56, f_slices_Clone_Rule.S)]
noncomputable def f_table_Of.V : Env := { tt := tt, Γ := slk f_table_Of.G }
noncomputable abbrev f_table_Of.Q (r : Tup f_table_Of.rs) : Exit → St → Prop := Qr tt Go.Proofs.Try.f29.results ⟨f_table_Of.ps, f_table_Of.rs, .any, none, fun _ _ => True⟩ r
abbrev f_table_Of.R := Tup f_table_Of.rs
noncomputable def f_table_Of.f (k : Nat) (a1 : List T814c.T) (a2 : Int) : Option f_table_Of.R :=
  (f_table_at.f k a1 a2).bind fun y1 =>
    if (decide (y1.1 < (a1.length : Int))) = true then
      if 0 ≤ y1.1 then
        if y1.1 < (a1.length : Int) then
          (f_slices_Clone_Rule.f k ((att T814c a1 y1.1).2)).bind fun y4 =>
            some (y4.1, (true, ()))
        else none
      else none
    else
      some ([], (false, ()))
noncomputable def f_table_Of.S : Spec := ⟨f_table_Of.ps, f_table_Of.rs, .any, none, fun x r => ∃ k, f_table_Of.f k x.1 x.2.1 = some r⟩
theorem f_table_Of.f_ok (hV : EnvOk P f_table_Of.V) {r : f_table_Of.R} (k : Nat) (a1 : List T814c.T) (a2 : Int) (H : f_table_Of.f k a1 a2 = some r) : W P 0 f_table_Of.c0 (⟨20, [(0, .cv (.one (.sl T814c a1 .any))), (1, .cv (.one (.int .i64 a2)))], []⟩) (f_table_Of.Q r) := by
  unfold f_table_Of.f at H
  refine D_seq (by kernel_rfl) ?_
  refine D_reg (cs := []) (τ := ⟨20, [(0, .cv (.one (.sl T814c a1 .any))), (1, .cv (.one (.int .i64 a2)))], []⟩) hV 0 [] {live := [0, 1], src := []} (by kernel_rfl) (by kernel_rfl) trivial ?_
  refine th_n ?_
  refine D_seq (by kernel_rfl) ?_
  refine D_seq (by kernel_rfl) ?_
  obtain ⟨y1, e2, H⟩ := of_bind H
  refine D_reg (cs := [f_table_at.S.rel (a1, a2, ()) y1]) (τ := ⟨20, [(0, .cv (.one (.sl T814c a1 .any))), (6, .cv (.one (.int .i64 y1.1)))], []⟩) hV 0 [(2, {res := some ⟨f_table_at.S.rs, y1⟩})] {live := [0, 6], src := []} (by kernel_rfl) (by kernel_rfl) ⟨⟨k, e2⟩, trivial⟩ ?_
  refine th_n ?_
  refine D_seq (by kernel_rfl) ?_
  refine D_reg (cs := []) (τ := ⟨20, [(0, .cv (.one (.sl T814c a1 .any))), (6, .cv (.one (.int .i64 y1.1))), (13, .cv (.one (.bool (decide (y1.1 < (a1.length : Int))))))], []⟩) hV 0 [] {live := [0, 6, 13], src := []} (by kernel_rfl) (by kernel_rfl) trivial ?_
  refine th_n ?_
  refine D_condB (t := 13) (b := (decide (y1.1 < (a1.length : Int)))) (by kernel_rfl) (by kernel_rfl) (fun hb3 => ?_) (fun hb3 => ?_)
  · rw [if_pos hb3] at H
    refine D_seq (by kernel_rfl) ?_
    obtain ⟨n5, H⟩ := of_if H
    obtain ⟨n6, H⟩ := of_if H
    obtain ⟨y4, e7, H⟩ := of_bind H
    refine D_reg (cs := [0 ≤ y1.1, y1.1 < (a1.length : Int), f_slices_Clone_Rule.S.rel ((att T814c a1 y1.1).2, ()) y4]) (τ := ⟨20, [(4, .cv (.one (.sl T1383 y4.1 .any))), (5, .cv (.one (.bool true)))], []⟩) hV 0 [(5, {res := some ⟨f_slices_Clone_Rule.S.rs, y4⟩})] {live := [4, 5], src := []} (by kernel_rfl) (by kernel_rfl) ⟨n5, n6, ⟨k, e7⟩, trivial⟩ ?_
    refine th_n ?_
    refine D_ret (by kernel_rfl) ?_
    refine th_r ?_
    exact lf_r (Eq.trans (by kernel_rfl) H)
  · rw [if_neg (by rw [hb3]; decide)] at H
    refine D_skip (by kernel_rfl) ?_
    refine th_n ?_
    refine D_seq (by kernel_rfl) ?_
    refine D_reg (cs := []) (τ := ⟨20, [(4, .cv (.one (.nils))), (5, .cv (.one (.bool false)))], []⟩) hV 0 [] {live := [4, 5], src := []} (by kernel_rfl) (by kernel_rfl) trivial ?_
    refine th_n ?_
    refine D_ret (by kernel_rfl) ?_
    exact lf_r (Eq.trans (by kernel_rfl) H)
theorem f_table_Of.V_ok : EnvOk P f_table_Of.V := { ck := tt_ck, fits := slk_cons f_table_at.fits (slk_cons f_slices_Clone_Rule.fits (slk_nil)), mixed := mixed }
theorem f_table_Of.fits : Fits P 29 f_table_Of.S := fits_of f_table_Of.V_ok Go.Proofs.Try.func29 (by kernel_rfl) (by decide) (by decide) rfl (fun x r ⟨k, H⟩ => f_table_Of.f_ok f_table_Of.V_ok k x.1 x.2.1 H)
end Go.Proofs.Ytkobhleoebgbhaa.V
