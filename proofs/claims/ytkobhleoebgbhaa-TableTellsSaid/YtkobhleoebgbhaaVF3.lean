/- Functions of the program, as Lean functions, and that the code answers so. Printed by vgen.py. -/
import Derived.Test.YtkobhleoebgbhaaVF2
namespace Go.Proofs.Ytkobhleoebgbhaa.V
open Go Go.RowKit
set_option linter.unusedVariables false
set_option linter.unusedSimpArgs false
set_option maxRecDepth 100000
/-! ### f_law09_TableTells: function 9, wayfinder/wayfinderlaw09.TableTells -/
abbrev f_law09_TableTells.ps : Sg := [(false, (.slice T814c)), (false, (.int .i64)), (true, T1383), (false, (.int .i64))]
abbrev f_law09_TableTells.rs : Sg := [(false, .bool)]
noncomputable def f_law09_TableTells.c0 : Code := (Go.Proofs.Try.f9.body).getD .skip
noncomputable def f_law09_TableTells.G : List (Nat × Spec) := [(18, f_law09_Few.S), (21, f_law09_awake.S), (24, f_table_Put.S), (25, f_table_Drop.S), (26, f_ref09_Same.S), (27, f_ref09_Put.S), (28, f_ref09_Drop.S), (29, f_table_Of.S), (30, f_ref09_Of.S), (31, f_ref08_Same.S), (32, f_table_Size.S), (33, f_ref09_Size.S)]
noncomputable def f_law09_TableTells.V : Env := { tt := tt, Γ := slk f_law09_TableTells.G }
noncomputable abbrev f_law09_TableTells.Q (r : Tup f_law09_TableTells.rs) : Exit → St → Prop := Qr tt Go.Proofs.Try.f9.results ⟨f_law09_TableTells.ps, f_law09_TableTells.rs, .any, none, fun _ _ => True⟩ r
abbrev f_law09_TableTells.R := Tup f_law09_TableTells.rs
noncomputable def f_law09_TableTells.s1 (p1 : List T814c.T) (p2 : Int) (p3 : Int) (p4 : Bool) (p5 : Bool) (p6 : T1383.T) : St := ⟨97, [(0, .cv (.one (.sl T814c p1 .any))), (1, .cv (.one (.int .i64 p2))), (3, .cv (.one (.int .i64 p3))), (6, .cv (.one (.ptr 0 0))), (9, .cv (.one (.bool p4))), (30, .cv (.one (.bool p5)))], [(.box 6, [.int .i64 p6.1.1, .int .i64 p6.1.2, .int .i64 p6.2.1, .int .i64 p6.2.2.1, .int .i64 p6.2.2.2.1, .int .i64 p6.2.2.2.2])]⟩
noncomputable def f_law09_TableTells.j1 (k : Nat) (p1 : List T814c.T) (p2 : Int) (p3 : Int) (p4 : Bool) (p5 : Bool) (p6 : T1383.T) : Option f_law09_TableTells.R :=
  if p5 = true then
  some (p4, ())
else
  (f_table_Put.f k p1 p2 p6 p3).bind fun y7 =>
    (f_ref09_Put.f k p1 p2 p6 p3).bind fun y9 =>
      (f_ref09_Same.f k y7.1 y9.1).bind fun y11 =>
        (f_table_Drop.f k p1 p2).bind fun y13 =>
          (f_ref09_Drop.f k p1 p2).bind fun y14 =>
            (f_ref09_Same.f k y13.1 y14.1).bind fun y15 =>
              (f_table_Of.f k p1 p2).bind fun y19 =>
                (f_ref09_Of.f k p1 p2).bind fun y21 =>
                  (f_ref08_Same.f k y19.1 y21.1).bind fun y23 =>
                    if y11.1 = true then
                      if (y7.2.1 == y9.2.1) = true then
                        if y15.1 = true then
                          if y23.1 = true then
                            if ((y19.2.1 == y21.2.1) && true) = true then
                              (f_table_Size.f k p1).bind fun y25 =>
                                (f_ref09_Size.f k p1).bind fun y26 =>
                                  some ((y25.1 == y26.1), ())
                            else
                              some (false, ())
                          else
                            some (false, ())
                        else
                          some (false, ())
                      else
                        some (false, ())
                    else
                      some (false, ())
theorem f_law09_TableTells.j1_ok (hV : EnvOk P f_law09_TableTells.V) {r : f_law09_TableTells.R} (k : Nat) (p1 : List T814c.T) (p2 : Int) (p3 : Int) (p4 : Bool) (p5 : Bool) (p6 : T1383.T) (H : f_law09_TableTells.j1 k p1 p2 p3 p4 p5 p6 = some r) : W P 0 (Code.r (Code.l (Code.r (Code.r (Code.r f_law09_TableTells.c0))))) (f_law09_TableTells.s1 p1 p2 p3 p4 p5 p6) (thenW P 0 (Code.r (Code.r (Code.r (Code.r f_law09_TableTells.c0)))) (f_law09_TableTells.Q r)) := by
  unfold f_law09_TableTells.j1 at H
  refine D_condB (t := 30) (b := p5) (by kernel_rfl) (by kernel_rfl) (fun hb6 => ?_) (fun hb6 => ?_)
  · rw [if_pos hb6] at H
    refine D_seq (by kernel_rfl) ?_
    refine D_reg (cs := []) (τ := ⟨97, [(8, .cv (.one (.bool p4)))], []⟩) hV 0 [] {live := [8], src := []} (by kernel_rfl) (by kernel_rfl) trivial ?_
    refine th_n ?_
    refine D_ret (by kernel_rfl) ?_
    refine th_r ?_
    exact lf_r (Eq.trans (by kernel_rfl) H)
  · rw [if_neg (by rw [hb6]; decide)] at H
    refine D_skip (by kernel_rfl) ?_
    refine th_n ?_
    refine D_seq (by kernel_rfl) ?_
    obtain ⟨y7, e8, H⟩ := of_bind H
    refine D_reg (cs := [f_table_Put.S.rel (p1, p2, p6, p3, ()) y7]) (τ := ⟨97, [(0, .cv (.one (.sl T814c p1 .any))), (1, .cv (.one (.int .i64 p2))), (3, .cv (.one (.int .i64 p3))), (6, .cv (.one (.ptr 0 0))), (11, .cv (.one (.sl T814c y7.1 .any))), (12, .cv (.one (.int .i64 y7.2.1)))], [(.box 6, [.int .i64 p6.1.1, .int .i64 p6.1.2, .int .i64 p6.2.1, .int .i64 p6.2.2.1, .int .i64 p6.2.2.2.1, .int .i64 p6.2.2.2.2])]⟩) hV 0 [(4, {res := some ⟨f_table_Put.S.rs, y7⟩})] {live := [0, 1, 3, 6, 11, 12], src := [some 0]} (by kernel_rfl) (by kernel_rfl) ⟨⟨k, e8⟩, trivial⟩ ?_
    refine th_n ?_
    refine D_seq (by kernel_rfl) ?_
    obtain ⟨y9, e10, H⟩ := of_bind H
    refine D_reg (cs := [f_ref09_Put.S.rel (p1, p2, p6, p3, ()) y9]) (τ := ⟨97, [(0, .cv (.one (.sl T814c p1 .any))), (1, .cv (.one (.int .i64 p2))), (11, .cv (.one (.sl T814c y7.1 .any))), (12, .cv (.one (.int .i64 y7.2.1))), (13, .cv (.one (.sl T814c y9.1 .any))), (14, .cv (.one (.int .i64 y9.2.1)))], []⟩) hV 0 [(4, {res := some ⟨f_ref09_Put.S.rs, y9⟩})] {live := [0, 1, 11, 12, 13, 14], src := []} (by kernel_rfl) (by kernel_rfl) ⟨⟨k, e10⟩, trivial⟩ ?_
    refine th_n ?_
    refine D_seq (by kernel_rfl) ?_
    obtain ⟨y11, e12, H⟩ := of_bind H
    refine D_reg (cs := [f_ref09_Same.S.rel (y7.1, y9.1, ()) y11]) (τ := ⟨97, [(0, .cv (.one (.sl T814c p1 .any))), (1, .cv (.one (.int .i64 p2))), (12, .cv (.one (.int .i64 y7.2.1))), (14, .cv (.one (.int .i64 y9.2.1))), (15, .cv (.one (.bool y11.1)))], []⟩) hV 0 [(2, {res := some ⟨f_ref09_Same.S.rs, y11⟩})] {live := [0, 1, 12, 14, 15], src := []} (by kernel_rfl) (by kernel_rfl) ⟨⟨k, e12⟩, trivial⟩ ?_
    refine th_n ?_
    refine D_seq (by kernel_rfl) ?_
    obtain ⟨y13, e16, H⟩ := of_bind H
    obtain ⟨y14, e17, H⟩ := of_bind H
    obtain ⟨y15, e18, H⟩ := of_bind H
    refine D_reg (cs := [f_table_Drop.S.rel (p1, p2, ()) y13, f_ref09_Drop.S.rel (p1, p2, ()) y14, f_ref09_Same.S.rel (y13.1, y14.1, ()) y15]) (τ := ⟨97, [(0, .cv (.one (.sl T814c p1 .any))), (1, .cv (.one (.int .i64 p2))), (12, .cv (.one (.int .i64 y7.2.1))), (14, .cv (.one (.int .i64 y9.2.1))), (15, .cv (.one (.bool y11.1))), (16, .cv (.one (.bool y15.1)))], []⟩) hV 0 [(2, {res := some ⟨f_table_Drop.S.rs, y13⟩}), (5, {res := some ⟨f_ref09_Drop.S.rs, y14⟩}), (6, {res := some ⟨f_ref09_Same.S.rs, y15⟩})] {live := [0, 1, 12, 14, 15, 16], src := []} (by kernel_rfl) (by kernel_rfl) ⟨⟨k, e16⟩, ⟨k, e17⟩, ⟨k, e18⟩, trivial⟩ ?_
    refine th_n ?_
    refine D_seq (by kernel_rfl) ?_
    obtain ⟨y19, e20, H⟩ := of_bind H
    refine D_reg (cs := [f_table_Of.S.rel (p1, p2, ()) y19]) (τ := ⟨97, [(0, .cv (.one (.sl T814c p1 .any))), (1, .cv (.one (.int .i64 p2))), (12, .cv (.one (.int .i64 y7.2.1))), (14, .cv (.one (.int .i64 y9.2.1))), (15, .cv (.one (.bool y11.1))), (16, .cv (.one (.bool y15.1))), (17, .cv (.one (.sl T1383 y19.1 .any))), (18, .cv (.one (.bool y19.2.1)))], []⟩) hV 0 [(2, {res := some ⟨f_table_Of.S.rs, y19⟩})] {live := [0, 1, 12, 14, 15, 16, 17, 18], src := []} (by kernel_rfl) (by kernel_rfl) ⟨⟨k, e20⟩, trivial⟩ ?_
    refine th_n ?_
    refine D_seq (by kernel_rfl) ?_
    obtain ⟨y21, e22, H⟩ := of_bind H
    refine D_reg (cs := [f_ref09_Of.S.rel (p1, p2, ()) y21]) (τ := ⟨97, [(0, .cv (.one (.sl T814c p1 .any))), (12, .cv (.one (.int .i64 y7.2.1))), (14, .cv (.one (.int .i64 y9.2.1))), (15, .cv (.one (.bool y11.1))), (16, .cv (.one (.bool y15.1))), (17, .cv (.one (.sl T1383 y19.1 .any))), (18, .cv (.one (.bool y19.2.1))), (19, .cv (.one (.sl T1383 y21.1 .any))), (20, .cv (.one (.bool y21.2.1)))], []⟩) hV 0 [(2, {res := some ⟨f_ref09_Of.S.rs, y21⟩})] {live := [0, 12, 14, 15, 16, 17, 18, 19, 20], src := []} (by kernel_rfl) (by kernel_rfl) ⟨⟨k, e22⟩, trivial⟩ ?_
    refine th_n ?_
    refine D_seq (by kernel_rfl) ?_
    obtain ⟨y23, e24, H⟩ := of_bind H
    refine D_reg (cs := [f_ref08_Same.S.rel (y19.1, y21.1, ()) y23]) (τ := ⟨97, [(0, .cv (.one (.sl T814c p1 .any))), (12, .cv (.one (.int .i64 y7.2.1))), (14, .cv (.one (.int .i64 y9.2.1))), (15, .cv (.one (.bool y11.1))), (16, .cv (.one (.bool y15.1))), (18, .cv (.one (.bool y19.2.1))), (20, .cv (.one (.bool y21.2.1))), (21, .cv (.one (.bool y23.1)))], []⟩) hV 0 [(2, {res := some ⟨f_ref08_Same.S.rs, y23⟩})] {live := [0, 12, 14, 15, 16, 18, 20, 21], src := []} (by kernel_rfl) (by kernel_rfl) ⟨⟨k, e24⟩, trivial⟩ ?_
    refine th_n ?_
    refine D_seq (by kernel_rfl) ?_
    rcases of_ite H with ⟨hb27, H⟩ | ⟨hb27, H⟩
    · rcases of_ite H with ⟨hb28, H⟩ | ⟨hb28, H⟩
      · rcases of_ite H with ⟨hb29, H⟩ | ⟨hb29, H⟩
        · rcases of_ite H with ⟨hb30, H⟩ | ⟨hb30, H⟩
          · rcases of_ite H with ⟨hb31, H⟩ | ⟨hb31, H⟩
            · obtain ⟨y25, e32, H⟩ := of_bind H
              obtain ⟨y26, e33, H⟩ := of_bind H
              refine D_reg (cs := [(y11.1) = true, ((y7.2.1 == y9.2.1)) = true, (y15.1) = true, (y23.1) = true, (((y19.2.1 == y21.2.1) && true)) = true, f_table_Size.S.rel (p1, ()) y25, f_ref09_Size.S.rel (p1, ()) y26]) (τ := ⟨97, [(8, .cv (.one (.bool (y25.1 == y26.1))))], []⟩) hV 0 [(0, {bv := some true}), (5, {bv := some true}), (8, {bv := some true}), (11, {bv := some true}), (16, {bv := some true}), (19, {res := some ⟨f_table_Size.S.rs, y25⟩}), (21, {res := some ⟨f_ref09_Size.S.rs, y26⟩})] {live := [8], src := []} (by kernel_rfl) (by kernel_rfl) ⟨hb27, hb28, hb29, hb30, hb31, ⟨k, e32⟩, ⟨k, e33⟩, trivial⟩ ?_
              refine th_n ?_
              refine D_ret (by kernel_rfl) ?_
              exact lf_r (Eq.trans (by kernel_rfl) H)
            · refine D_reg (cs := [(y11.1) = true, ((y7.2.1 == y9.2.1)) = true, (y15.1) = true, (y23.1) = true, (((y19.2.1 == y21.2.1) && true)) = false]) (τ := ⟨97, [(8, .cv (.one (.bool false)))], []⟩) hV 0 [(0, {bv := some true}), (5, {bv := some true}), (8, {bv := some true}), (11, {bv := some true}), (16, {bv := some false})] {live := [8], src := []} (by kernel_rfl) (by kernel_rfl) ⟨hb27, hb28, hb29, hb30, hb31, trivial⟩ ?_
              refine th_n ?_
              refine D_ret (by kernel_rfl) ?_
              exact lf_r (Eq.trans (by kernel_rfl) H)
          · refine D_reg (cs := [(y11.1) = true, ((y7.2.1 == y9.2.1)) = true, (y15.1) = true, (y23.1) = false]) (τ := ⟨97, [(8, .cv (.one (.bool false)))], []⟩) hV 0 [(0, {bv := some true}), (5, {bv := some true}), (8, {bv := some true}), (11, {bv := some false})] {live := [8], src := []} (by kernel_rfl) (by kernel_rfl) ⟨hb27, hb28, hb29, hb30, trivial⟩ ?_
            refine th_n ?_
            refine D_ret (by kernel_rfl) ?_
            exact lf_r (Eq.trans (by kernel_rfl) H)
        · refine D_reg (cs := [(y11.1) = true, ((y7.2.1 == y9.2.1)) = true, (y15.1) = false]) (τ := ⟨97, [(8, .cv (.one (.bool false)))], []⟩) hV 0 [(0, {bv := some true}), (5, {bv := some true}), (8, {bv := some false})] {live := [8], src := []} (by kernel_rfl) (by kernel_rfl) ⟨hb27, hb28, hb29, trivial⟩ ?_
          refine th_n ?_
          refine D_ret (by kernel_rfl) ?_
          exact lf_r (Eq.trans (by kernel_rfl) H)
      · refine D_reg (cs := [(y11.1) = true, ((y7.2.1 == y9.2.1)) = false]) (τ := ⟨97, [(8, .cv (.one (.bool false)))], []⟩) hV 0 [(0, {bv := some true}), (5, {bv := some false})] {live := [8], src := []} (by kernel_rfl) (by kernel_rfl) ⟨hb27, hb28, trivial⟩ ?_
        refine th_n ?_
        refine D_ret (by kernel_rfl) ?_
        exact lf_r (Eq.trans (by kernel_rfl) H)
    · refine D_reg (cs := [(y11.1) = false]) (τ := ⟨97, [(8, .cv (.one (.bool false)))], []⟩) hV 0 [(0, {bv := some false})] {live := [8], src := []} (by kernel_rfl) (by kernel_rfl) ⟨hb27, trivial⟩ ?_
      refine th_n ?_
      refine D_ret (by kernel_rfl) ?_
      exact lf_r (Eq.trans (by kernel_rfl) H)
noncomputable def f_law09_TableTells.f (k : Nat) (a1 : List T814c.T) (a2 : Int) (a3 : T1383.T) (a4 : Int) : Option f_law09_TableTells.R :=
  (f_law09_awake.f k).bind fun y1 =>
    (f_law09_Few.f k a1).bind fun y3 =>
      if (!y1.1) = true then
        f_law09_TableTells.j1 k a1 a2 a4 y1.1 true a3
      else
        f_law09_TableTells.j1 k a1 a2 a4 y1.1 (!y3.1) a3
noncomputable def f_law09_TableTells.S : Spec := ⟨f_law09_TableTells.ps, f_law09_TableTells.rs, .any, none, fun x r => ∃ k, f_law09_TableTells.f k x.1 x.2.1 x.2.2.1 x.2.2.2.1 = some r⟩
theorem f_law09_TableTells.f_ok (hV : EnvOk P f_law09_TableTells.V) {r : f_law09_TableTells.R} (k : Nat) (a1 : List T814c.T) (a2 : Int) (a3 : T1383.T) (a4 : Int) (H : f_law09_TableTells.f k a1 a2 a3 a4 = some r) : W P 0 f_law09_TableTells.c0 (⟨97, [(0, .cv (.one (.sl T814c a1 .any))), (1, .cv (.one (.int .i64 a2))), (2, .cv (.agg [.int .i64 a3.1.1, .int .i64 a3.1.2, .int .i64 a3.2.1, .int .i64 a3.2.2.1, .int .i64 a3.2.2.2.1, .int .i64 a3.2.2.2.2])), (3, .cv (.one (.int .i64 a4)))], []⟩) (f_law09_TableTells.Q r) := by
  unfold f_law09_TableTells.f at H
  refine D_seq (by kernel_rfl) ?_
  refine D_reg (cs := []) (τ := ⟨97, [(0, .cv (.one (.sl T814c a1 .any))), (1, .cv (.one (.int .i64 a2))), (3, .cv (.one (.int .i64 a4))), (6, .cv (.one (.ptr 0 0)))], [(.box 6, [.int .i64 a3.1.1, .int .i64 a3.1.2, .int .i64 a3.2.1, .int .i64 a3.2.2.1, .int .i64 a3.2.2.2.1, .int .i64 a3.2.2.2.2])]⟩) hV 1 [(0, {sb := 0})] {live := [0, 1, 3, 6], src := [some 0]} (by kernel_rfl) (by kernel_rfl) trivial ?_
  refine th_n ?_
  refine D_seq (by kernel_rfl) ?_
  obtain ⟨y1, e2, H⟩ := of_bind H
  refine D_reg (cs := [f_law09_awake.S.rel (()) y1]) (τ := ⟨97, [(0, .cv (.one (.sl T814c a1 .any))), (1, .cv (.one (.int .i64 a2))), (3, .cv (.one (.int .i64 a4))), (6, .cv (.one (.ptr 0 0))), (9, .cv (.one (.bool y1.1)))], [(.box 6, [.int .i64 a3.1.1, .int .i64 a3.1.2, .int .i64 a3.2.1, .int .i64 a3.2.2.1, .int .i64 a3.2.2.2.1, .int .i64 a3.2.2.2.2])]⟩) hV 0 [(0, {res := some ⟨f_law09_awake.S.rs, y1⟩})] {live := [0, 1, 3, 6, 9], src := [some 0]} (by kernel_rfl) (by kernel_rfl) ⟨⟨k, e2⟩, trivial⟩ ?_
  refine th_n ?_
  refine D_seq (by kernel_rfl) ?_
  obtain ⟨y3, e4, H⟩ := of_bind H
  refine D_reg (cs := [f_law09_Few.S.rel (a1, ()) y3]) (τ := ⟨97, [(0, .cv (.one (.sl T814c a1 .any))), (1, .cv (.one (.int .i64 a2))), (3, .cv (.one (.int .i64 a4))), (6, .cv (.one (.ptr 0 0))), (9, .cv (.one (.bool y1.1))), (10, .cv (.one (.bool y3.1)))], [(.box 6, [.int .i64 a3.1.1, .int .i64 a3.1.2, .int .i64 a3.2.1, .int .i64 a3.2.2.1, .int .i64 a3.2.2.2.1, .int .i64 a3.2.2.2.2])]⟩) hV 0 [(1, {res := some ⟨f_law09_Few.S.rs, y3⟩})] {live := [0, 1, 3, 6, 9, 10], src := [some 0]} (by kernel_rfl) (by kernel_rfl) ⟨⟨k, e4⟩, trivial⟩ ?_
  refine th_n ?_
  refine D_seq (by kernel_rfl) ?_
  refine D_seq (by kernel_rfl) ?_
  rcases of_ite H with ⟨hb5, H⟩ | ⟨hb5, H⟩
  · refine D_reg (cs := [((!y1.1)) = true]) (τ := ⟨97, [(0, .cv (.one (.sl T814c a1 .any))), (1, .cv (.one (.int .i64 a2))), (3, .cv (.one (.int .i64 a4))), (6, .cv (.one (.ptr 0 0))), (9, .cv (.one (.bool y1.1))), (30, .cv (.one (.bool true)))], [(.box 6, [.int .i64 a3.1.1, .int .i64 a3.1.2, .int .i64 a3.2.1, .int .i64 a3.2.2.1, .int .i64 a3.2.2.2.1, .int .i64 a3.2.2.2.2])]⟩) hV 0 [(1, {bv := some true})] {live := [0, 1, 3, 6, 9, 30], src := [some 0]} (by kernel_rfl) (by kernel_rfl) ⟨hb5, trivial⟩ ?_
    refine th_n ?_
    refine W_tell (τ := f_law09_TableTells.s1 a1 a2 a4 y1.1 true a3) {fz := [], gr := 0, ad := [], live := [0, 1, 3, 6, 9, 30], src := [some 0]} (by kernel_rfl) (by kernel_rfl) ?_
    exact f_law09_TableTells.j1_ok hV k a1 a2 a4 y1.1 true a3 H
  · refine D_reg (cs := [((!y1.1)) = false]) (τ := ⟨97, [(0, .cv (.one (.sl T814c a1 .any))), (1, .cv (.one (.int .i64 a2))), (3, .cv (.one (.int .i64 a4))), (6, .cv (.one (.ptr 0 0))), (9, .cv (.one (.bool y1.1))), (30, .cv (.one (.bool (!y3.1))))], [(.box 6, [.int .i64 a3.1.1, .int .i64 a3.1.2, .int .i64 a3.2.1, .int .i64 a3.2.2.1, .int .i64 a3.2.2.2.1, .int .i64 a3.2.2.2.2])]⟩) hV 0 [(1, {bv := some false})] {live := [0, 1, 3, 6, 9, 30], src := [some 0]} (by kernel_rfl) (by kernel_rfl) ⟨hb5, trivial⟩ ?_
    refine th_n ?_
    refine W_tell (τ := f_law09_TableTells.s1 a1 a2 a4 y1.1 (!y3.1) a3) {fz := [], gr := 0, ad := [], live := [0, 1, 3, 6, 9, 30], src := [some 0]} (by kernel_rfl) (by kernel_rfl) ?_
    exact f_law09_TableTells.j1_ok hV k a1 a2 a4 y1.1 (!y3.1) a3 H
theorem f_law09_TableTells.V_ok : EnvOk P f_law09_TableTells.V := { ck := tt_ck, fits := slk_cons f_law09_Few.fits (slk_cons f_law09_awake.fits (slk_cons f_table_Put.fits (slk_cons f_table_Drop.fits (slk_cons f_ref09_Same.fits (slk_cons f_ref09_Put.fits (slk_cons f_ref09_Drop.fits (slk_cons f_table_Of.fits (slk_cons f_ref09_Of.fits (slk_cons f_ref08_Same.fits (slk_cons f_table_Size.fits (slk_cons f_ref09_Size.fits (slk_nil)))))))))))), mixed := mixed }
theorem f_law09_TableTells.fits : Fits P 9 f_law09_TableTells.S := fits_of f_law09_TableTells.V_ok Go.Proofs.Try.func9 (by kernel_rfl) (by decide) (by decide) rfl (fun x r ⟨k, H⟩ => f_law09_TableTells.f_ok f_law09_TableTells.V_ok k x.1 x.2.1 x.2.2.1 x.2.2.2.1 H)
/-! ### f_law09_TableApart: function 10, wayfinder/wayfinderlaw09.TableApart -/
abbrev f_law09_TableApart.ps : Sg := [(false, (.slice T814c)), (false, (.int .i64)), (true, T1383), (false, (.int .i64)), (false, (.int .i64)), (false, (.int .i64))]
abbrev f_law09_TableApart.rs : Sg := [(false, .bool)]
noncomputable def f_law09_TableApart.c0 : Code := (Go.Proofs.Try.f10.body).getD .skip
noncomputable def f_law09_TableApart.G : List (Nat × Spec) := [(18, f_law09_Few.S), (21, f_law09_awake.S), (22, f_table_Look.S), (24, f_table_Put.S), (25, f_table_Drop.S), (29, f_table_Of.S), (31, f_ref08_Same.S)]
noncomputable def f_law09_TableApart.V : Env := { tt := tt, Γ := slk f_law09_TableApart.G }
noncomputable abbrev f_law09_TableApart.Q (r : Tup f_law09_TableApart.rs) : Exit → St → Prop := Qr tt Go.Proofs.Try.f10.results ⟨f_law09_TableApart.ps, f_law09_TableApart.rs, .any, none, fun _ _ => True⟩ r
abbrev f_law09_TableApart.R := Tup f_law09_TableApart.rs
noncomputable def f_law09_TableApart.s1 (p1 : List T814c.T) (p2 : Int) (p3 : Int) (p4 : Int) (p5 : Int) (p6 : Bool) (p7 : Bool) (p8 : T1383.T) : St := ⟨139, [(0, .cv (.one (.sl T814c p1 .any))), (1, .cv (.one (.int .i64 p2))), (3, .cv (.one (.int .i64 p3))), (4, .cv (.one (.int .i64 p4))), (5, .cv (.one (.int .i64 p5))), (8, .cv (.one (.ptr 0 0))), (13, .cv (.one (.bool p6))), (45, .cv (.one (.bool p7)))], [(.box 6, [.int .i64 p8.1.1, .int .i64 p8.1.2, .int .i64 p8.2.1, .int .i64 p8.2.2.1, .int .i64 p8.2.2.2.1, .int .i64 p8.2.2.2.2])]⟩
noncomputable def f_law09_TableApart.j1 (k : Nat) (p1 : List T814c.T) (p2 : Int) (p3 : Int) (p4 : Int) (p5 : Int) (p6 : Bool) (p7 : Bool) (p8 : T1383.T) : Option f_law09_TableApart.R :=
  if p7 = true then
  some (p6, ())
else
  (f_table_Put.f k p1 p2 p8 (10000 : Int)).bind fun y7 =>
    (f_table_Drop.f k p1 p2).bind fun y9 =>
      (f_table_Look.f k p1 p3 p4 p5).bind fun y11 =>
        (f_table_Look.f k y7.1 p3 p4 p5).bind fun y13 =>
          (f_table_Look.f k y9.1 p3 p4 p5).bind fun y15 =>
            (f_table_Of.f k p1 p3).bind fun y17 =>
              (f_table_Of.f k y7.1 p3).bind fun y19 =>
                (f_table_Of.f k y9.1 p3).bind fun y21 =>
                  (f_ref08_Same.f k y17.1 y19.1).bind fun y23 =>
                    (f_ref08_Same.f k y17.1 y21.1).bind fun y25 =>
                      if ((y11.1.1 == y13.1.1) && ((y11.1.2 == y13.1.2) && true)) = true then
                        if ((y13.1.1 == y15.1.1) && ((y13.1.2 == y15.1.2) && true)) = true then
                          if (y11.2.1 == y13.2.1) = true then
                            if (y13.2.1 == y15.2.1) = true then
                              if y23.1 = true then
                                if y25.1 = true then
                                  if ((y17.2.1 == y19.2.1) && true) = true then
                                    some (((y19.2.1 == y21.2.1) && true), ())
                                  else
                                    some (false, ())
                                else
                                  some (false, ())
                              else
                                some (false, ())
                            else
                              some (false, ())
                          else
                            some (false, ())
                        else
                          some (false, ())
                      else
                        some (false, ())
theorem f_law09_TableApart.j1_ok (hV : EnvOk P f_law09_TableApart.V) {r : f_law09_TableApart.R} (k : Nat) (p1 : List T814c.T) (p2 : Int) (p3 : Int) (p4 : Int) (p5 : Int) (p6 : Bool) (p7 : Bool) (p8 : T1383.T) (H : f_law09_TableApart.j1 k p1 p2 p3 p4 p5 p6 p7 p8 = some r) : W P 0 (Code.r (Code.l (Code.r (Code.r (Code.r f_law09_TableApart.c0))))) (f_law09_TableApart.s1 p1 p2 p3 p4 p5 p6 p7 p8) (thenW P 0 (Code.r (Code.r (Code.r (Code.r f_law09_TableApart.c0)))) (f_law09_TableApart.Q r)) := by
  unfold f_law09_TableApart.j1 at H
  refine D_condB (t := 45) (b := p7) (by kernel_rfl) (by kernel_rfl) (fun hb6 => ?_) (fun hb6 => ?_)
  · rw [if_pos hb6] at H
    refine D_seq (by kernel_rfl) ?_
    refine D_reg (cs := []) (τ := ⟨139, [(12, .cv (.one (.bool p6)))], []⟩) hV 0 [] {live := [12], src := []} (by kernel_rfl) (by kernel_rfl) trivial ?_
    refine th_n ?_
    refine D_ret (by kernel_rfl) ?_
    refine th_r ?_
    exact lf_r (Eq.trans (by kernel_rfl) H)
  · rw [if_neg (by rw [hb6]; decide)] at H
    refine D_skip (by kernel_rfl) ?_
    refine th_n ?_
    refine D_seq (by kernel_rfl) ?_
    obtain ⟨y7, e8, H⟩ := of_bind H
    refine D_reg (cs := [f_table_Put.S.rel (p1, p2, p8, 10000, ()) y7]) (τ := ⟨139, [(0, .cv (.one (.sl T814c p1 .any))), (1, .cv (.one (.int .i64 p2))), (3, .cv (.one (.int .i64 p3))), (4, .cv (.one (.int .i64 p4))), (5, .cv (.one (.int .i64 p5))), (15, .cv (.one (.sl T814c y7.1 .any)))], []⟩) hV 0 [(3, {res := some ⟨f_table_Put.S.rs, y7⟩})] {live := [0, 1, 3, 4, 5, 15], src := []} (by kernel_rfl) (by kernel_rfl) ⟨⟨k, e8⟩, trivial⟩ ?_
    refine th_n ?_
    refine D_seq (by kernel_rfl) ?_
    obtain ⟨y9, e10, H⟩ := of_bind H
    refine D_reg (cs := [f_table_Drop.S.rel (p1, p2, ()) y9]) (τ := ⟨139, [(0, .cv (.one (.sl T814c p1 .any))), (3, .cv (.one (.int .i64 p3))), (4, .cv (.one (.int .i64 p4))), (5, .cv (.one (.int .i64 p5))), (15, .cv (.one (.sl T814c y7.1 .any))), (17, .cv (.one (.sl T814c y9.1 .any)))], []⟩) hV 0 [(2, {res := some ⟨f_table_Drop.S.rs, y9⟩})] {live := [0, 3, 4, 5, 15, 17], src := []} (by kernel_rfl) (by kernel_rfl) ⟨⟨k, e10⟩, trivial⟩ ?_
    refine th_n ?_
    refine D_seq (by kernel_rfl) ?_
    obtain ⟨y11, e12, H⟩ := of_bind H
    refine D_reg (cs := [f_table_Look.S.rel (p1, p3, p4, p5, ()) y11]) (τ := ⟨139, [(0, .cv (.one (.sl T814c p1 .any))), (3, .cv (.one (.int .i64 p3))), (4, .cv (.one (.int .i64 p4))), (5, .cv (.one (.int .i64 p5))), (15, .cv (.one (.sl T814c y7.1 .any))), (17, .cv (.one (.sl T814c y9.1 .any))), (18, .cv (.one (.ptr 0 0))), (19, .cv (.one (.int .i64 y11.2.1)))], [(.box 2, [.int .i64 y11.1.1, .int .i64 y11.1.2])]⟩) hV 1 [(4, {res := some ⟨f_table_Look.S.rs, y11⟩}), (8, {sb := 0})] {live := [0, 3, 4, 5, 15, 17, 18, 19], src := [some 0]} (by kernel_rfl) (by kernel_rfl) ⟨⟨k, e12⟩, trivial⟩ ?_
    refine th_n ?_
    refine D_seq (by kernel_rfl) ?_
    obtain ⟨y13, e14, H⟩ := of_bind H
    refine D_reg (cs := [f_table_Look.S.rel (y7.1, p3, p4, p5, ()) y13]) (τ := ⟨139, [(0, .cv (.one (.sl T814c p1 .any))), (3, .cv (.one (.int .i64 p3))), (4, .cv (.one (.int .i64 p4))), (5, .cv (.one (.int .i64 p5))), (15, .cv (.one (.sl T814c y7.1 .any))), (17, .cv (.one (.sl T814c y9.1 .any))), (18, .cv (.one (.ptr 0 0))), (19, .cv (.one (.int .i64 y11.2.1))), (20, .cv (.one (.ptr 1 0))), (21, .cv (.one (.int .i64 y13.2.1)))], [(.box 2, [.int .i64 y11.1.1, .int .i64 y11.1.2]), (.box 2, [.int .i64 y13.1.1, .int .i64 y13.1.2])]⟩) hV 1 [(4, {res := some ⟨f_table_Look.S.rs, y13⟩}), (8, {sb := 1})] {live := [0, 3, 4, 5, 15, 17, 18, 19, 20, 21], src := [some 0, some 1]} (by kernel_rfl) (by kernel_rfl) ⟨⟨k, e14⟩, trivial⟩ ?_
    refine th_n ?_
    refine D_seq (by kernel_rfl) ?_
    obtain ⟨y15, e16, H⟩ := of_bind H
    refine D_reg (cs := [f_table_Look.S.rel (y9.1, p3, p4, p5, ()) y15]) (τ := ⟨139, [(0, .cv (.one (.sl T814c p1 .any))), (3, .cv (.one (.int .i64 p3))), (15, .cv (.one (.sl T814c y7.1 .any))), (17, .cv (.one (.sl T814c y9.1 .any))), (18, .cv (.one (.ptr 0 0))), (19, .cv (.one (.int .i64 y11.2.1))), (20, .cv (.one (.ptr 1 0))), (21, .cv (.one (.int .i64 y13.2.1))), (22, .cv (.one (.ptr 2 0))), (23, .cv (.one (.int .i64 y15.2.1)))], [(.box 2, [.int .i64 y11.1.1, .int .i64 y11.1.2]), (.box 2, [.int .i64 y13.1.1, .int .i64 y13.1.2]), (.box 2, [.int .i64 y15.1.1, .int .i64 y15.1.2])]⟩) hV 1 [(4, {res := some ⟨f_table_Look.S.rs, y15⟩}), (8, {sb := 2})] {live := [0, 3, 15, 17, 18, 19, 20, 21, 22, 23], src := [some 0, some 1, some 2]} (by kernel_rfl) (by kernel_rfl) ⟨⟨k, e16⟩, trivial⟩ ?_
    refine th_n ?_
    refine D_seq (by kernel_rfl) ?_
    obtain ⟨y17, e18, H⟩ := of_bind H
    refine D_reg (cs := [f_table_Of.S.rel (p1, p3, ()) y17]) (τ := ⟨139, [(3, .cv (.one (.int .i64 p3))), (15, .cv (.one (.sl T814c y7.1 .any))), (17, .cv (.one (.sl T814c y9.1 .any))), (18, .cv (.one (.ptr 0 0))), (19, .cv (.one (.int .i64 y11.2.1))), (20, .cv (.one (.ptr 1 0))), (21, .cv (.one (.int .i64 y13.2.1))), (22, .cv (.one (.ptr 2 0))), (23, .cv (.one (.int .i64 y15.2.1))), (24, .cv (.one (.sl T1383 y17.1 .any))), (25, .cv (.one (.bool y17.2.1)))], [(.box 2, [.int .i64 y11.1.1, .int .i64 y11.1.2]), (.box 2, [.int .i64 y13.1.1, .int .i64 y13.1.2]), (.box 2, [.int .i64 y15.1.1, .int .i64 y15.1.2])]⟩) hV 0 [(2, {res := some ⟨f_table_Of.S.rs, y17⟩})] {live := [3, 15, 17, 18, 19, 20, 21, 22, 23, 24, 25], src := [some 0, some 1, some 2]} (by kernel_rfl) (by kernel_rfl) ⟨⟨k, e18⟩, trivial⟩ ?_
    refine th_n ?_
    refine D_seq (by kernel_rfl) ?_
    obtain ⟨y19, e20, H⟩ := of_bind H
    refine D_reg (cs := [f_table_Of.S.rel (y7.1, p3, ()) y19]) (τ := ⟨139, [(3, .cv (.one (.int .i64 p3))), (17, .cv (.one (.sl T814c y9.1 .any))), (18, .cv (.one (.ptr 0 0))), (19, .cv (.one (.int .i64 y11.2.1))), (20, .cv (.one (.ptr 1 0))), (21, .cv (.one (.int .i64 y13.2.1))), (22, .cv (.one (.ptr 2 0))), (23, .cv (.one (.int .i64 y15.2.1))), (24, .cv (.one (.sl T1383 y17.1 .any))), (25, .cv (.one (.bool y17.2.1))), (26, .cv (.one (.sl T1383 y19.1 .any))), (27, .cv (.one (.bool y19.2.1)))], [(.box 2, [.int .i64 y11.1.1, .int .i64 y11.1.2]), (.box 2, [.int .i64 y13.1.1, .int .i64 y13.1.2]), (.box 2, [.int .i64 y15.1.1, .int .i64 y15.1.2])]⟩) hV 0 [(2, {res := some ⟨f_table_Of.S.rs, y19⟩})] {live := [3, 17, 18, 19, 20, 21, 22, 23, 24, 25, 26, 27], src := [some 0, some 1, some 2]} (by kernel_rfl) (by kernel_rfl) ⟨⟨k, e20⟩, trivial⟩ ?_
    refine th_n ?_
    refine D_seq (by kernel_rfl) ?_
    obtain ⟨y21, e22, H⟩ := of_bind H
    refine D_reg (cs := [f_table_Of.S.rel (y9.1, p3, ()) y21]) (τ := ⟨139, [(18, .cv (.one (.ptr 0 0))), (19, .cv (.one (.int .i64 y11.2.1))), (20, .cv (.one (.ptr 1 0))), (21, .cv (.one (.int .i64 y13.2.1))), (22, .cv (.one (.ptr 2 0))), (23, .cv (.one (.int .i64 y15.2.1))), (24, .cv (.one (.sl T1383 y17.1 .any))), (25, .cv (.one (.bool y17.2.1))), (26, .cv (.one (.sl T1383 y19.1 .any))), (27, .cv (.one (.bool y19.2.1))), (28, .cv (.one (.sl T1383 y21.1 .any))), (29, .cv (.one (.bool y21.2.1)))], [(.box 2, [.int .i64 y11.1.1, .int .i64 y11.1.2]), (.box 2, [.int .i64 y13.1.1, .int .i64 y13.1.2]), (.box 2, [.int .i64 y15.1.1, .int .i64 y15.1.2])]⟩) hV 0 [(2, {res := some ⟨f_table_Of.S.rs, y21⟩})] {live := [18, 19, 20, 21, 22, 23, 24, 25, 26, 27, 28, 29], src := [some 0, some 1, some 2]} (by kernel_rfl) (by kernel_rfl) ⟨⟨k, e22⟩, trivial⟩ ?_
    refine th_n ?_
    refine D_seq (by kernel_rfl) ?_
    obtain ⟨y23, e24, H⟩ := of_bind H
    refine D_reg (cs := [f_ref08_Same.S.rel (y17.1, y19.1, ()) y23]) (τ := ⟨139, [(18, .cv (.one (.ptr 0 0))), (19, .cv (.one (.int .i64 y11.2.1))), (20, .cv (.one (.ptr 1 0))), (21, .cv (.one (.int .i64 y13.2.1))), (22, .cv (.one (.ptr 2 0))), (23, .cv (.one (.int .i64 y15.2.1))), (24, .cv (.one (.sl T1383 y17.1 .any))), (25, .cv (.one (.bool y17.2.1))), (27, .cv (.one (.bool y19.2.1))), (28, .cv (.one (.sl T1383 y21.1 .any))), (29, .cv (.one (.bool y21.2.1))), (30, .cv (.one (.bool y23.1)))], [(.box 2, [.int .i64 y11.1.1, .int .i64 y11.1.2]), (.box 2, [.int .i64 y13.1.1, .int .i64 y13.1.2]), (.box 2, [.int .i64 y15.1.1, .int .i64 y15.1.2])]⟩) hV 0 [(2, {res := some ⟨f_ref08_Same.S.rs, y23⟩})] {live := [18, 19, 20, 21, 22, 23, 24, 25, 27, 28, 29, 30], src := [some 0, some 1, some 2]} (by kernel_rfl) (by kernel_rfl) ⟨⟨k, e24⟩, trivial⟩ ?_
    refine th_n ?_
    refine D_seq (by kernel_rfl) ?_
    obtain ⟨y25, e26, H⟩ := of_bind H
    refine D_reg (cs := [f_ref08_Same.S.rel (y17.1, y21.1, ()) y25]) (τ := ⟨139, [(18, .cv (.one (.ptr 0 0))), (19, .cv (.one (.int .i64 y11.2.1))), (20, .cv (.one (.ptr 1 0))), (21, .cv (.one (.int .i64 y13.2.1))), (22, .cv (.one (.ptr 2 0))), (23, .cv (.one (.int .i64 y15.2.1))), (25, .cv (.one (.bool y17.2.1))), (27, .cv (.one (.bool y19.2.1))), (29, .cv (.one (.bool y21.2.1))), (30, .cv (.one (.bool y23.1))), (31, .cv (.one (.bool y25.1)))], [(.box 2, [.int .i64 y11.1.1, .int .i64 y11.1.2]), (.box 2, [.int .i64 y13.1.1, .int .i64 y13.1.2]), (.box 2, [.int .i64 y15.1.1, .int .i64 y15.1.2])]⟩) hV 0 [(2, {res := some ⟨f_ref08_Same.S.rs, y25⟩})] {live := [18, 19, 20, 21, 22, 23, 25, 27, 29, 30, 31], src := [some 0, some 1, some 2]} (by kernel_rfl) (by kernel_rfl) ⟨⟨k, e26⟩, trivial⟩ ?_
    refine th_n ?_
    refine D_seq (by kernel_rfl) ?_
    rcases of_ite H with ⟨hb27, H⟩ | ⟨hb27, H⟩
    · rcases of_ite H with ⟨hb28, H⟩ | ⟨hb28, H⟩
      · rcases of_ite H with ⟨hb29, H⟩ | ⟨hb29, H⟩
        · rcases of_ite H with ⟨hb30, H⟩ | ⟨hb30, H⟩
          · rcases of_ite H with ⟨hb31, H⟩ | ⟨hb31, H⟩
            · rcases of_ite H with ⟨hb32, H⟩ | ⟨hb32, H⟩
              · rcases of_ite H with ⟨hb33, H⟩ | ⟨hb33, H⟩
                · refine D_reg (cs := [(((y11.1.1 == y13.1.1) && ((y11.1.2 == y13.1.2) && true))) = true, (((y13.1.1 == y15.1.1) && ((y13.1.2 == y15.1.2) && true))) = true, ((y11.2.1 == y13.2.1)) = true, ((y13.2.1 == y15.2.1)) = true, (y23.1) = true, (y25.1) = true, (((y17.2.1 == y19.2.1) && true)) = true]) (τ := ⟨139, [(12, .cv (.one (.bool ((y19.2.1 == y21.2.1) && true))))], []⟩) hV 0 [(2, {bv := some true}), (7, {bv := some true}), (12, {bv := some true}), (17, {bv := some true}), (20, {bv := some true}), (23, {bv := some true}), (28, {bv := some true})] {live := [12], src := []} (by kernel_rfl) (by kernel_rfl) ⟨hb27, hb28, hb29, hb30, hb31, hb32, hb33, trivial⟩ ?_
                  refine th_n ?_
                  refine D_ret (by kernel_rfl) ?_
                  exact lf_r (Eq.trans (by kernel_rfl) H)
                · refine D_reg (cs := [(((y11.1.1 == y13.1.1) && ((y11.1.2 == y13.1.2) && true))) = true, (((y13.1.1 == y15.1.1) && ((y13.1.2 == y15.1.2) && true))) = true, ((y11.2.1 == y13.2.1)) = true, ((y13.2.1 == y15.2.1)) = true, (y23.1) = true, (y25.1) = true, (((y17.2.1 == y19.2.1) && true)) = false]) (τ := ⟨139, [(12, .cv (.one (.bool false)))], []⟩) hV 0 [(2, {bv := some true}), (7, {bv := some true}), (12, {bv := some true}), (17, {bv := some true}), (20, {bv := some true}), (23, {bv := some true}), (28, {bv := some false})] {live := [12], src := []} (by kernel_rfl) (by kernel_rfl) ⟨hb27, hb28, hb29, hb30, hb31, hb32, hb33, trivial⟩ ?_
                  refine th_n ?_
                  refine D_ret (by kernel_rfl) ?_
                  exact lf_r (Eq.trans (by kernel_rfl) H)
              · refine D_reg (cs := [(((y11.1.1 == y13.1.1) && ((y11.1.2 == y13.1.2) && true))) = true, (((y13.1.1 == y15.1.1) && ((y13.1.2 == y15.1.2) && true))) = true, ((y11.2.1 == y13.2.1)) = true, ((y13.2.1 == y15.2.1)) = true, (y23.1) = true, (y25.1) = false]) (τ := ⟨139, [(12, .cv (.one (.bool false)))], []⟩) hV 0 [(2, {bv := some true}), (7, {bv := some true}), (12, {bv := some true}), (17, {bv := some true}), (20, {bv := some true}), (23, {bv := some false})] {live := [12], src := []} (by kernel_rfl) (by kernel_rfl) ⟨hb27, hb28, hb29, hb30, hb31, hb32, trivial⟩ ?_
                refine th_n ?_
                refine D_ret (by kernel_rfl) ?_
                exact lf_r (Eq.trans (by kernel_rfl) H)
            · refine D_reg (cs := [(((y11.1.1 == y13.1.1) && ((y11.1.2 == y13.1.2) && true))) = true, (((y13.1.1 == y15.1.1) && ((y13.1.2 == y15.1.2) && true))) = true, ((y11.2.1 == y13.2.1)) = true, ((y13.2.1 == y15.2.1)) = true, (y23.1) = false]) (τ := ⟨139, [(12, .cv (.one (.bool false)))], []⟩) hV 0 [(2, {bv := some true}), (7, {bv := some true}), (12, {bv := some true}), (17, {bv := some true}), (20, {bv := some false})] {live := [12], src := []} (by kernel_rfl) (by kernel_rfl) ⟨hb27, hb28, hb29, hb30, hb31, trivial⟩ ?_
              refine th_n ?_
              refine D_ret (by kernel_rfl) ?_
              exact lf_r (Eq.trans (by kernel_rfl) H)
          · refine D_reg (cs := [(((y11.1.1 == y13.1.1) && ((y11.1.2 == y13.1.2) && true))) = true, (((y13.1.1 == y15.1.1) && ((y13.1.2 == y15.1.2) && true))) = true, ((y11.2.1 == y13.2.1)) = true, ((y13.2.1 == y15.2.1)) = false]) (τ := ⟨139, [(12, .cv (.one (.bool false)))], []⟩) hV 0 [(2, {bv := some true}), (7, {bv := some true}), (12, {bv := some true}), (17, {bv := some false})] {live := [12], src := []} (by kernel_rfl) (by kernel_rfl) ⟨hb27, hb28, hb29, hb30, trivial⟩ ?_
            refine th_n ?_
            refine D_ret (by kernel_rfl) ?_
            exact lf_r (Eq.trans (by kernel_rfl) H)
        · refine D_reg (cs := [(((y11.1.1 == y13.1.1) && ((y11.1.2 == y13.1.2) && true))) = true, (((y13.1.1 == y15.1.1) && ((y13.1.2 == y15.1.2) && true))) = true, ((y11.2.1 == y13.2.1)) = false]) (τ := ⟨139, [(12, .cv (.one (.bool false)))], []⟩) hV 0 [(2, {bv := some true}), (7, {bv := some true}), (12, {bv := some false})] {live := [12], src := []} (by kernel_rfl) (by kernel_rfl) ⟨hb27, hb28, hb29, trivial⟩ ?_
          refine th_n ?_
          refine D_ret (by kernel_rfl) ?_
          exact lf_r (Eq.trans (by kernel_rfl) H)
      · refine D_reg (cs := [(((y11.1.1 == y13.1.1) && ((y11.1.2 == y13.1.2) && true))) = true, (((y13.1.1 == y15.1.1) && ((y13.1.2 == y15.1.2) && true))) = false]) (τ := ⟨139, [(12, .cv (.one (.bool false)))], []⟩) hV 0 [(2, {bv := some true}), (7, {bv := some false})] {live := [12], src := []} (by kernel_rfl) (by kernel_rfl) ⟨hb27, hb28, trivial⟩ ?_
        refine th_n ?_
        refine D_ret (by kernel_rfl) ?_
        exact lf_r (Eq.trans (by kernel_rfl) H)
    · refine D_reg (cs := [(((y11.1.1 == y13.1.1) && ((y11.1.2 == y13.1.2) && true))) = false]) (τ := ⟨139, [(12, .cv (.one (.bool false)))], []⟩) hV 0 [(2, {bv := some false})] {live := [12], src := []} (by kernel_rfl) (by kernel_rfl) ⟨hb27, trivial⟩ ?_
      refine th_n ?_
      refine D_ret (by kernel_rfl) ?_
      exact lf_r (Eq.trans (by kernel_rfl) H)
noncomputable def f_law09_TableApart.f (k : Nat) (a1 : List T814c.T) (a2 : Int) (a3 : T1383.T) (a4 : Int) (a5 : Int) (a6 : Int) : Option f_law09_TableApart.R :=
  (f_law09_awake.f k).bind fun y1 =>
    (f_law09_Few.f k a1).bind fun y3 =>
      if (!y1.1) = true then
        f_law09_TableApart.j1 k a1 a2 a4 a5 a6 y1.1 true a3
      else
        if (!y3.1) = true then
          f_law09_TableApart.j1 k a1 a2 a4 a5 a6 y1.1 true a3
        else
          f_law09_TableApart.j1 k a1 a2 a4 a5 a6 y1.1 (a4 == a2) a3
noncomputable def f_law09_TableApart.S : Spec := ⟨f_law09_TableApart.ps, f_law09_TableApart.rs, .any, none, fun x r => ∃ k, f_law09_TableApart.f k x.1 x.2.1 x.2.2.1 x.2.2.2.1 x.2.2.2.2.1 x.2.2.2.2.2.1 = some r⟩
theorem f_law09_TableApart.f_ok (hV : EnvOk P f_law09_TableApart.V) {r : f_law09_TableApart.R} (k : Nat) (a1 : List T814c.T) (a2 : Int) (a3 : T1383.T) (a4 : Int) (a5 : Int) (a6 : Int) (H : f_law09_TableApart.f k a1 a2 a3 a4 a5 a6 = some r) : W P 0 f_law09_TableApart.c0 (⟨139, [(0, .cv (.one (.sl T814c a1 .any))), (1, .cv (.one (.int .i64 a2))), (2, .cv (.agg [.int .i64 a3.1.1, .int .i64 a3.1.2, .int .i64 a3.2.1, .int .i64 a3.2.2.1, .int .i64 a3.2.2.2.1, .int .i64 a3.2.2.2.2])), (3, .cv (.one (.int .i64 a4))), (4, .cv (.one (.int .i64 a5))), (5, .cv (.one (.int .i64 a6)))], []⟩) (f_law09_TableApart.Q r) := by
  unfold f_law09_TableApart.f at H
  refine D_seq (by kernel_rfl) ?_
  refine D_reg (cs := []) (τ := ⟨139, [(0, .cv (.one (.sl T814c a1 .any))), (1, .cv (.one (.int .i64 a2))), (3, .cv (.one (.int .i64 a4))), (4, .cv (.one (.int .i64 a5))), (5, .cv (.one (.int .i64 a6))), (8, .cv (.one (.ptr 0 0)))], [(.box 6, [.int .i64 a3.1.1, .int .i64 a3.1.2, .int .i64 a3.2.1, .int .i64 a3.2.2.1, .int .i64 a3.2.2.2.1, .int .i64 a3.2.2.2.2])]⟩) hV 1 [(0, {sb := 0})] {live := [0, 1, 3, 4, 5, 8], src := [some 0]} (by kernel_rfl) (by kernel_rfl) trivial ?_
  refine th_n ?_
  refine D_seq (by kernel_rfl) ?_
  obtain ⟨y1, e2, H⟩ := of_bind H
  refine D_reg (cs := [f_law09_awake.S.rel (()) y1]) (τ := ⟨139, [(0, .cv (.one (.sl T814c a1 .any))), (1, .cv (.one (.int .i64 a2))), (3, .cv (.one (.int .i64 a4))), (4, .cv (.one (.int .i64 a5))), (5, .cv (.one (.int .i64 a6))), (8, .cv (.one (.ptr 0 0))), (13, .cv (.one (.bool y1.1)))], [(.box 6, [.int .i64 a3.1.1, .int .i64 a3.1.2, .int .i64 a3.2.1, .int .i64 a3.2.2.1, .int .i64 a3.2.2.2.1, .int .i64 a3.2.2.2.2])]⟩) hV 0 [(0, {res := some ⟨f_law09_awake.S.rs, y1⟩})] {live := [0, 1, 3, 4, 5, 8, 13], src := [some 0]} (by kernel_rfl) (by kernel_rfl) ⟨⟨k, e2⟩, trivial⟩ ?_
  refine th_n ?_
  refine D_seq (by kernel_rfl) ?_
  obtain ⟨y3, e4, H⟩ := of_bind H
  refine D_reg (cs := [f_law09_Few.S.rel (a1, ()) y3]) (τ := ⟨139, [(0, .cv (.one (.sl T814c a1 .any))), (1, .cv (.one (.int .i64 a2))), (3, .cv (.one (.int .i64 a4))), (4, .cv (.one (.int .i64 a5))), (5, .cv (.one (.int .i64 a6))), (8, .cv (.one (.ptr 0 0))), (13, .cv (.one (.bool y1.1))), (14, .cv (.one (.bool y3.1)))], [(.box 6, [.int .i64 a3.1.1, .int .i64 a3.1.2, .int .i64 a3.2.1, .int .i64 a3.2.2.1, .int .i64 a3.2.2.2.1, .int .i64 a3.2.2.2.2])]⟩) hV 0 [(1, {res := some ⟨f_law09_Few.S.rs, y3⟩})] {live := [0, 1, 3, 4, 5, 8, 13, 14], src := [some 0]} (by kernel_rfl) (by kernel_rfl) ⟨⟨k, e4⟩, trivial⟩ ?_
  refine th_n ?_
  refine D_seq (by kernel_rfl) ?_
  refine D_seq (by kernel_rfl) ?_
  rcases of_ite H with ⟨hb5, H⟩ | ⟨hb5, H⟩
  · refine D_reg (cs := [((!y1.1)) = true]) (τ := ⟨139, [(0, .cv (.one (.sl T814c a1 .any))), (1, .cv (.one (.int .i64 a2))), (3, .cv (.one (.int .i64 a4))), (4, .cv (.one (.int .i64 a5))), (5, .cv (.one (.int .i64 a6))), (8, .cv (.one (.ptr 0 0))), (13, .cv (.one (.bool y1.1))), (45, .cv (.one (.bool true)))], [(.box 6, [.int .i64 a3.1.1, .int .i64 a3.1.2, .int .i64 a3.2.1, .int .i64 a3.2.2.1, .int .i64 a3.2.2.2.1, .int .i64 a3.2.2.2.2])]⟩) hV 0 [(1, {bv := some true})] {live := [0, 1, 3, 4, 5, 8, 13, 45], src := [some 0]} (by kernel_rfl) (by kernel_rfl) ⟨hb5, trivial⟩ ?_
    refine th_n ?_
    refine W_tell (τ := f_law09_TableApart.s1 a1 a2 a4 a5 a6 y1.1 true a3) {fz := [], gr := 0, ad := [], live := [0, 1, 3, 4, 5, 8, 13, 45], src := [some 0]} (by kernel_rfl) (by kernel_rfl) ?_
    exact f_law09_TableApart.j1_ok hV k a1 a2 a4 a5 a6 y1.1 true a3 H
  · rcases of_ite H with ⟨hb34, H⟩ | ⟨hb34, H⟩
    · refine D_reg (cs := [((!y1.1)) = false, ((!y3.1)) = true]) (τ := ⟨139, [(0, .cv (.one (.sl T814c a1 .any))), (1, .cv (.one (.int .i64 a2))), (3, .cv (.one (.int .i64 a4))), (4, .cv (.one (.int .i64 a5))), (5, .cv (.one (.int .i64 a6))), (8, .cv (.one (.ptr 0 0))), (13, .cv (.one (.bool y1.1))), (45, .cv (.one (.bool true)))], [(.box 6, [.int .i64 a3.1.1, .int .i64 a3.1.2, .int .i64 a3.2.1, .int .i64 a3.2.2.1, .int .i64 a3.2.2.2.1, .int .i64 a3.2.2.2.2])]⟩) hV 0 [(1, {bv := some false}), (5, {bv := some true})] {live := [0, 1, 3, 4, 5, 8, 13, 45], src := [some 0]} (by kernel_rfl) (by kernel_rfl) ⟨hb5, hb34, trivial⟩ ?_
      refine th_n ?_
      refine W_tell (τ := f_law09_TableApart.s1 a1 a2 a4 a5 a6 y1.1 true a3) {fz := [], gr := 0, ad := [], live := [0, 1, 3, 4, 5, 8, 13, 45], src := [some 0]} (by kernel_rfl) (by kernel_rfl) ?_
      exact f_law09_TableApart.j1_ok hV k a1 a2 a4 a5 a6 y1.1 true a3 H
    · refine D_reg (cs := [((!y1.1)) = false, ((!y3.1)) = false]) (τ := ⟨139, [(0, .cv (.one (.sl T814c a1 .any))), (1, .cv (.one (.int .i64 a2))), (3, .cv (.one (.int .i64 a4))), (4, .cv (.one (.int .i64 a5))), (5, .cv (.one (.int .i64 a6))), (8, .cv (.one (.ptr 0 0))), (13, .cv (.one (.bool y1.1))), (45, .cv (.one (.bool (a4 == a2))))], [(.box 6, [.int .i64 a3.1.1, .int .i64 a3.1.2, .int .i64 a3.2.1, .int .i64 a3.2.2.1, .int .i64 a3.2.2.2.1, .int .i64 a3.2.2.2.2])]⟩) hV 0 [(1, {bv := some false}), (5, {bv := some false})] {live := [0, 1, 3, 4, 5, 8, 13, 45], src := [some 0]} (by kernel_rfl) (by kernel_rfl) ⟨hb5, hb34, trivial⟩ ?_
      refine th_n ?_
      refine W_tell (τ := f_law09_TableApart.s1 a1 a2 a4 a5 a6 y1.1 (a4 == a2) a3) {fz := [], gr := 0, ad := [], live := [0, 1, 3, 4, 5, 8, 13, 45], src := [some 0]} (by kernel_rfl) (by kernel_rfl) ?_
      exact f_law09_TableApart.j1_ok hV k a1 a2 a4 a5 a6 y1.1 (a4 == a2) a3 H
theorem f_law09_TableApart.V_ok : EnvOk P f_law09_TableApart.V := { ck := tt_ck, fits := slk_cons f_law09_Few.fits (slk_cons f_law09_awake.fits (slk_cons f_table_Look.fits (slk_cons f_table_Put.fits (slk_cons f_table_Drop.fits (slk_cons f_table_Of.fits (slk_cons f_ref08_Same.fits (slk_nil))))))), mixed := mixed }
theorem f_law09_TableApart.fits : Fits P 10 f_law09_TableApart.S := fits_of f_law09_TableApart.V_ok Go.Proofs.Try.func10 (by kernel_rfl) (by decide) (by decide) rfl (fun x r ⟨k, H⟩ => f_law09_TableApart.f_ok f_law09_TableApart.V_ok k x.1 x.2.1 x.2.2.1 x.2.2.2.1 x.2.2.2.2.1 x.2.2.2.2.2.1 H)
/-! ### f_law09_TableHas: function 11, wayfinder/wayfinderlaw09.TableHas -/
abbrev f_law09_TableHas.ps : Sg := [(false, (.slice T814c)), (false, (.int .i64)), (true, T1383), (false, (.int .i64))]
abbrev f_law09_TableHas.rs : Sg := [(false, .bool)]
noncomputable def f_law09_TableHas.c0 : Code := (Go.Proofs.Try.f11.body).getD .skip
noncomputable def f_law09_TableHas.G : List (Nat × Spec) := [(18, f_law09_Few.S), (21, f_law09_awake.S), (24, f_table_Put.S), (25, f_table_Drop.S), (26, f_ref09_Same.S), (29, f_table_Of.S), (32, f_table_Size.S), (34, f_rule_May.S)]
noncomputable def f_law09_TableHas.V : Env := { tt := tt, Γ := slk f_law09_TableHas.G }
noncomputable abbrev f_law09_TableHas.Q (r : Tup f_law09_TableHas.rs) : Exit → St → Prop := Qr tt Go.Proofs.Try.f11.results ⟨f_law09_TableHas.ps, f_law09_TableHas.rs, .any, none, fun _ _ => True⟩ r
abbrev f_law09_TableHas.R := Tup f_law09_TableHas.rs
noncomputable def f_law09_TableHas.s1 (p1 : List T814c.T) (p2 : Int) (p3 : Int) (p4 : Bool) (p5 : Bool) (p6 : T1383.T) : St := ⟨148, [(0, .cv (.one (.sl T814c p1 .any))), (1, .cv (.one (.int .i64 p2))), (3, .cv (.one (.int .i64 p3))), (6, .cv (.one (.ptr 0 0))), (9, .cv (.one (.bool p4))), (31, .cv (.one (.bool p5)))], [(.box 6, [.int .i64 p6.1.1, .int .i64 p6.1.2, .int .i64 p6.2.1, .int .i64 p6.2.2.1, .int .i64 p6.2.2.2.1, .int .i64 p6.2.2.2.2])]⟩
noncomputable def f_law09_TableHas.s2 (p1 : List T814c.T) (p2 : Int) (p3 : Int) (p4 : Int) (p5 : T1383.T) : St := ⟨148, [(0, .cv (.one (.sl T814c p1 .any))), (1, .cv (.one (.int .i64 p2))), (3, .cv (.one (.int .i64 p3))), (6, .cv (.one (.ptr 0 0))), (11, .cv (.one (.int .i64 p4)))], [(.box 6, [.int .i64 p5.1.1, .int .i64 p5.1.2, .int .i64 p5.2.1, .int .i64 p5.2.2.1, .int .i64 p5.2.2.2.1, .int .i64 p5.2.2.2.2])]⟩
noncomputable def f_law09_TableHas.s3 (p1 : List T814c.T) (p2 : Int) (p3 : Int) (p4 : Int) (p5 : Int) (p6 : T1383.T) : St := ⟨148, [(0, .cv (.one (.sl T814c p1 .any))), (1, .cv (.one (.int .i64 p2))), (3, .cv (.one (.int .i64 p3))), (6, .cv (.one (.ptr 0 0))), (11, .cv (.one (.int .i64 p4))), (12, .cv (.one (.int .i64 p5)))], [(.box 6, [.int .i64 p6.1.1, .int .i64 p6.1.2, .int .i64 p6.2.1, .int .i64 p6.2.2.1, .int .i64 p6.2.2.2.1, .int .i64 p6.2.2.2.2])]⟩
noncomputable def f_law09_TableHas.b3 (L2 : List T814c.T → Int → Int → Int → T1383.T → Option f_law09_TableHas.R) (L3 : List T814c.T → Int → Int → Int → Int → T1383.T → Option f_law09_TableHas.R) (k : Nat) (p1 : List T814c.T) (p2 : Int) (p3 : Int) (p4 : Int) (p5 : Int) (p6 : T1383.T) : Option f_law09_TableHas.R :=
  if (decide (p5 < p4)) = true then
  if 0 ≤ p4 then
    if p4 < (p1.length : Int) then
      if 0 ≤ p5 then
        if p5 < (p1.length : Int) then
          if (((att T814c p1 p4).1) == ((att T814c p1 p5).1)) = true then
            some (true, ())
          else
            L3 p1 p2 p3 p4 (IntKind.i64.wrap (p5 + 1)) p6
        else none
      else none
    else none
  else none
else
  L2 p1 p2 p3 (IntKind.i64.wrap (p4 + 1)) p6
theorem f_law09_TableHas.b3_ok (hV : EnvOk P f_law09_TableHas.V) {r : f_law09_TableHas.R} (L2 : List T814c.T → Int → Int → Int → T1383.T → Option f_law09_TableHas.R) (m2 : Nat) (hL2 : ∀ (p1 : List T814c.T) (p2 : Int) (p3 : Int) (p4 : Int) (p5 : T1383.T), L2 p1 p2 p3 p4 p5 = some r → WL P 0 (Code.l (Code.l (Code.r (Code.l (Code.r (Code.r (Code.r (Code.r f_law09_TableHas.c0)))))))) (blockW 0 (thenW P 0 (Code.r (Code.r (Code.r (Code.r (Code.r f_law09_TableHas.c0))))) (f_law09_TableHas.Q r))) m2 (f_law09_TableHas.s2 p1 p2 p3 p4 p5)) (L3 : List T814c.T → Int → Int → Int → Int → T1383.T → Option f_law09_TableHas.R) (m3 : Nat) (hL3 : ∀ (p1 : List T814c.T) (p2 : Int) (p3 : Int) (p4 : Int) (p5 : Int) (p6 : T1383.T), L3 p1 p2 p3 p4 p5 p6 = some r → WL P 0 (Code.l (Code.l (Code.r (Code.l (Code.l (Code.r (Code.l (Code.l (Code.r (Code.l (Code.r (Code.r (Code.r (Code.r f_law09_TableHas.c0)))))))))))))) (blockW 2 (blockW 1 (thenW P 0 (Code.r (Code.r (Code.l (Code.l (Code.r (Code.l (Code.r (Code.r (Code.r (Code.r f_law09_TableHas.c0)))))))))) (roundW P 0 (Code.l (Code.l (Code.r (Code.l (Code.r (Code.r (Code.r (Code.r f_law09_TableHas.c0)))))))) (blockW 0 (thenW P 0 (Code.r (Code.r (Code.r (Code.r (Code.r f_law09_TableHas.c0))))) (f_law09_TableHas.Q r))) m2)))) m3 (f_law09_TableHas.s3 p1 p2 p3 p4 p5 p6)) (k : Nat) (p1 : List T814c.T) (p2 : Int) (p3 : Int) (p4 : Int) (p5 : Int) (p6 : T1383.T) (H : f_law09_TableHas.b3 L2 L3 k p1 p2 p3 p4 p5 p6 = some r) : W P 0 (Code.l (Code.l (Code.r (Code.l (Code.l (Code.r (Code.l (Code.l (Code.r (Code.l (Code.r (Code.r (Code.r (Code.r f_law09_TableHas.c0)))))))))))))) (f_law09_TableHas.s3 p1 p2 p3 p4 p5 p6) (roundW P 0 (Code.l (Code.l (Code.r (Code.l (Code.l (Code.r (Code.l (Code.l (Code.r (Code.l (Code.r (Code.r (Code.r (Code.r f_law09_TableHas.c0)))))))))))))) (blockW 2 (blockW 1 (thenW P 0 (Code.r (Code.r (Code.l (Code.l (Code.r (Code.l (Code.r (Code.r (Code.r (Code.r f_law09_TableHas.c0)))))))))) (roundW P 0 (Code.l (Code.l (Code.r (Code.l (Code.r (Code.r (Code.r (Code.r f_law09_TableHas.c0)))))))) (blockW 0 (thenW P 0 (Code.r (Code.r (Code.r (Code.r (Code.r f_law09_TableHas.c0))))) (f_law09_TableHas.Q r))) m2)))) m3) := by
  unfold f_law09_TableHas.b3 at H
  refine D_seq (by kernel_rfl) ?_
  refine D_seq (by kernel_rfl) ?_
  refine D_reg (cs := []) (τ := ⟨148, [(0, .cv (.one (.sl T814c p1 .any))), (1, .cv (.one (.int .i64 p2))), (3, .cv (.one (.int .i64 p3))), (6, .cv (.one (.ptr 0 0))), (11, .cv (.one (.int .i64 p4))), (12, .cv (.one (.int .i64 p5))), (41, .cv (.one (.bool (decide (p5 < p4)))))], [(.box 6, [.int .i64 p6.1.1, .int .i64 p6.1.2, .int .i64 p6.2.1, .int .i64 p6.2.2.1, .int .i64 p6.2.2.2.1, .int .i64 p6.2.2.2.2])]⟩) hV 0 [] {live := [0, 1, 3, 6, 11, 12, 41], src := [some 0]} (by kernel_rfl) (by kernel_rfl) trivial ?_
  refine th_n ?_
  refine D_condB (t := 41) (b := (decide (p5 < p4))) (by kernel_rfl) (by kernel_rfl) (fun hb8 => ?_) (fun hb8 => ?_)
  · rw [if_pos hb8] at H
    refine D_skip (by kernel_rfl) ?_
    refine th_n ?_
    refine D_seq (by kernel_rfl) ?_
    refine D_block (id := 3) (by kernel_rfl) ?_
    refine D_seq (by kernel_rfl) ?_
    obtain ⟨n9, H⟩ := of_if H
    obtain ⟨n10, H⟩ := of_if H
    obtain ⟨n11, H⟩ := of_if H
    obtain ⟨n12, H⟩ := of_if H
    refine D_reg (cs := [0 ≤ p4, p4 < (p1.length : Int), 0 ≤ p5, p5 < (p1.length : Int)]) (τ := ⟨148, [(0, .cv (.one (.sl T814c p1 .any))), (1, .cv (.one (.int .i64 p2))), (3, .cv (.one (.int .i64 p3))), (6, .cv (.one (.ptr 0 0))), (11, .cv (.one (.int .i64 p4))), (12, .cv (.one (.int .i64 p5))), (54, .cv (.one (.bool (((att T814c p1 p4).1) == ((att T814c p1 p5).1)))))], [(.box 6, [.int .i64 p6.1.1, .int .i64 p6.1.2, .int .i64 p6.2.1, .int .i64 p6.2.2.1, .int .i64 p6.2.2.2.1, .int .i64 p6.2.2.2.2])]⟩) hV 0 [] {live := [0, 1, 3, 6, 11, 12, 54], src := [some 0]} (by kernel_rfl) (by kernel_rfl) ⟨n9, n10, n11, n12, trivial⟩ ?_
    refine th_n ?_
    refine D_condB (t := 54) (b := (((att T814c p1 p4).1) == ((att T814c p1 p5).1))) (by kernel_rfl) (by kernel_rfl) (fun hb13 => ?_) (fun hb13 => ?_)
    · rw [if_pos hb13] at H
      refine D_seq (by kernel_rfl) ?_
      refine D_reg (cs := []) (τ := ⟨148, [(8, .cv (.one (.bool true)))], []⟩) hV 0 [] {live := [8], src := []} (by kernel_rfl) (by kernel_rfl) trivial ?_
      refine th_n ?_
      refine D_ret (by kernel_rfl) ?_
      refine bl_r ?_
      refine th_r ?_
      refine ro_r ?_
      refine bl_r ?_
      refine bl_r ?_
      refine th_r ?_
      refine ro_r ?_
      refine bl_r ?_
      refine th_r ?_
      exact lf_r (Eq.trans (by kernel_rfl) H)
    · rw [if_neg (by rw [hb13]; decide)] at H
      refine D_skip (by kernel_rfl) ?_
      refine bl_n ?_
      refine th_n ?_
      refine D_reg (cs := []) (τ := ⟨148, [(0, .cv (.one (.sl T814c p1 .any))), (1, .cv (.one (.int .i64 p2))), (3, .cv (.one (.int .i64 p3))), (6, .cv (.one (.ptr 0 0))), (11, .cv (.one (.int .i64 p4))), (12, .cv (.one (.int .i64 (IntKind.i64.wrap (p5 + 1)))))], [(.box 6, [.int .i64 p6.1.1, .int .i64 p6.1.2, .int .i64 p6.2.1, .int .i64 p6.2.2.1, .int .i64 p6.2.2.2.1, .int .i64 p6.2.2.2.2])]⟩) hV 0 [] {live := [0, 1, 3, 6, 11, 12], src := [some 0]} (by kernel_rfl) (by kernel_rfl) trivial ?_
      refine ro_n (WL_tell (τ := f_law09_TableHas.s3 p1 p2 p3 p4 (IntKind.i64.wrap (p5 + 1)) p6) {fz := [], gr := 0, ad := [], live := [0, 1, 3, 6, 11, 12], src := [some 0]} (by kernel_rfl) (by kernel_rfl) ?_)
      exact hL3 p1 p2 p3 p4 (IntKind.i64.wrap (p5 + 1)) p6 H
  · rw [if_neg (by rw [hb8]; decide)] at H
    refine D_exit (id := 2) (by kernel_rfl) ?_
    refine th_x ?_
    refine ro_x ?_
    refine bl_h ?_
    refine bl_n ?_
    refine th_n ?_
    refine D_reg (cs := []) (τ := ⟨148, [(0, .cv (.one (.sl T814c p1 .any))), (1, .cv (.one (.int .i64 p2))), (3, .cv (.one (.int .i64 p3))), (6, .cv (.one (.ptr 0 0))), (11, .cv (.one (.int .i64 (IntKind.i64.wrap (p4 + 1)))))], [(.box 6, [.int .i64 p6.1.1, .int .i64 p6.1.2, .int .i64 p6.2.1, .int .i64 p6.2.2.1, .int .i64 p6.2.2.2.1, .int .i64 p6.2.2.2.2])]⟩) hV 0 [] {live := [0, 1, 3, 6, 11], src := [some 0]} (by kernel_rfl) (by kernel_rfl) trivial ?_
    refine ro_n (WL_tell (τ := f_law09_TableHas.s2 p1 p2 p3 (IntKind.i64.wrap (p4 + 1)) p6) {fz := [], gr := 0, ad := [], live := [0, 1, 3, 6, 11], src := [some 0]} (by kernel_rfl) (by kernel_rfl) ?_)
    exact hL2 p1 p2 p3 (IntKind.i64.wrap (p4 + 1)) p6 H
noncomputable def f_law09_TableHas.l3 (L2 : List T814c.T → Int → Int → Int → T1383.T → Option f_law09_TableHas.R) (k : Nat) : Nat → List T814c.T → Int → Int → Int → Int → T1383.T → Option f_law09_TableHas.R
  | 0, _, _, _, _, _, _ => none
  | m + 1, p1, p2, p3, p4, p5, p6 => f_law09_TableHas.b3 L2 (f_law09_TableHas.l3 L2 k m) k p1 p2 p3 p4 p5 p6
theorem f_law09_TableHas.l3_ok (hV : EnvOk P f_law09_TableHas.V) {r : f_law09_TableHas.R} (L2 : List T814c.T → Int → Int → Int → T1383.T → Option f_law09_TableHas.R) (m2 : Nat) (hL2 : ∀ (p1 : List T814c.T) (p2 : Int) (p3 : Int) (p4 : Int) (p5 : T1383.T), L2 p1 p2 p3 p4 p5 = some r → WL P 0 (Code.l (Code.l (Code.r (Code.l (Code.r (Code.r (Code.r (Code.r f_law09_TableHas.c0)))))))) (blockW 0 (thenW P 0 (Code.r (Code.r (Code.r (Code.r (Code.r f_law09_TableHas.c0))))) (f_law09_TableHas.Q r))) m2 (f_law09_TableHas.s2 p1 p2 p3 p4 p5)) (k : Nat) : ∀ (m3 : Nat) (p1 : List T814c.T) (p2 : Int) (p3 : Int) (p4 : Int) (p5 : Int) (p6 : T1383.T), f_law09_TableHas.l3 L2 k m3 p1 p2 p3 p4 p5 p6 = some r → WL P 0 (Code.l (Code.l (Code.r (Code.l (Code.l (Code.r (Code.l (Code.l (Code.r (Code.l (Code.r (Code.r (Code.r (Code.r f_law09_TableHas.c0)))))))))))))) (blockW 2 (blockW 1 (thenW P 0 (Code.r (Code.r (Code.l (Code.l (Code.r (Code.l (Code.r (Code.r (Code.r (Code.r f_law09_TableHas.c0)))))))))) (roundW P 0 (Code.l (Code.l (Code.r (Code.l (Code.r (Code.r (Code.r (Code.r f_law09_TableHas.c0)))))))) (blockW 0 (thenW P 0 (Code.r (Code.r (Code.r (Code.r (Code.r f_law09_TableHas.c0))))) (f_law09_TableHas.Q r))) m2)))) m3 (f_law09_TableHas.s3 p1 p2 p3 p4 p5 p6)
  | 0, _, _, _, _, _, _, H => by cases H
  | m3 + 1, p1, p2, p3, p4, p5, p6, H => WL_succ (f_law09_TableHas.b3_ok hV L2 m2 hL2 (f_law09_TableHas.l3 L2 k m3) m3 (fun p1 p2 p3 p4 p5 p6 H => f_law09_TableHas.l3_ok hV L2 m2 hL2 k m3 p1 p2 p3 p4 p5 p6 H) k p1 p2 p3 p4 p5 p6 H)
noncomputable def f_law09_TableHas.s4 (p1 : Int) (p2 : List T814c.T) (p3 : Int) (p4 : List T1383.T) (p5 : Bool) (p6 : Bool) (p7 : Int) (p8 : T1383.T) : St := ⟨148, [(3, .cv (.one (.int .i64 p1))), (6, .cv (.one (.ptr 0 0))), (13, .cv (.one (.sl T814c p2 .any))), (17, .cv (.one (.int .i64 p3))), (19, .cv (.one (.sl T1383 p4 .any))), (20, .cv (.one (.bool p5))), (21, .cv (.one (.bool p6))), (22, .cv (.one (.int .i64 p7)))], [(.box 6, [.int .i64 p8.1.1, .int .i64 p8.1.2, .int .i64 p8.2.1, .int .i64 p8.2.2.1, .int .i64 p8.2.2.2.1, .int .i64 p8.2.2.2.2])]⟩
noncomputable def f_law09_TableHas.s5 (p1 : Int) (p2 : List T814c.T) (p3 : Int) (p4 : List T1383.T) (p5 : Bool) (p6 : Bool) (p7 : Int) (p8 : T1383.T) : St := ⟨148, [(3, .cv (.one (.int .i64 p1))), (6, .cv (.one (.ptr 0 0))), (13, .cv (.one (.sl T814c p2 .any))), (17, .cv (.one (.int .i64 p3))), (19, .cv (.one (.sl T1383 p4 .any))), (20, .cv (.one (.bool p5))), (21, .cv (.one (.bool p6))), (22, .cv (.one (.int .i64 p7)))], [(.box 6, [.int .i64 p8.1.1, .int .i64 p8.1.2, .int .i64 p8.2.1, .int .i64 p8.2.2.1, .int .i64 p8.2.2.2.1, .int .i64 p8.2.2.2.2])]⟩
noncomputable def f_law09_TableHas.j5 (L4 : Int → List T814c.T → Int → List T1383.T → Bool → Bool → Int → T1383.T → Option f_law09_TableHas.R) (k : Nat) (p1 : Int) (p2 : List T814c.T) (p3 : Int) (p4 : List T1383.T) (p5 : Bool) (p6 : Bool) (p7 : Int) (p8 : T1383.T) : Option f_law09_TableHas.R :=
  L4 p1 p2 p3 p4 p5 p6 (IntKind.i64.wrap (p7 + 1)) p8
theorem f_law09_TableHas.j5_ok (hV : EnvOk P f_law09_TableHas.V) {r : f_law09_TableHas.R} (L4 : Int → List T814c.T → Int → List T1383.T → Bool → Bool → Int → T1383.T → Option f_law09_TableHas.R) (m4 : Nat) (hL4 : ∀ (p1 : Int) (p2 : List T814c.T) (p3 : Int) (p4 : List T1383.T) (p5 : Bool) (p6 : Bool) (p7 : Int) (p8 : T1383.T), L4 p1 p2 p3 p4 p5 p6 p7 p8 = some r → WL P 0 (Code.l (Code.l (Code.r (Code.l (Code.r (Code.r (Code.r (Code.r (Code.r (Code.r (Code.r (Code.r (Code.r (Code.r (Code.r (Code.r f_law09_TableHas.c0)))))))))))))))) (blockW 4 (thenW P 0 (Code.r (Code.r (Code.r (Code.r (Code.r (Code.r (Code.r (Code.r (Code.r (Code.r (Code.r (Code.r (Code.r f_law09_TableHas.c0))))))))))))) (f_law09_TableHas.Q r))) m4 (f_law09_TableHas.s4 p1 p2 p3 p4 p5 p6 p7 p8)) (k : Nat) (p1 : Int) (p2 : List T814c.T) (p3 : Int) (p4 : List T1383.T) (p5 : Bool) (p6 : Bool) (p7 : Int) (p8 : T1383.T) (H : f_law09_TableHas.j5 L4 k p1 p2 p3 p4 p5 p6 p7 p8 = some r) : W P 0 (Code.r (Code.r (Code.l (Code.l (Code.r (Code.l (Code.r (Code.r (Code.r (Code.r (Code.r (Code.r (Code.r (Code.r (Code.r (Code.r (Code.r (Code.r f_law09_TableHas.c0)))))))))))))))))) (f_law09_TableHas.s5 p1 p2 p3 p4 p5 p6 p7 p8) (roundW P 0 (Code.l (Code.l (Code.r (Code.l (Code.r (Code.r (Code.r (Code.r (Code.r (Code.r (Code.r (Code.r (Code.r (Code.r (Code.r (Code.r f_law09_TableHas.c0)))))))))))))))) (blockW 4 (thenW P 0 (Code.r (Code.r (Code.r (Code.r (Code.r (Code.r (Code.r (Code.r (Code.r (Code.r (Code.r (Code.r (Code.r f_law09_TableHas.c0))))))))))))) (f_law09_TableHas.Q r))) m4) := by
  unfold f_law09_TableHas.j5 at H
  refine D_reg (cs := []) (τ := ⟨148, [(3, .cv (.one (.int .i64 p1))), (6, .cv (.one (.ptr 0 0))), (13, .cv (.one (.sl T814c p2 .any))), (17, .cv (.one (.int .i64 p3))), (19, .cv (.one (.sl T1383 p4 .any))), (20, .cv (.one (.bool p5))), (21, .cv (.one (.bool p6))), (22, .cv (.one (.int .i64 (IntKind.i64.wrap (p7 + 1)))))], [(.box 6, [.int .i64 p8.1.1, .int .i64 p8.1.2, .int .i64 p8.2.1, .int .i64 p8.2.2.1, .int .i64 p8.2.2.2.1, .int .i64 p8.2.2.2.2])]⟩) hV 0 [] {live := [3, 6, 13, 17, 19, 20, 21, 22], src := [some 0]} (by kernel_rfl) (by kernel_rfl) trivial ?_
  refine ro_n (WL_tell (τ := f_law09_TableHas.s4 p1 p2 p3 p4 p5 p6 (IntKind.i64.wrap (p7 + 1)) p8) {fz := [], gr := 0, ad := [], live := [3, 6, 13, 17, 19, 20, 21, 22], src := [some 0]} (by kernel_rfl) (by kernel_rfl) ?_)
  exact hL4 p1 p2 p3 p4 p5 p6 (IntKind.i64.wrap (p7 + 1)) p8 H
noncomputable def f_law09_TableHas.b4 (L4 : Int → List T814c.T → Int → List T1383.T → Bool → Bool → Int → T1383.T → Option f_law09_TableHas.R) (k : Nat) (p1 : Int) (p2 : List T814c.T) (p3 : Int) (p4 : List T1383.T) (p5 : Bool) (p6 : Bool) (p7 : Int) (p8 : T1383.T) : Option f_law09_TableHas.R :=
  if (decide (p7 < (p4.length : Int))) = true then
  if p6 = true then
    f_law09_TableHas.j5 L4 k p1 p2 p3 p4 p5 true p7 p8
  else
    if 0 ≤ p7 then
      if p7 < (p4.length : Int) then
        f_law09_TableHas.j5 L4 k p1 p2 p3 p4 p5 (((((att T1383 p4 p7).1).1) == p8.1.1) && (((((att T1383 p4 p7).1).2) == p8.1.2) && (((((att T1383 p4 p7).2).1) == p8.2.1) && ((((((att T1383 p4 p7).2).2).1) == p8.2.2.1) && (((((((att T1383 p4 p7).2).2).2).1) == p8.2.2.2.1) && (((((((att T1383 p4 p7).2).2).2).2) == p8.2.2.2.2) && true)))))) p7 p8
      else none
    else none
else
  if p5 = true then
    if p6 = true then
      if (p3 == (0 : Int)) = true then
        (f_rule_May.f k p8).bind fun y40 =>
          if y40.1 = true then
            some (true, ())
          else
            some (false, ())
      else
        if (p3 == (1 : Int)) = true then
          (f_rule_May.f k p8).bind fun y40 =>
            if y40.1 = true then
              (f_table_Size.f k p2).bind fun y41 =>
                some ((decide (y41.1 ≤ p1)), ())
            else
              some (false, ())
        else
          some (false, ())
    else
      some (false, ())
  else
    some (false, ())
theorem f_law09_TableHas.b4_ok (hV : EnvOk P f_law09_TableHas.V) {r : f_law09_TableHas.R} (L4 : Int → List T814c.T → Int → List T1383.T → Bool → Bool → Int → T1383.T → Option f_law09_TableHas.R) (m4 : Nat) (hL4 : ∀ (p1 : Int) (p2 : List T814c.T) (p3 : Int) (p4 : List T1383.T) (p5 : Bool) (p6 : Bool) (p7 : Int) (p8 : T1383.T), L4 p1 p2 p3 p4 p5 p6 p7 p8 = some r → WL P 0 (Code.l (Code.l (Code.r (Code.l (Code.r (Code.r (Code.r (Code.r (Code.r (Code.r (Code.r (Code.r (Code.r (Code.r (Code.r (Code.r f_law09_TableHas.c0)))))))))))))))) (blockW 4 (thenW P 0 (Code.r (Code.r (Code.r (Code.r (Code.r (Code.r (Code.r (Code.r (Code.r (Code.r (Code.r (Code.r (Code.r f_law09_TableHas.c0))))))))))))) (f_law09_TableHas.Q r))) m4 (f_law09_TableHas.s4 p1 p2 p3 p4 p5 p6 p7 p8)) (k : Nat) (p1 : Int) (p2 : List T814c.T) (p3 : Int) (p4 : List T1383.T) (p5 : Bool) (p6 : Bool) (p7 : Int) (p8 : T1383.T) (H : f_law09_TableHas.b4 L4 k p1 p2 p3 p4 p5 p6 p7 p8 = some r) : W P 0 (Code.l (Code.l (Code.r (Code.l (Code.r (Code.r (Code.r (Code.r (Code.r (Code.r (Code.r (Code.r (Code.r (Code.r (Code.r (Code.r f_law09_TableHas.c0)))))))))))))))) (f_law09_TableHas.s4 p1 p2 p3 p4 p5 p6 p7 p8) (roundW P 0 (Code.l (Code.l (Code.r (Code.l (Code.r (Code.r (Code.r (Code.r (Code.r (Code.r (Code.r (Code.r (Code.r (Code.r (Code.r (Code.r f_law09_TableHas.c0)))))))))))))))) (blockW 4 (thenW P 0 (Code.r (Code.r (Code.r (Code.r (Code.r (Code.r (Code.r (Code.r (Code.r (Code.r (Code.r (Code.r (Code.r f_law09_TableHas.c0))))))))))))) (f_law09_TableHas.Q r))) m4) := by
  unfold f_law09_TableHas.b4 at H
  refine D_seq (by kernel_rfl) ?_
  refine D_seq (by kernel_rfl) ?_
  refine D_reg (cs := []) (τ := ⟨148, [(3, .cv (.one (.int .i64 p1))), (6, .cv (.one (.ptr 0 0))), (13, .cv (.one (.sl T814c p2 .any))), (17, .cv (.one (.int .i64 p3))), (19, .cv (.one (.sl T1383 p4 .any))), (20, .cv (.one (.bool p5))), (21, .cv (.one (.bool p6))), (22, .cv (.one (.int .i64 p7))), (110, .cv (.one (.bool (decide (p7 < (p4.length : Int))))))], [(.box 6, [.int .i64 p8.1.1, .int .i64 p8.1.2, .int .i64 p8.2.1, .int .i64 p8.2.2.1, .int .i64 p8.2.2.2.1, .int .i64 p8.2.2.2.2])]⟩) hV 0 [] {live := [3, 6, 13, 17, 19, 20, 21, 22, 110], src := [some 0]} (by kernel_rfl) (by kernel_rfl) trivial ?_
  refine th_n ?_
  refine D_condB (t := 110) (b := (decide (p7 < (p4.length : Int)))) (by kernel_rfl) (by kernel_rfl) (fun hb36 => ?_) (fun hb36 => ?_)
  · rw [if_pos hb36] at H
    refine D_skip (by kernel_rfl) ?_
    refine th_n ?_
    refine D_seq (by kernel_rfl) ?_
    refine D_block (id := 5) (by kernel_rfl) ?_
    rcases of_ite H with ⟨hb37, H⟩ | ⟨hb37, H⟩
    · refine D_reg (cs := [(p6) = true]) (τ := ⟨148, [(3, .cv (.one (.int .i64 p1))), (6, .cv (.one (.ptr 0 0))), (13, .cv (.one (.sl T814c p2 .any))), (17, .cv (.one (.int .i64 p3))), (19, .cv (.one (.sl T1383 p4 .any))), (20, .cv (.one (.bool p5))), (21, .cv (.one (.bool true))), (22, .cv (.one (.int .i64 p7)))], [(.box 6, [.int .i64 p8.1.1, .int .i64 p8.1.2, .int .i64 p8.2.1, .int .i64 p8.2.2.1, .int .i64 p8.2.2.2.1, .int .i64 p8.2.2.2.2])]⟩) hV 0 [(0, {bv := some true})] {live := [3, 6, 13, 17, 19, 20, 21, 22], src := [some 0]} (by kernel_rfl) (by kernel_rfl) ⟨hb37, trivial⟩ ?_
      refine bl_n ?_
      refine th_n ?_
      refine W_tell (τ := f_law09_TableHas.s5 p1 p2 p3 p4 p5 true p7 p8) {fz := [], gr := 0, ad := [], live := [3, 6, 13, 17, 19, 20, 21, 22], src := [some 0]} (by kernel_rfl) (by kernel_rfl) ?_
      exact f_law09_TableHas.j5_ok hV L4 m4 hL4 k p1 p2 p3 p4 p5 true p7 p8 H
    · obtain ⟨n38, H⟩ := of_if H
      obtain ⟨n39, H⟩ := of_if H
      refine D_reg (cs := [(p6) = false, 0 ≤ p7, p7 < (p4.length : Int)]) (τ := ⟨148, [(3, .cv (.one (.int .i64 p1))), (6, .cv (.one (.ptr 0 0))), (13, .cv (.one (.sl T814c p2 .any))), (17, .cv (.one (.int .i64 p3))), (19, .cv (.one (.sl T1383 p4 .any))), (20, .cv (.one (.bool p5))), (21, .cv (.one (.bool (((((att T1383 p4 p7).1).1) == p8.1.1) && (((((att T1383 p4 p7).1).2) == p8.1.2) && (((((att T1383 p4 p7).2).1) == p8.2.1) && ((((((att T1383 p4 p7).2).2).1) == p8.2.2.1) && (((((((att T1383 p4 p7).2).2).2).1) == p8.2.2.2.1) && (((((((att T1383 p4 p7).2).2).2).2) == p8.2.2.2.2) && true))))))))), (22, .cv (.one (.int .i64 p7)))], [(.box 6, [.int .i64 p8.1.1, .int .i64 p8.1.2, .int .i64 p8.2.1, .int .i64 p8.2.2.1, .int .i64 p8.2.2.2.1, .int .i64 p8.2.2.2.2])]⟩) hV 0 [(0, {bv := some false})] {live := [3, 6, 13, 17, 19, 20, 21, 22], src := [some 0]} (by kernel_rfl) (by kernel_rfl) ⟨hb37, n38, n39, trivial⟩ ?_
      refine bl_n ?_
      refine th_n ?_
      refine W_tell (τ := f_law09_TableHas.s5 p1 p2 p3 p4 p5 (((((att T1383 p4 p7).1).1) == p8.1.1) && (((((att T1383 p4 p7).1).2) == p8.1.2) && (((((att T1383 p4 p7).2).1) == p8.2.1) && ((((((att T1383 p4 p7).2).2).1) == p8.2.2.1) && (((((((att T1383 p4 p7).2).2).2).1) == p8.2.2.2.1) && (((((((att T1383 p4 p7).2).2).2).2) == p8.2.2.2.2) && true)))))) p7 p8) {fz := [], gr := 0, ad := [], live := [3, 6, 13, 17, 19, 20, 21, 22], src := [some 0]} (by kernel_rfl) (by kernel_rfl) ?_
      exact f_law09_TableHas.j5_ok hV L4 m4 hL4 k p1 p2 p3 p4 p5 (((((att T1383 p4 p7).1).1) == p8.1.1) && (((((att T1383 p4 p7).1).2) == p8.1.2) && (((((att T1383 p4 p7).2).1) == p8.2.1) && ((((((att T1383 p4 p7).2).2).1) == p8.2.2.1) && (((((((att T1383 p4 p7).2).2).2).1) == p8.2.2.2.1) && (((((((att T1383 p4 p7).2).2).2).2) == p8.2.2.2.2) && true)))))) p7 p8 H
  · rw [if_neg (by rw [hb36]; decide)] at H
    refine D_exit (id := 4) (by kernel_rfl) ?_
    refine th_x ?_
    refine ro_x ?_
    refine bl_h ?_
    refine th_n ?_
    refine D_seq (by kernel_rfl) ?_
    rcases of_ite H with ⟨hb42, H⟩ | ⟨hb42, H⟩
    · rcases of_ite H with ⟨hb43, H⟩ | ⟨hb43, H⟩
      · rcases of_ite H with ⟨hb44, H⟩ | ⟨hb44, H⟩
        · obtain ⟨y40, e45, H⟩ := of_bind H
          rcases of_ite H with ⟨hb46, H⟩ | ⟨hb46, H⟩
          · refine D_reg (cs := [(p5) = true, (p6) = true, ((p3 == (0 : Int))) = true, f_rule_May.S.rel (p8, ()) y40, (y40.1) = true, ((p3 == (0 : Int))) = true]) (τ := ⟨148, [(8, .cv (.one (.bool true)))], []⟩) hV 0 [(0, {bv := some true}), (3, {bv := some true}), (6, {bv := some true}), (14, {res := some ⟨f_rule_May.S.rs, y40⟩}), (15, {bv := some true}), (18, {bv := some true})] {live := [8], src := []} (by kernel_rfl) (by kernel_rfl) ⟨hb42, hb43, hb44, ⟨k, e45⟩, hb46, hb44, trivial⟩ ?_
            refine th_n ?_
            refine D_ret (by kernel_rfl) ?_
            exact lf_r (Eq.trans (by kernel_rfl) H)
          · refine D_reg (cs := [(p5) = true, (p6) = true, ((p3 == (0 : Int))) = true, f_rule_May.S.rel (p8, ()) y40, (y40.1) = false]) (τ := ⟨148, [(8, .cv (.one (.bool false)))], []⟩) hV 0 [(0, {bv := some true}), (3, {bv := some true}), (6, {bv := some true}), (14, {res := some ⟨f_rule_May.S.rs, y40⟩}), (15, {bv := some false})] {live := [8], src := []} (by kernel_rfl) (by kernel_rfl) ⟨hb42, hb43, hb44, ⟨k, e45⟩, hb46, trivial⟩ ?_
            refine th_n ?_
            refine D_ret (by kernel_rfl) ?_
            exact lf_r (Eq.trans (by kernel_rfl) H)
        · rcases of_ite H with ⟨hb47, H⟩ | ⟨hb47, H⟩
          · obtain ⟨y40, e48, H⟩ := of_bind H
            rcases of_ite H with ⟨hb49, H⟩ | ⟨hb49, H⟩
            · obtain ⟨y41, e50, H⟩ := of_bind H
              refine D_reg (cs := [(p5) = true, (p6) = true, ((p3 == (0 : Int))) = false, ((p3 == (1 : Int))) = true, f_rule_May.S.rel (p8, ()) y40, (y40.1) = true, ((p3 == (0 : Int))) = false, f_table_Size.S.rel (p2, ()) y41]) (τ := ⟨148, [(8, .cv (.one (.bool (decide (y41.1 ≤ p1)))))], []⟩) hV 0 [(0, {bv := some true}), (3, {bv := some true}), (6, {bv := some false}), (11, {bv := some true}), (14, {res := some ⟨f_rule_May.S.rs, y40⟩}), (15, {bv := some true}), (18, {bv := some false}), (21, {res := some ⟨f_table_Size.S.rs, y41⟩})] {live := [8], src := []} (by kernel_rfl) (by kernel_rfl) ⟨hb42, hb43, hb44, hb47, ⟨k, e48⟩, hb49, hb44, ⟨k, e50⟩, trivial⟩ ?_
              refine th_n ?_
              refine D_ret (by kernel_rfl) ?_
              exact lf_r (Eq.trans (by kernel_rfl) H)
            · refine D_reg (cs := [(p5) = true, (p6) = true, ((p3 == (0 : Int))) = false, ((p3 == (1 : Int))) = true, f_rule_May.S.rel (p8, ()) y40, (y40.1) = false]) (τ := ⟨148, [(8, .cv (.one (.bool false)))], []⟩) hV 0 [(0, {bv := some true}), (3, {bv := some true}), (6, {bv := some false}), (11, {bv := some true}), (14, {res := some ⟨f_rule_May.S.rs, y40⟩}), (15, {bv := some false})] {live := [8], src := []} (by kernel_rfl) (by kernel_rfl) ⟨hb42, hb43, hb44, hb47, ⟨k, e48⟩, hb49, trivial⟩ ?_
              refine th_n ?_
              refine D_ret (by kernel_rfl) ?_
              exact lf_r (Eq.trans (by kernel_rfl) H)
          · refine D_reg (cs := [(p5) = true, (p6) = true, ((p3 == (0 : Int))) = false, ((p3 == (1 : Int))) = false]) (τ := ⟨148, [(8, .cv (.one (.bool false)))], []⟩) hV 0 [(0, {bv := some true}), (3, {bv := some true}), (6, {bv := some false}), (11, {bv := some false})] {live := [8], src := []} (by kernel_rfl) (by kernel_rfl) ⟨hb42, hb43, hb44, hb47, trivial⟩ ?_
            refine th_n ?_
            refine D_ret (by kernel_rfl) ?_
            exact lf_r (Eq.trans (by kernel_rfl) H)
      · refine D_reg (cs := [(p5) = true, (p6) = false]) (τ := ⟨148, [(8, .cv (.one (.bool false)))], []⟩) hV 0 [(0, {bv := some true}), (3, {bv := some false})] {live := [8], src := []} (by kernel_rfl) (by kernel_rfl) ⟨hb42, hb43, trivial⟩ ?_
        refine th_n ?_
        refine D_ret (by kernel_rfl) ?_
        exact lf_r (Eq.trans (by kernel_rfl) H)
    · refine D_reg (cs := [(p5) = false]) (τ := ⟨148, [(8, .cv (.one (.bool false)))], []⟩) hV 0 [(0, {bv := some false})] {live := [8], src := []} (by kernel_rfl) (by kernel_rfl) ⟨hb42, trivial⟩ ?_
      refine th_n ?_
      refine D_ret (by kernel_rfl) ?_
      exact lf_r (Eq.trans (by kernel_rfl) H)
noncomputable def f_law09_TableHas.l4 (k : Nat) : Nat → Int → List T814c.T → Int → List T1383.T → Bool → Bool → Int → T1383.T → Option f_law09_TableHas.R
  | 0, _, _, _, _, _, _, _, _ => none
  | m + 1, p1, p2, p3, p4, p5, p6, p7, p8 => f_law09_TableHas.b4 (f_law09_TableHas.l4 k m) k p1 p2 p3 p4 p5 p6 p7 p8
theorem f_law09_TableHas.l4_ok (hV : EnvOk P f_law09_TableHas.V) {r : f_law09_TableHas.R} (k : Nat) : ∀ (m4 : Nat) (p1 : Int) (p2 : List T814c.T) (p3 : Int) (p4 : List T1383.T) (p5 : Bool) (p6 : Bool) (p7 : Int) (p8 : T1383.T), f_law09_TableHas.l4 k m4 p1 p2 p3 p4 p5 p6 p7 p8 = some r → WL P 0 (Code.l (Code.l (Code.r (Code.l (Code.r (Code.r (Code.r (Code.r (Code.r (Code.r (Code.r (Code.r (Code.r (Code.r (Code.r (Code.r f_law09_TableHas.c0)))))))))))))))) (blockW 4 (thenW P 0 (Code.r (Code.r (Code.r (Code.r (Code.r (Code.r (Code.r (Code.r (Code.r (Code.r (Code.r (Code.r (Code.r f_law09_TableHas.c0))))))))))))) (f_law09_TableHas.Q r))) m4 (f_law09_TableHas.s4 p1 p2 p3 p4 p5 p6 p7 p8)
  | 0, _, _, _, _, _, _, _, _, H => by cases H
  | m4 + 1, p1, p2, p3, p4, p5, p6, p7, p8, H => WL_succ (f_law09_TableHas.b4_ok hV (f_law09_TableHas.l4 k m4) m4 (fun p1 p2 p3 p4 p5 p6 p7 p8 H => f_law09_TableHas.l4_ok hV k m4 p1 p2 p3 p4 p5 p6 p7 p8 H) k p1 p2 p3 p4 p5 p6 p7 p8 H)
noncomputable def f_law09_TableHas.b2 (L2 : List T814c.T → Int → Int → Int → T1383.T → Option f_law09_TableHas.R) (k : Nat) (p1 : List T814c.T) (p2 : Int) (p3 : Int) (p4 : Int) (p5 : T1383.T) : Option f_law09_TableHas.R :=
  if (decide (p4 < (p1.length : Int))) = true then
  f_law09_TableHas.l3 L2 k k p1 p2 p3 p4 0 p5
else
  (f_table_Put.f k p1 p2 p5 p3).bind fun y14 =>
    (f_table_Drop.f k p1 p2).bind fun y16 =>
      (f_table_Of.f k y16.1 p2).bind fun y17 =>
        if y17.2.1 = true then
          some (false, ())
        else
          (f_table_Size.f k y14.1).bind fun y21 =>
            (f_table_Size.f k p1).bind fun y22 =>
              if (y14.2.1 != (0 : Int)) = true then
                (f_ref09_Same.f k y14.1 p1).bind fun y26 =>
                  if y26.1 = true then
                    if ((IntKind.i64.wrap (y21.1 - y22.1)) == (0 : Int)) = true then
                      if (y14.2.1 == (1 : Int)) = true then
                        some (true, ())
                      else
                        if (y14.2.1 == (7 : Int)) = true then
                          (f_table_Size.f k p1).bind fun y28 =>
                            some ((decide (y28.1 ≥ p3)), ())
                        else
                          some (false, ())
                    else
                      some (false, ())
                  else
                    some (false, ())
              else
                (f_table_Of.f k y14.1 p2).bind fun y34 =>
                  f_law09_TableHas.l4 k k p3 y14.1 (IntKind.i64.wrap (y21.1 - y22.1)) y34.1 y34.2.1 false 0 p5
theorem f_law09_TableHas.b2_ok (hV : EnvOk P f_law09_TableHas.V) {r : f_law09_TableHas.R} (L2 : List T814c.T → Int → Int → Int → T1383.T → Option f_law09_TableHas.R) (m2 : Nat) (hL2 : ∀ (p1 : List T814c.T) (p2 : Int) (p3 : Int) (p4 : Int) (p5 : T1383.T), L2 p1 p2 p3 p4 p5 = some r → WL P 0 (Code.l (Code.l (Code.r (Code.l (Code.r (Code.r (Code.r (Code.r f_law09_TableHas.c0)))))))) (blockW 0 (thenW P 0 (Code.r (Code.r (Code.r (Code.r (Code.r f_law09_TableHas.c0))))) (f_law09_TableHas.Q r))) m2 (f_law09_TableHas.s2 p1 p2 p3 p4 p5)) (k : Nat) (p1 : List T814c.T) (p2 : Int) (p3 : Int) (p4 : Int) (p5 : T1383.T) (H : f_law09_TableHas.b2 L2 k p1 p2 p3 p4 p5 = some r) : W P 0 (Code.l (Code.l (Code.r (Code.l (Code.r (Code.r (Code.r (Code.r f_law09_TableHas.c0)))))))) (f_law09_TableHas.s2 p1 p2 p3 p4 p5) (roundW P 0 (Code.l (Code.l (Code.r (Code.l (Code.r (Code.r (Code.r (Code.r f_law09_TableHas.c0)))))))) (blockW 0 (thenW P 0 (Code.r (Code.r (Code.r (Code.r (Code.r f_law09_TableHas.c0))))) (f_law09_TableHas.Q r))) m2) := by
  unfold f_law09_TableHas.b2 at H
  refine D_seq (by kernel_rfl) ?_
  refine D_seq (by kernel_rfl) ?_
  refine D_reg (cs := []) (τ := ⟨148, [(0, .cv (.one (.sl T814c p1 .any))), (1, .cv (.one (.int .i64 p2))), (3, .cv (.one (.int .i64 p3))), (6, .cv (.one (.ptr 0 0))), (11, .cv (.one (.int .i64 p4))), (36, .cv (.one (.bool (decide (p4 < (p1.length : Int))))))], [(.box 6, [.int .i64 p5.1.1, .int .i64 p5.1.2, .int .i64 p5.2.1, .int .i64 p5.2.2.1, .int .i64 p5.2.2.2.1, .int .i64 p5.2.2.2.2])]⟩) hV 0 [] {live := [0, 1, 3, 6, 11, 36], src := [some 0]} (by kernel_rfl) (by kernel_rfl) trivial ?_
  refine th_n ?_
  refine D_condB (t := 36) (b := (decide (p4 < (p1.length : Int)))) (by kernel_rfl) (by kernel_rfl) (fun hb7 => ?_) (fun hb7 => ?_)
  · rw [if_pos hb7] at H
    refine D_skip (by kernel_rfl) ?_
    refine th_n ?_
    refine D_seq (by kernel_rfl) ?_
    refine D_block (id := 1) (by kernel_rfl) ?_
    refine D_seq (by kernel_rfl) ?_
    refine D_reg (cs := []) (τ := ⟨148, [(0, .cv (.one (.sl T814c p1 .any))), (1, .cv (.one (.int .i64 p2))), (3, .cv (.one (.int .i64 p3))), (6, .cv (.one (.ptr 0 0))), (11, .cv (.one (.int .i64 p4))), (12, .cv (.one (.int .i64 0)))], [(.box 6, [.int .i64 p5.1.1, .int .i64 p5.1.2, .int .i64 p5.2.1, .int .i64 p5.2.2.1, .int .i64 p5.2.2.2.1, .int .i64 p5.2.2.2.2])]⟩) hV 0 [] {live := [0, 1, 3, 6, 11, 12], src := [some 0]} (by kernel_rfl) (by kernel_rfl) trivial ?_
    refine th_n ?_
    refine D_block (id := 2) (by kernel_rfl) ?_
    refine W_tell (τ := f_law09_TableHas.s3 p1 p2 p3 p4 0 p5) {fz := [], gr := 0, ad := [], live := [0, 1, 3, 6, 11, 12], src := [some 0]} (by kernel_rfl) (by kernel_rfl) ?_
    exact D_loop (by kernel_rfl) k (f_law09_TableHas.l3_ok hV L2 m2 hL2 k k p1 p2 p3 p4 0 p5 H)
  · rw [if_neg (by rw [hb7]; decide)] at H
    refine D_exit (id := 0) (by kernel_rfl) ?_
    refine th_x ?_
    refine ro_x ?_
    refine bl_h ?_
    refine th_n ?_
    refine D_seq (by kernel_rfl) ?_
    obtain ⟨y14, e15, H⟩ := of_bind H
    refine D_reg (cs := [f_table_Put.S.rel (p1, p2, p5, p3, ()) y14]) (τ := ⟨148, [(0, .cv (.one (.sl T814c p1 .any))), (1, .cv (.one (.int .i64 p2))), (3, .cv (.one (.int .i64 p3))), (6, .cv (.one (.ptr 0 0))), (13, .cv (.one (.sl T814c y14.1 .any))), (14, .cv (.one (.int .i64 y14.2.1)))], [(.box 6, [.int .i64 p5.1.1, .int .i64 p5.1.2, .int .i64 p5.2.1, .int .i64 p5.2.2.1, .int .i64 p5.2.2.2.1, .int .i64 p5.2.2.2.2])]⟩) hV 0 [(4, {res := some ⟨f_table_Put.S.rs, y14⟩})] {live := [0, 1, 3, 6, 13, 14], src := [some 0]} (by kernel_rfl) (by kernel_rfl) ⟨⟨k, e15⟩, trivial⟩ ?_
    refine th_n ?_
    refine D_seq (by kernel_rfl) ?_
    obtain ⟨y16, e18, H⟩ := of_bind H
    obtain ⟨y17, e19, H⟩ := of_bind H
    refine D_reg (cs := [f_table_Drop.S.rel (p1, p2, ()) y16, f_table_Of.S.rel (y16.1, p2, ()) y17]) (τ := ⟨148, [(0, .cv (.one (.sl T814c p1 .any))), (1, .cv (.one (.int .i64 p2))), (3, .cv (.one (.int .i64 p3))), (6, .cv (.one (.ptr 0 0))), (13, .cv (.one (.sl T814c y14.1 .any))), (14, .cv (.one (.int .i64 y14.2.1))), (16, .cv (.one (.bool y17.2.1)))], [(.box 6, [.int .i64 p5.1.1, .int .i64 p5.1.2, .int .i64 p5.2.1, .int .i64 p5.2.2.1, .int .i64 p5.2.2.2.1, .int .i64 p5.2.2.2.2])]⟩) hV 0 [(2, {res := some ⟨f_table_Drop.S.rs, y16⟩}), (4, {res := some ⟨f_table_Of.S.rs, y17⟩})] {live := [0, 1, 3, 6, 13, 14, 16], src := [some 0]} (by kernel_rfl) (by kernel_rfl) ⟨⟨k, e18⟩, ⟨k, e19⟩, trivial⟩ ?_
    refine th_n ?_
    refine D_seq (by kernel_rfl) ?_
    refine D_seq (by kernel_rfl) ?_
    refine D_reg (cs := []) (τ := ⟨148, [(0, .cv (.one (.sl T814c p1 .any))), (1, .cv (.one (.int .i64 p2))), (3, .cv (.one (.int .i64 p3))), (6, .cv (.one (.ptr 0 0))), (13, .cv (.one (.sl T814c y14.1 .any))), (14, .cv (.one (.int .i64 y14.2.1))), (71, .cv (.one (.bool y17.2.1)))], [(.box 6, [.int .i64 p5.1.1, .int .i64 p5.1.2, .int .i64 p5.2.1, .int .i64 p5.2.2.1, .int .i64 p5.2.2.2.1, .int .i64 p5.2.2.2.2])]⟩) hV 0 [] {live := [0, 1, 3, 6, 13, 14, 71], src := [some 0]} (by kernel_rfl) (by kernel_rfl) trivial ?_
    refine th_n ?_
    refine D_condB (t := 71) (b := y17.2.1) (by kernel_rfl) (by kernel_rfl) (fun hb20 => ?_) (fun hb20 => ?_)
    · rw [if_pos hb20] at H
      refine D_seq (by kernel_rfl) ?_
      refine D_reg (cs := []) (τ := ⟨148, [(8, .cv (.one (.bool false)))], []⟩) hV 0 [] {live := [8], src := []} (by kernel_rfl) (by kernel_rfl) trivial ?_
      refine th_n ?_
      refine D_ret (by kernel_rfl) ?_
      refine th_r ?_
      exact lf_r (Eq.trans (by kernel_rfl) H)
    · rw [if_neg (by rw [hb20]; decide)] at H
      refine D_skip (by kernel_rfl) ?_
      refine th_n ?_
      refine D_seq (by kernel_rfl) ?_
      obtain ⟨y21, e23, H⟩ := of_bind H
      obtain ⟨y22, e24, H⟩ := of_bind H
      refine D_reg (cs := [f_table_Size.S.rel (y14.1, ()) y21, f_table_Size.S.rel (p1, ()) y22]) (τ := ⟨148, [(0, .cv (.one (.sl T814c p1 .any))), (1, .cv (.one (.int .i64 p2))), (3, .cv (.one (.int .i64 p3))), (6, .cv (.one (.ptr 0 0))), (13, .cv (.one (.sl T814c y14.1 .any))), (14, .cv (.one (.int .i64 y14.2.1))), (17, .cv (.one (.int .i64 (IntKind.i64.wrap (y21.1 - y22.1)))))], [(.box 6, [.int .i64 p5.1.1, .int .i64 p5.1.2, .int .i64 p5.2.1, .int .i64 p5.2.2.1, .int .i64 p5.2.2.2.1, .int .i64 p5.2.2.2.2])]⟩) hV 0 [(1, {res := some ⟨f_table_Size.S.rs, y21⟩}), (3, {res := some ⟨f_table_Size.S.rs, y22⟩})] {live := [0, 1, 3, 6, 13, 14, 17], src := [some 0]} (by kernel_rfl) (by kernel_rfl) ⟨⟨k, e23⟩, ⟨k, e24⟩, trivial⟩ ?_
      refine th_n ?_
      refine D_seq (by kernel_rfl) ?_
      refine D_seq (by kernel_rfl) ?_
      refine D_reg (cs := []) (τ := ⟨148, [(0, .cv (.one (.sl T814c p1 .any))), (1, .cv (.one (.int .i64 p2))), (3, .cv (.one (.int .i64 p3))), (6, .cv (.one (.ptr 0 0))), (13, .cv (.one (.sl T814c y14.1 .any))), (14, .cv (.one (.int .i64 y14.2.1))), (17, .cv (.one (.int .i64 (IntKind.i64.wrap (y21.1 - y22.1))))), (78, .cv (.one (.bool (y14.2.1 != (0 : Int)))))], [(.box 6, [.int .i64 p5.1.1, .int .i64 p5.1.2, .int .i64 p5.2.1, .int .i64 p5.2.2.1, .int .i64 p5.2.2.2.1, .int .i64 p5.2.2.2.2])]⟩) hV 0 [] {live := [0, 1, 3, 6, 13, 14, 17, 78], src := [some 0]} (by kernel_rfl) (by kernel_rfl) trivial ?_
      refine th_n ?_
      refine D_condB (t := 78) (b := (y14.2.1 != (0 : Int))) (by kernel_rfl) (by kernel_rfl) (fun hb25 => ?_) (fun hb25 => ?_)
      · rw [if_pos hb25] at H
        refine D_seq (by kernel_rfl) ?_
        obtain ⟨y26, e27, H⟩ := of_bind H
        refine D_reg (cs := [f_ref09_Same.S.rel (y14.1, p1, ()) y26]) (τ := ⟨148, [(0, .cv (.one (.sl T814c p1 .any))), (3, .cv (.one (.int .i64 p3))), (14, .cv (.one (.int .i64 y14.2.1))), (17, .cv (.one (.int .i64 (IntKind.i64.wrap (y21.1 - y22.1))))), (18, .cv (.one (.bool y26.1)))], []⟩) hV 0 [(2, {res := some ⟨f_ref09_Same.S.rs, y26⟩})] {live := [0, 3, 14, 17, 18], src := []} (by kernel_rfl) (by kernel_rfl) ⟨⟨k, e27⟩, trivial⟩ ?_
        refine th_n ?_
        refine D_seq (by kernel_rfl) ?_
        rcases of_ite H with ⟨hb29, H⟩ | ⟨hb29, H⟩
        · rcases of_ite H with ⟨hb30, H⟩ | ⟨hb30, H⟩
          · rcases of_ite H with ⟨hb31, H⟩ | ⟨hb31, H⟩
            · refine D_reg (cs := [(y26.1) = true, (((IntKind.i64.wrap (y21.1 - y22.1)) == (0 : Int))) = true, ((y14.2.1 == (1 : Int))) = true]) (τ := ⟨148, [(8, .cv (.one (.bool true)))], []⟩) hV 0 [(0, {bv := some true}), (4, {bv := some true}), (7, {bv := some true})] {live := [8], src := []} (by kernel_rfl) (by kernel_rfl) ⟨hb29, hb30, hb31, trivial⟩ ?_
              refine th_n ?_
              refine D_ret (by kernel_rfl) ?_
              refine th_r ?_
              exact lf_r (Eq.trans (by kernel_rfl) H)
            · rcases of_ite H with ⟨hb32, H⟩ | ⟨hb32, H⟩
              · obtain ⟨y28, e33, H⟩ := of_bind H
                refine D_reg (cs := [(y26.1) = true, (((IntKind.i64.wrap (y21.1 - y22.1)) == (0 : Int))) = true, ((y14.2.1 == (1 : Int))) = false, ((y14.2.1 == (7 : Int))) = true, f_table_Size.S.rel (p1, ()) y28]) (τ := ⟨148, [(8, .cv (.one (.bool (decide (y28.1 ≥ p3)))))], []⟩) hV 0 [(0, {bv := some true}), (4, {bv := some true}), (7, {bv := some false}), (10, {bv := some true}), (13, {res := some ⟨f_table_Size.S.rs, y28⟩})] {live := [8], src := []} (by kernel_rfl) (by kernel_rfl) ⟨hb29, hb30, hb31, hb32, ⟨k, e33⟩, trivial⟩ ?_
                refine th_n ?_
                refine D_ret (by kernel_rfl) ?_
                refine th_r ?_
                exact lf_r (Eq.trans (by kernel_rfl) H)
              · refine D_reg (cs := [(y26.1) = true, (((IntKind.i64.wrap (y21.1 - y22.1)) == (0 : Int))) = true, ((y14.2.1 == (1 : Int))) = false, ((y14.2.1 == (7 : Int))) = false]) (τ := ⟨148, [(8, .cv (.one (.bool false)))], []⟩) hV 0 [(0, {bv := some true}), (4, {bv := some true}), (7, {bv := some false}), (10, {bv := some false})] {live := [8], src := []} (by kernel_rfl) (by kernel_rfl) ⟨hb29, hb30, hb31, hb32, trivial⟩ ?_
                refine th_n ?_
                refine D_ret (by kernel_rfl) ?_
                refine th_r ?_
                exact lf_r (Eq.trans (by kernel_rfl) H)
          · refine D_reg (cs := [(y26.1) = true, (((IntKind.i64.wrap (y21.1 - y22.1)) == (0 : Int))) = false]) (τ := ⟨148, [(8, .cv (.one (.bool false)))], []⟩) hV 0 [(0, {bv := some true}), (4, {bv := some false})] {live := [8], src := []} (by kernel_rfl) (by kernel_rfl) ⟨hb29, hb30, trivial⟩ ?_
            refine th_n ?_
            refine D_ret (by kernel_rfl) ?_
            refine th_r ?_
            exact lf_r (Eq.trans (by kernel_rfl) H)
        · refine D_reg (cs := [(y26.1) = false]) (τ := ⟨148, [(8, .cv (.one (.bool false)))], []⟩) hV 0 [(0, {bv := some false})] {live := [8], src := []} (by kernel_rfl) (by kernel_rfl) ⟨hb29, trivial⟩ ?_
          refine th_n ?_
          refine D_ret (by kernel_rfl) ?_
          refine th_r ?_
          exact lf_r (Eq.trans (by kernel_rfl) H)
      · rw [if_neg (by rw [hb25]; decide)] at H
        refine D_skip (by kernel_rfl) ?_
        refine th_n ?_
        refine D_seq (by kernel_rfl) ?_
        obtain ⟨y34, e35, H⟩ := of_bind H
        refine D_reg (cs := [f_table_Of.S.rel (y14.1, p2, ()) y34]) (τ := ⟨148, [(3, .cv (.one (.int .i64 p3))), (6, .cv (.one (.ptr 0 0))), (13, .cv (.one (.sl T814c y14.1 .any))), (17, .cv (.one (.int .i64 (IntKind.i64.wrap (y21.1 - y22.1))))), (19, .cv (.one (.sl T1383 y34.1 .any))), (20, .cv (.one (.bool y34.2.1)))], [(.box 6, [.int .i64 p5.1.1, .int .i64 p5.1.2, .int .i64 p5.2.1, .int .i64 p5.2.2.1, .int .i64 p5.2.2.2.1, .int .i64 p5.2.2.2.2])]⟩) hV 0 [(2, {res := some ⟨f_table_Of.S.rs, y34⟩})] {live := [3, 6, 13, 17, 19, 20], src := [some 0]} (by kernel_rfl) (by kernel_rfl) ⟨⟨k, e35⟩, trivial⟩ ?_
        refine th_n ?_
        refine D_seq (by kernel_rfl) ?_
        refine D_reg (cs := []) (τ := ⟨148, [(3, .cv (.one (.int .i64 p3))), (6, .cv (.one (.ptr 0 0))), (13, .cv (.one (.sl T814c y14.1 .any))), (17, .cv (.one (.int .i64 (IntKind.i64.wrap (y21.1 - y22.1))))), (19, .cv (.one (.sl T1383 y34.1 .any))), (20, .cv (.one (.bool y34.2.1))), (21, .cv (.one (.bool false)))], [(.box 6, [.int .i64 p5.1.1, .int .i64 p5.1.2, .int .i64 p5.2.1, .int .i64 p5.2.2.1, .int .i64 p5.2.2.2.1, .int .i64 p5.2.2.2.2])]⟩) hV 0 [] {live := [3, 6, 13, 17, 19, 20, 21], src := [some 0]} (by kernel_rfl) (by kernel_rfl) trivial ?_
        refine th_n ?_
        refine D_seq (by kernel_rfl) ?_
        refine D_seq (by kernel_rfl) ?_
        refine D_reg (cs := []) (τ := ⟨148, [(3, .cv (.one (.int .i64 p3))), (6, .cv (.one (.ptr 0 0))), (13, .cv (.one (.sl T814c y14.1 .any))), (17, .cv (.one (.int .i64 (IntKind.i64.wrap (y21.1 - y22.1))))), (19, .cv (.one (.sl T1383 y34.1 .any))), (20, .cv (.one (.bool y34.2.1))), (21, .cv (.one (.bool false))), (22, .cv (.one (.int .i64 0)))], [(.box 6, [.int .i64 p5.1.1, .int .i64 p5.1.2, .int .i64 p5.2.1, .int .i64 p5.2.2.1, .int .i64 p5.2.2.2.1, .int .i64 p5.2.2.2.2])]⟩) hV 0 [] {live := [3, 6, 13, 17, 19, 20, 21, 22], src := [some 0]} (by kernel_rfl) (by kernel_rfl) trivial ?_
        refine th_n ?_
        refine D_block (id := 4) (by kernel_rfl) ?_
        refine W_tell (τ := f_law09_TableHas.s4 p3 y14.1 (IntKind.i64.wrap (y21.1 - y22.1)) y34.1 y34.2.1 false 0 p5) {fz := [], gr := 0, ad := [], live := [3, 6, 13, 17, 19, 20, 21, 22], src := [some 0]} (by kernel_rfl) (by kernel_rfl) ?_
        exact D_loop (by kernel_rfl) k (f_law09_TableHas.l4_ok hV k k p3 y14.1 (IntKind.i64.wrap (y21.1 - y22.1)) y34.1 y34.2.1 false 0 p5 H)
noncomputable def f_law09_TableHas.l2 (k : Nat) : Nat → List T814c.T → Int → Int → Int → T1383.T → Option f_law09_TableHas.R
  | 0, _, _, _, _, _ => none
  | m + 1, p1, p2, p3, p4, p5 => f_law09_TableHas.b2 (f_law09_TableHas.l2 k m) k p1 p2 p3 p4 p5
theorem f_law09_TableHas.l2_ok (hV : EnvOk P f_law09_TableHas.V) {r : f_law09_TableHas.R} (k : Nat) : ∀ (m2 : Nat) (p1 : List T814c.T) (p2 : Int) (p3 : Int) (p4 : Int) (p5 : T1383.T), f_law09_TableHas.l2 k m2 p1 p2 p3 p4 p5 = some r → WL P 0 (Code.l (Code.l (Code.r (Code.l (Code.r (Code.r (Code.r (Code.r f_law09_TableHas.c0)))))))) (blockW 0 (thenW P 0 (Code.r (Code.r (Code.r (Code.r (Code.r f_law09_TableHas.c0))))) (f_law09_TableHas.Q r))) m2 (f_law09_TableHas.s2 p1 p2 p3 p4 p5)
  | 0, _, _, _, _, _, H => by cases H
  | m2 + 1, p1, p2, p3, p4, p5, H => WL_succ (f_law09_TableHas.b2_ok hV (f_law09_TableHas.l2 k m2) m2 (fun p1 p2 p3 p4 p5 H => f_law09_TableHas.l2_ok hV k m2 p1 p2 p3 p4 p5 H) k p1 p2 p3 p4 p5 H)
noncomputable def f_law09_TableHas.j1 (k : Nat) (p1 : List T814c.T) (p2 : Int) (p3 : Int) (p4 : Bool) (p5 : Bool) (p6 : T1383.T) : Option f_law09_TableHas.R :=
  if p5 = true then
  some (p4, ())
else
  f_law09_TableHas.l2 k k p1 p2 p3 0 p6
theorem f_law09_TableHas.j1_ok (hV : EnvOk P f_law09_TableHas.V) {r : f_law09_TableHas.R} (k : Nat) (p1 : List T814c.T) (p2 : Int) (p3 : Int) (p4 : Bool) (p5 : Bool) (p6 : T1383.T) (H : f_law09_TableHas.j1 k p1 p2 p3 p4 p5 p6 = some r) : W P 0 (Code.r (Code.l (Code.r (Code.r (Code.r f_law09_TableHas.c0))))) (f_law09_TableHas.s1 p1 p2 p3 p4 p5 p6) (thenW P 0 (Code.r (Code.r (Code.r (Code.r f_law09_TableHas.c0)))) (f_law09_TableHas.Q r)) := by
  unfold f_law09_TableHas.j1 at H
  refine D_condB (t := 31) (b := p5) (by kernel_rfl) (by kernel_rfl) (fun hb6 => ?_) (fun hb6 => ?_)
  · rw [if_pos hb6] at H
    refine D_seq (by kernel_rfl) ?_
    refine D_reg (cs := []) (τ := ⟨148, [(8, .cv (.one (.bool p4)))], []⟩) hV 0 [] {live := [8], src := []} (by kernel_rfl) (by kernel_rfl) trivial ?_
    refine th_n ?_
    refine D_ret (by kernel_rfl) ?_
    refine th_r ?_
    exact lf_r (Eq.trans (by kernel_rfl) H)
  · rw [if_neg (by rw [hb6]; decide)] at H
    refine D_skip (by kernel_rfl) ?_
    refine th_n ?_
    refine D_seq (by kernel_rfl) ?_
    refine D_seq (by kernel_rfl) ?_
    refine D_reg (cs := []) (τ := ⟨148, [(0, .cv (.one (.sl T814c p1 .any))), (1, .cv (.one (.int .i64 p2))), (3, .cv (.one (.int .i64 p3))), (6, .cv (.one (.ptr 0 0))), (11, .cv (.one (.int .i64 0)))], [(.box 6, [.int .i64 p6.1.1, .int .i64 p6.1.2, .int .i64 p6.2.1, .int .i64 p6.2.2.1, .int .i64 p6.2.2.2.1, .int .i64 p6.2.2.2.2])]⟩) hV 0 [] {live := [0, 1, 3, 6, 11], src := [some 0]} (by kernel_rfl) (by kernel_rfl) trivial ?_
    refine th_n ?_
    refine D_block (id := 0) (by kernel_rfl) ?_
    refine W_tell (τ := f_law09_TableHas.s2 p1 p2 p3 0 p6) {fz := [], gr := 0, ad := [], live := [0, 1, 3, 6, 11], src := [some 0]} (by kernel_rfl) (by kernel_rfl) ?_
    exact D_loop (by kernel_rfl) k (f_law09_TableHas.l2_ok hV k k p1 p2 p3 0 p6 H)
noncomputable def f_law09_TableHas.f (k : Nat) (a1 : List T814c.T) (a2 : Int) (a3 : T1383.T) (a4 : Int) : Option f_law09_TableHas.R :=
  (f_law09_awake.f k).bind fun y1 =>
    (f_law09_Few.f k a1).bind fun y3 =>
      if (!y1.1) = true then
        f_law09_TableHas.j1 k a1 a2 a4 y1.1 true a3
      else
        f_law09_TableHas.j1 k a1 a2 a4 y1.1 (!y3.1) a3
noncomputable def f_law09_TableHas.S : Spec := ⟨f_law09_TableHas.ps, f_law09_TableHas.rs, .any, none, fun x r => ∃ k, f_law09_TableHas.f k x.1 x.2.1 x.2.2.1 x.2.2.2.1 = some r⟩
theorem f_law09_TableHas.f_ok (hV : EnvOk P f_law09_TableHas.V) {r : f_law09_TableHas.R} (k : Nat) (a1 : List T814c.T) (a2 : Int) (a3 : T1383.T) (a4 : Int) (H : f_law09_TableHas.f k a1 a2 a3 a4 = some r) : W P 0 f_law09_TableHas.c0 (⟨148, [(0, .cv (.one (.sl T814c a1 .any))), (1, .cv (.one (.int .i64 a2))), (2, .cv (.agg [.int .i64 a3.1.1, .int .i64 a3.1.2, .int .i64 a3.2.1, .int .i64 a3.2.2.1, .int .i64 a3.2.2.2.1, .int .i64 a3.2.2.2.2])), (3, .cv (.one (.int .i64 a4)))], []⟩) (f_law09_TableHas.Q r) := by
  unfold f_law09_TableHas.f at H
  refine D_seq (by kernel_rfl) ?_
  refine D_reg (cs := []) (τ := ⟨148, [(0, .cv (.one (.sl T814c a1 .any))), (1, .cv (.one (.int .i64 a2))), (3, .cv (.one (.int .i64 a4))), (6, .cv (.one (.ptr 0 0)))], [(.box 6, [.int .i64 a3.1.1, .int .i64 a3.1.2, .int .i64 a3.2.1, .int .i64 a3.2.2.1, .int .i64 a3.2.2.2.1, .int .i64 a3.2.2.2.2])]⟩) hV 1 [(0, {sb := 0})] {live := [0, 1, 3, 6], src := [some 0]} (by kernel_rfl) (by kernel_rfl) trivial ?_
  refine th_n ?_
  refine D_seq (by kernel_rfl) ?_
  obtain ⟨y1, e2, H⟩ := of_bind H
  refine D_reg (cs := [f_law09_awake.S.rel (()) y1]) (τ := ⟨148, [(0, .cv (.one (.sl T814c a1 .any))), (1, .cv (.one (.int .i64 a2))), (3, .cv (.one (.int .i64 a4))), (6, .cv (.one (.ptr 0 0))), (9, .cv (.one (.bool y1.1)))], [(.box 6, [.int .i64 a3.1.1, .int .i64 a3.1.2, .int .i64 a3.2.1, .int .i64 a3.2.2.1, .int .i64 a3.2.2.2.1, .int .i64 a3.2.2.2.2])]⟩) hV 0 [(0, {res := some ⟨f_law09_awake.S.rs, y1⟩})] {live := [0, 1, 3, 6, 9], src := [some 0]} (by kernel_rfl) (by kernel_rfl) ⟨⟨k, e2⟩, trivial⟩ ?_
  refine th_n ?_
  refine D_seq (by kernel_rfl) ?_
  obtain ⟨y3, e4, H⟩ := of_bind H
  refine D_reg (cs := [f_law09_Few.S.rel (a1, ()) y3]) (τ := ⟨148, [(0, .cv (.one (.sl T814c a1 .any))), (1, .cv (.one (.int .i64 a2))), (3, .cv (.one (.int .i64 a4))), (6, .cv (.one (.ptr 0 0))), (9, .cv (.one (.bool y1.1))), (10, .cv (.one (.bool y3.1)))], [(.box 6, [.int .i64 a3.1.1, .int .i64 a3.1.2, .int .i64 a3.2.1, .int .i64 a3.2.2.1, .int .i64 a3.2.2.2.1, .int .i64 a3.2.2.2.2])]⟩) hV 0 [(1, {res := some ⟨f_law09_Few.S.rs, y3⟩})] {live := [0, 1, 3, 6, 9, 10], src := [some 0]} (by kernel_rfl) (by kernel_rfl) ⟨⟨k, e4⟩, trivial⟩ ?_
  refine th_n ?_
  refine D_seq (by kernel_rfl) ?_
  refine D_seq (by kernel_rfl) ?_
  rcases of_ite H with ⟨hb5, H⟩ | ⟨hb5, H⟩
  · refine D_reg (cs := [((!y1.1)) = true]) (τ := ⟨148, [(0, .cv (.one (.sl T814c a1 .any))), (1, .cv (.one (.int .i64 a2))), (3, .cv (.one (.int .i64 a4))), (6, .cv (.one (.ptr 0 0))), (9, .cv (.one (.bool y1.1))), (31, .cv (.one (.bool true)))], [(.box 6, [.int .i64 a3.1.1, .int .i64 a3.1.2, .int .i64 a3.2.1, .int .i64 a3.2.2.1, .int .i64 a3.2.2.2.1, .int .i64 a3.2.2.2.2])]⟩) hV 0 [(1, {bv := some true})] {live := [0, 1, 3, 6, 9, 31], src := [some 0]} (by kernel_rfl) (by kernel_rfl) ⟨hb5, trivial⟩ ?_
    refine th_n ?_
    refine W_tell (τ := f_law09_TableHas.s1 a1 a2 a4 y1.1 true a3) {fz := [], gr := 0, ad := [], live := [0, 1, 3, 6, 9, 31], src := [some 0]} (by kernel_rfl) (by kernel_rfl) ?_
    exact f_law09_TableHas.j1_ok hV k a1 a2 a4 y1.1 true a3 H
  · refine D_reg (cs := [((!y1.1)) = false]) (τ := ⟨148, [(0, .cv (.one (.sl T814c a1 .any))), (1, .cv (.one (.int .i64 a2))), (3, .cv (.one (.int .i64 a4))), (6, .cv (.one (.ptr 0 0))), (9, .cv (.one (.bool y1.1))), (31, .cv (.one (.bool (!y3.1))))], [(.box 6, [.int .i64 a3.1.1, .int .i64 a3.1.2, .int .i64 a3.2.1, .int .i64 a3.2.2.1, .int .i64 a3.2.2.2.1, .int .i64 a3.2.2.2.2])]⟩) hV 0 [(1, {bv := some false})] {live := [0, 1, 3, 6, 9, 31], src := [some 0]} (by kernel_rfl) (by kernel_rfl) ⟨hb5, trivial⟩ ?_
    refine th_n ?_
    refine W_tell (τ := f_law09_TableHas.s1 a1 a2 a4 y1.1 (!y3.1) a3) {fz := [], gr := 0, ad := [], live := [0, 1, 3, 6, 9, 31], src := [some 0]} (by kernel_rfl) (by kernel_rfl) ?_
    exact f_law09_TableHas.j1_ok hV k a1 a2 a4 y1.1 (!y3.1) a3 H
theorem f_law09_TableHas.V_ok : EnvOk P f_law09_TableHas.V := { ck := tt_ck, fits := slk_cons f_law09_Few.fits (slk_cons f_law09_awake.fits (slk_cons f_table_Put.fits (slk_cons f_table_Drop.fits (slk_cons f_ref09_Same.fits (slk_cons f_table_Of.fits (slk_cons f_table_Size.fits (slk_cons f_rule_May.fits (slk_nil)))))))), mixed := mixed }
theorem f_law09_TableHas.fits : Fits P 11 f_law09_TableHas.S := fits_of f_law09_TableHas.V_ok Go.Proofs.Try.func11 (by kernel_rfl) (by decide) (by decide) rfl (fun x r ⟨k, H⟩ => f_law09_TableHas.f_ok f_law09_TableHas.V_ok k x.1 x.2.1 x.2.2.1 x.2.2.2.1 H)
end Go.Proofs.Ytkobhleoebgbhaa.V
