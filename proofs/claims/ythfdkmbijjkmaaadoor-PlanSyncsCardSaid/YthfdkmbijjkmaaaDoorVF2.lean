/- Functions of the program, as Lean functions, and that the code answers so. Printed by vgen.py. -/
import Derived.Test.YthfdkmbijjkmaaaDoorVF1
namespace Go.Proofs.YthfdkmbijjkmaaaDoor.V
open Go Go.RowKit
set_option linter.unusedVariables false
set_option linter.unusedSimpArgs false
set_option maxRecDepth 100000
set_option maxHeartbeats 4000000
/-! ### function 46, wayfinder/table.Put$1, where it is called -/
namespace i_table_Put_1_a6e
noncomputable def c0 : Code := (Go.Proofs.Tryd.f46.body).getD .skip
noncomputable def V : Env := { tt := tt, Γ := slk [(23, f_rule_Alike.S)] }
theorem V_ok : EnvOk P V := { ck := tt_ck, fits := slk_cons f_rule_Alike.fits (slk_nil), mixed := mixed }
abbrev R := (Bool) × Unit
noncomputable def s0 (p1 : T1383.T) (p2 : List (Int × List T1383.T)) (p3 : Nat) (p4 : Int) (p5 : T1383.T) (p6 : List T1383.T) : St := ⟨7, [(0, .cv (.agg (encC .any T1383 p1))), (1, .cv (.one (.ptr 2 0)))], [(.lnk 61 (.int .i64) T1383 p2 3 p3, []), (.box 1, [.int .i64 p4]), (.box 6, (encC .any T1383 p5)), (.buf 30 T1383 p6, [])]⟩
noncomputable def out (p1 : T1383.T) (p2 : List (Int × List T1383.T)) (p3 : Nat) (p4 : Int) (p5 : T1383.T) (p6 : List T1383.T) (r : R) : St := ⟨7, [(3, .cv (.one (.bool r.1)))], [(.lnk 61 (.int .i64) T1383 p2 3 p3, []), (.box 1, [.int .i64 p4]), (.box 6, (encC .any T1383 p5)), (.buf 30 T1383 p6, [])]⟩
abbrev Q (p1 : T1383.T) (p2 : List (Int × List T1383.T)) (p3 : Nat) (p4 : Int) (p5 : T1383.T) (p6 : List T1383.T) (r : R) := CallQ 4 (out p1 p2 p3 p4 p5 p6 r)
noncomputable def f (k : Nat) (p1 : T1383.T) (p2 : List (Int × List T1383.T)) (p3 : Nat) (p4 : Int) (p5 : T1383.T) (p6 : List T1383.T) : Option R :=
  (f_rule_Alike.f k p1 p5).bind fun y1 =>
    some (y1.1, ())
theorem f_ok {r k p1 p2 p3 p4 p5 p6} (H : f k p1 p2 p3 p4 p5 p6 = some r) : Gw P 4 (Q p1 p2 p3 p4 p5 p6 r) (Px c0 1 []) (s0 p1 p2 p3 p4 p5 p6) := by
  unfold f at H
  refine Rg V_ok 1 [(0, hb 4)] az (by kernel_rfl) ?_
  obtain ⟨y1, e2, H⟩ := of_bind H
  refine Rg V_ok 0 [(2, hr f_rule_Alike.S y1)] (ac (f_rule_Alike.rl e2) az) (by kernel_rfl) ?_
  obtain rfl := Option.some.inj H
  exact Lq {fz := [], gr := 0, ad := [], live := [3], src := [some 0, some 1, some 2, some 3]} (by kernel_rfl)
theorem ok {r k p1 p2 p3 p4 p5 p6} (H : f k p1 p2 p3 p4 p5 p6 = some r) : W P 4 c0 (s0 p1 p2 p3 p4 p5 p6) (CallQ 4 (out p1 p2 p3 p4 p5 p6 r)) := of_G (f_ok H)
theorem at_ : FnAt P 46 7 c0 Go.Proofs.Tryd.f46.results := fnAt Go.Proofs.Tryd.func46 (by kernel_rfl) (by decide) (by kernel_rfl) (by kernel_rfl)
end i_table_Put_1_a6e
/-! ### function 68, slices.IndexFunc[[]wayfinder/api.Rule,wayfinder/api.Rule], where it is called -/
namespace i_slices_IndexFunc_Rule_7cf
noncomputable def c0 : Code := (Go.Proofs.Tryd.f68.body).getD .skip
noncomputable def V : Env := { tt := tt, Γ := slk [] }
theorem V_ok : EnvOk P V := { ck := tt_ck, fits := slk_nil, mixed := mixed }
abbrev R := (Int) × (List (Int × List T1383.T)) × (Nat) × (Int) × (T1383.T) × (List T1383.T) × Unit
noncomputable def s0 (p1 : List (Int × List T1383.T)) (p2 : Nat) (p3 : Int) (p4 : T1383.T) (p5 : List T1383.T) : St := ⟨19, [(0, .cv (.one (.own 3))), (1, .cv (.one (.fn 46 [] [(2, 0)])))], [(.lnk 61 (.int .i64) T1383 p1 3 p2, []), (.box 1, [.int .i64 p3]), (.box 6, (encC .any T1383 p4)), (.buf 30 T1383 p5, [])]⟩
noncomputable def out (r : R) : St := ⟨19, [(4, .cv (.one (.int .i64 r.1)))], [(.lnk 61 (.int .i64) T1383 r.2.1 3 r.2.2.1, []), (.box 1, [.int .i64 r.2.2.2.1]), (.box 6, (encC .any T1383 r.2.2.2.2.1)), (.buf 30 T1383 r.2.2.2.2.2.1, [])]⟩
abbrev Q (r : R) := CallQ 4 (out r)
noncomputable def s1 (p1 : Int) (p2 : Int) (p3 : List (Int × List T1383.T)) (p4 : Nat) (p5 : Int) (p6 : T1383.T) (p7 : List T1383.T) : St := ⟨19, [(0, .cv (.one (.own 3))), (1, .cv (.one (.fn 46 [] [(2, 0)]))), (7, .cv (.one (.int .i64 p1))), (8, .cv (.one (.int .i64 p2)))], [(.lnk 61 (.int .i64) T1383 p3 3 p4, []), (.box 1, [.int .i64 p5]), (.box 6, (encC .any T1383 p6)), (.buf 30 T1383 p7, [])]⟩
noncomputable def b1 (L1 : Int → Int → List (Int × List T1383.T) → Nat → Int → T1383.T → List T1383.T → Option R) (k : Nat) (p1 : Int) (p2 : Int) (p3 : List (Int × List T1383.T)) (p4 : Nat) (p5 : Int) (p6 : T1383.T) (p7 : List T1383.T) : Option R :=
  if (decide (p2 < p1)) = true then
  if 0 ≤ p2 then
    if p2 < (p7.length : Int) then
      (i_table_Put_1_a6e.f k (att T1383 p7 p2) p3 p4 p5 p6 p7).bind fun y4 =>
        if y4.1 = true then
          some (p2, (p3, (p4, (p5, (p6, (p7, ()))))))
        else
          L1 p1 (IntKind.i64.wrap (p2 + 1)) p3 p4 p5 p6 p7
    else none
  else none
else
  some ((-1), (p3, (p4, (p5, (p6, (p7, ()))))))
theorem b1_ok {r} {L1 : Int → Int → List (Int × List T1383.T) → Nat → Int → T1383.T → List T1383.T → Option R} {m1 : Nat} (hL1 : ∀ p1 p2 p3 p4 p5 p6 p7, L1 p1 p2 p3 p4 p5 p6 p7 = some r → Gw P 4 (Q r) (Pb c0 21 [] m1) (s1 p1 p2 p3 p4 p5 p6 p7)) {k p1 p2 p3 p4 p5 p6 p7} (H : b1 L1 k p1 p2 p3 p4 p5 p6 p7 = some r) : Gw P 4 (Q r) (Px c0 37 [m1]) (s1 p1 p2 p3 p4 p5 p6 p7) := by
  unfold b1 at H
  refine Rg V_ok 0 [] az (by kernel_rfl) ?_
  rcases of_ite H with ⟨hb1, H⟩ | ⟨hb1, H⟩
  · refine C1 hb1 (by kernel_rfl) ?_
    refine Rg V_ok 0 [] az (by kernel_rfl) ?_
    refine GT {live := [0, 1, 5, 7, 8], src := [some 0, some 1, some 2, some 3]} (by kernel_rfl) (RI (by kernel_rfl) ?_)
    obtain ⟨n2, H⟩ := of_if H
    obtain ⟨n3, H⟩ := of_if H
    refine EV V_ok 0 [] 5 (ac n2 (ac n3 az)) (by kernel_rfl) ?_
    obtain ⟨y4, e5, H⟩ := of_bind H
    refine CL V_ok i_table_Put_1_a6e.at_ (i_table_Put_1_a6e.ok e5) (by kernel_rfl) (by kernel_rfl) (by kernel_rfl) ?_
    refine RN (by kernel_rfl) (by kernel_rfl) ?_
    rcases of_ite H with ⟨hb6, H⟩ | ⟨hb6, H⟩
    · refine C1 hb6 (by kernel_rfl) ?_
      refine Rg V_ok 0 [] az (by kernel_rfl) ?_
      obtain rfl := Option.some.inj H
      exact Lq {fz := [], gr := 0, ad := [], live := [4], src := [some 0, some 1, some 2, some 3]} (by kernel_rfl)
    · refine C0 hb6 (by kernel_rfl) ?_
      refine Rg V_ok 0 [] az (by kernel_rfl) ?_
      exact Jm {fz := [], gr := 0, ad := [], live := [0, 1, 7, 8], src := [some 0, some 1, some 2, some 3]} (by kernel_rfl) (by kernel_rfl) (hL1 p1 (IntKind.i64.wrap (p2 + 1)) p3 p4 p5 p6 p7 H)
  · refine C0 hb1 (by kernel_rfl) ?_
    refine Rg V_ok 0 [] az (by kernel_rfl) ?_
    obtain rfl := Option.some.inj H
    exact Lq {fz := [], gr := 0, ad := [], live := [4], src := [some 0, some 1, some 2, some 3]} (by kernel_rfl)
noncomputable def l1 (k : Nat) : Nat → Int → Int → List (Int × List T1383.T) → Nat → Int → T1383.T → List T1383.T → Option R
  | 0, _, _, _, _, _, _, _ => none
  | m + 1, p1, p2, p3, p4, p5, p6, p7 => b1 (l1 k m) k p1 p2 p3 p4 p5 p6 p7
theorem l1_ok {r} (k : Nat) : ∀ (m1 : Nat) (p1 : Int) (p2 : Int) (p3 : List (Int × List T1383.T)) (p4 : Nat) (p5 : Int) (p6 : T1383.T) (p7 : List T1383.T), l1 k m1 p1 p2 p3 p4 p5 p6 p7 = some r → Gw P 4 (Q r) (Pb c0 21 [] m1) (s1 p1 p2 p3 p4 p5 p6 p7)
  | 0, _, _, _, _, _, _, _, H => by cases H
  | m1 + 1, p1, p2, p3, p4, p5, p6, p7, H => SU (by kernel_rfl) (b1_ok (l1_ok k m1) H)
noncomputable def f (k : Nat) (p1 : List (Int × List T1383.T)) (p2 : Nat) (p3 : Int) (p4 : T1383.T) (p5 : List T1383.T) : Option R :=
  l1 k k (p5.length : Int) 0 p1 p2 p3 p4 p5
theorem f_ok {r k p1 p2 p3 p4 p5} (H : f k p1 p2 p3 p4 p5 = some r) : Gw P 4 (Q r) (Px c0 1 []) (s0 p1 p2 p3 p4 p5) := by
  unfold f at H
  refine Rg V_ok 0 [] az (by kernel_rfl) ?_
  refine Rg V_ok 0 [] az (by kernel_rfl) ?_
  exact LP k (Jm {fz := [], gr := 0, ad := [], live := [0, 1, 7, 8], src := [some 0, some 1, some 2, some 3]} (by kernel_rfl) (by kernel_rfl) (l1_ok k k (p5.length : Int) 0 p1 p2 p3 p4 p5 H))
theorem ok {r k p1 p2 p3 p4 p5} (H : f k p1 p2 p3 p4 p5 = some r) : W P 4 c0 (s0 p1 p2 p3 p4 p5) (CallQ 4 (out r)) := of_G (f_ok H)
theorem at_ : FnAt P 68 19 c0 Go.Proofs.Tryd.f68.results := fnAt Go.Proofs.Tryd.func68 (by kernel_rfl) (by decide) (by kernel_rfl) (by kernel_rfl)
end i_slices_IndexFunc_Rule_7cf
/-! ### function 45, wayfinder/table.first[wayfinder/api.Rule], where it is called -/
namespace i_table_first_Rule_7cf
noncomputable def c0 : Code := (Go.Proofs.Tryd.f45.body).getD .skip
noncomputable def V : Env := { tt := tt, Γ := slk [] }
theorem V_ok : EnvOk P V := { ck := tt_ck, fits := slk_nil, mixed := mixed }
abbrev R := (Int) × (List (Int × List T1383.T)) × (Nat) × (Int) × (T1383.T) × (List T1383.T) × Unit
noncomputable def s0 (p1 : List (Int × List T1383.T)) (p2 : Nat) (p3 : Int) (p4 : T1383.T) (p5 : List T1383.T) : St := ⟨14, [(0, .cv (.one (.own 3))), (1, .cv (.one (.fn 46 [] [(2, 0)])))], [(.lnk 61 (.int .i64) T1383 p1 3 p2, []), (.box 1, [.int .i64 p3]), (.box 6, (encC .any T1383 p4)), (.buf 30 T1383 p5, [])]⟩
noncomputable def out (r : R) : St := ⟨14, [(4, .cv (.one (.int .i64 r.1)))], [(.lnk 61 (.int .i64) T1383 r.2.1 3 r.2.2.1, []), (.box 1, [.int .i64 r.2.2.2.1]), (.box 6, (encC .any T1383 r.2.2.2.2.1)), (.buf 30 T1383 r.2.2.2.2.2.1, [])]⟩
abbrev Q (r : R) := CallQ 4 (out r)
noncomputable def f (k : Nat) (p1 : List (Int × List T1383.T)) (p2 : Nat) (p3 : Int) (p4 : T1383.T) (p5 : List T1383.T) : Option R :=
  (i_slices_IndexFunc_Rule_7cf.f k p1 p2 p3 p4 p5).bind fun y1 =>
    if (decide (y1.1 ≥ (0 : Int))) = true then
      some (y1.1, (y1.2.1, (y1.2.2.1, (y1.2.2.2.1, (y1.2.2.2.2.1, (y1.2.2.2.2.2.1, ()))))))
    else
      some ((y1.2.2.2.2.2.1.length : Int), (y1.2.1, (y1.2.2.1, (y1.2.2.2.1, (y1.2.2.2.2.1, (y1.2.2.2.2.2.1, ()))))))
theorem f_ok {r k p1 p2 p3 p4 p5} (H : f k p1 p2 p3 p4 p5 = some r) : Gw P 4 (Q r) (Px c0 1 []) (s0 p1 p2 p3 p4 p5) := by
  unfold f at H
  refine Rg V_ok 0 [] az (by kernel_rfl) ?_
  refine GT {live := [0, 1], src := [some 0, some 1, some 2, some 3]} (by kernel_rfl) (RI (by kernel_rfl) ?_)
  refine EV V_ok 0 [] 2 az (by kernel_rfl) ?_
  obtain ⟨y1, e2, H⟩ := of_bind H
  refine CL V_ok i_slices_IndexFunc_Rule_7cf.at_ (i_slices_IndexFunc_Rule_7cf.ok e2) (by kernel_rfl) (by kernel_rfl) (by kernel_rfl) ?_
  refine EV V_ok 0 [] 1 az (by kernel_rfl) ?_
  refine RN (by kernel_rfl) (by kernel_rfl) ?_
  refine Rg V_ok 0 [] az (by kernel_rfl) ?_
  rcases of_ite H with ⟨hb3, H⟩ | ⟨hb3, H⟩
  · refine C1 hb3 (by kernel_rfl) ?_
    refine Rg V_ok 0 [] az (by kernel_rfl) ?_
    obtain rfl := Option.some.inj H
    exact Lq {fz := [], gr := 0, ad := [], live := [4], src := [some 0, some 1, some 2, some 3]} (by kernel_rfl)
  · refine C0 hb3 (by kernel_rfl) ?_
    refine Rg V_ok 0 [] az (by kernel_rfl) ?_
    obtain rfl := Option.some.inj H
    exact Lq {fz := [], gr := 0, ad := [], live := [4], src := [some 0, some 1, some 2, some 3]} (by kernel_rfl)
theorem ok {r k p1 p2 p3 p4 p5} (H : f k p1 p2 p3 p4 p5 = some r) : W P 4 c0 (s0 p1 p2 p3 p4 p5) (CallQ 4 (out r)) := of_G (f_ok H)
theorem at_ : FnAt P 45 14 c0 Go.Proofs.Tryd.f45.results := fnAt Go.Proofs.Tryd.func45 (by kernel_rfl) (by decide) (by kernel_rfl) (by kernel_rfl)
end i_table_first_Rule_7cf
/-! ### function 43, wayfinder/table.own, where it is called -/
namespace i_table_own_6f4
noncomputable def c0 : Code := (Go.Proofs.Tryd.f43.body).getD .skip
noncomputable def V : Env := { tt := tt, Γ := slk [(66, f_slices_Clone_Rule.S)] }
theorem V_ok : EnvOk P V := { ck := tt_ck, fits := slk_cons f_slices_Clone_Rule.fits (slk_nil), mixed := mixed }
abbrev R := (Int) × (T1383.T) × (List T814c.T) × Unit
noncomputable def s0 (p1 : List T814c.T) (p2 : Int) (p3 : T1383.T) : St := ⟨23, [(0, .cv (.one (.sl T814c p1 .any)))], [(.box 1, [.int .i64 p2]), (.box 6, (encC .any T1383 p3))]⟩
noncomputable def out (r : R) : St := ⟨23, [(2, .cv (.one (.own 2)))], [(.box 1, [.int .i64 r.1]), (.box 6, (encC .any T1383 r.2.1)), (.buf 61 T814c r.2.2.1, [])]⟩
abbrev Q (r : R) := CallQ 2 (out r)
noncomputable def s1 (p1 : List T814c.T) (p2 : Int) (p3 : Int) (p4 : Int) (p5 : T1383.T) (p6 : List T814c.T) : St := ⟨23, [(3, .cv (.one (.own 2))), (6, .cv (.one (.sl T814c p1 .any))), (7, .cv (.one (.int .i64 p2))), (8, .cv (.one (.int .i64 p3)))], [(.box 1, [.int .i64 p4]), (.box 6, (encC .any T1383 p5)), (.buf 61 T814c p6, [])]⟩
noncomputable def b1 (L1 : List T814c.T → Int → Int → Int → T1383.T → List T814c.T → Option R) (k : Nat) (p1 : List T814c.T) (p2 : Int) (p3 : Int) (p4 : Int) (p5 : T1383.T) (p6 : List T814c.T) : Option R :=
  if (decide (p3 < p2)) = true then
  if 0 ≤ p3 then
    if p3 < (p1.length : Int) then
      (f_slices_Clone_Rule.f k ((att T814c p1 p3).2)).bind fun y4 =>
        if (p6.length + 1) * 32 ≤ 140737488355328 then
          L1 p1 p2 (IntKind.i64.wrap (p3 + 1)) p4 p5 (p6 ++ [((att T814c p1 p3).1, y4.1)])
        else none
    else none
  else none
else
  some (p4, (p5, (p6, ())))
theorem b1_ok {r} {L1 : List T814c.T → Int → Int → Int → T1383.T → List T814c.T → Option R} {m1 : Nat} (hL1 : ∀ p1 p2 p3 p4 p5 p6, L1 p1 p2 p3 p4 p5 p6 = some r → Gw P 2 (Q r) (Pb c0 43 [] m1) (s1 p1 p2 p3 p4 p5 p6)) {k p1 p2 p3 p4 p5 p6} (H : b1 L1 k p1 p2 p3 p4 p5 p6 = some r) : Gw P 2 (Q r) (Px c0 75 [m1]) (s1 p1 p2 p3 p4 p5 p6) := by
  unfold b1 at H
  refine Rg V_ok 0 [] az (by kernel_rfl) ?_
  rcases of_ite H with ⟨hb1, H⟩ | ⟨hb1, H⟩
  · refine C1 hb1 (by kernel_rfl) ?_
    obtain ⟨n2, H⟩ := of_if H
    obtain ⟨n3, H⟩ := of_if H
    refine Rg V_ok 1 [(2, hb 3)] (ac n2 (ac n3 az)) (by kernel_rfl) ?_
    obtain ⟨y4, e5, H⟩ := of_bind H
    obtain ⟨n6, H⟩ := of_if H
    refine Rg V_ok 1 [(5, hr f_slices_Clone_Rule.S y4), (8, hb 4)] (ac (f_slices_Clone_Rule.rl e5) (ac n6 az)) (by kernel_rfl) ?_
    refine Rg V_ok 0 [] az (by kernel_rfl) ?_
    exact Jm {fz := [], gr := 0, ad := [], live := [3, 6, 7, 8], src := [some 0, some 1, some 4]} (by kernel_rfl) (by kernel_rfl) (hL1 p1 p2 (IntKind.i64.wrap (p3 + 1)) p4 p5 (p6 ++ [((att T814c p1 p3).1, y4.1)]) H)
  · refine C0 hb1 (by kernel_rfl) ?_
    refine Rg V_ok 0 [] az (by kernel_rfl) ?_
    obtain rfl := Option.some.inj H
    exact Lq {fz := [], gr := 0, ad := [], live := [2], src := [some 0, some 1, some 2]} (by kernel_rfl)
noncomputable def l1 (k : Nat) : Nat → List T814c.T → Int → Int → Int → T1383.T → List T814c.T → Option R
  | 0, _, _, _, _, _, _ => none
  | m + 1, p1, p2, p3, p4, p5, p6 => b1 (l1 k m) k p1 p2 p3 p4 p5 p6
theorem l1_ok {r} (k : Nat) : ∀ (m1 : Nat) (p1 : List T814c.T) (p2 : Int) (p3 : Int) (p4 : Int) (p5 : T1383.T) (p6 : List T814c.T), l1 k m1 p1 p2 p3 p4 p5 p6 = some r → Gw P 2 (Q r) (Pb c0 43 [] m1) (s1 p1 p2 p3 p4 p5 p6)
  | 0, _, _, _, _, _, _, H => by cases H
  | m1 + 1, p1, p2, p3, p4, p5, p6, H => SU (by kernel_rfl) (b1_ok (l1_ok k m1) H)
noncomputable def f (k : Nat) (p1 : List T814c.T) (p2 : Int) (p3 : T1383.T) : Option R :=
  l1 k k p1 (p1.length : Int) 0 p2 p3 []
theorem f_ok {r k p1 p2 p3} (H : f k p1 p2 p3 = some r) : Gw P 2 (Q r) (Px c0 1 []) (s0 p1 p2 p3) := by
  unfold f at H
  refine Rg V_ok 0 [] az (by kernel_rfl) ?_
  refine Rg V_ok 0 [] az (by kernel_rfl) ?_
  refine Rg V_ok 0 [] az (by kernel_rfl) ?_
  exact LP k (Jm {fz := [], gr := 1, ad := [.ownT 3 2 61 T814c], live := [3, 6, 7, 8], src := [some 0, some 1, some 2]} (by kernel_rfl) (by kernel_rfl) (l1_ok k k p1 (p1.length : Int) 0 p2 p3 [] H))
theorem ok {r k p1 p2 p3} (H : f k p1 p2 p3 = some r) : W P 2 c0 (s0 p1 p2 p3) (CallQ 2 (out r)) := of_G (f_ok H)
theorem at_ : FnAt P 43 23 c0 Go.Proofs.Tryd.f43.results := fnAt Go.Proofs.Tryd.func43 (by kernel_rfl) (by decide) (by kernel_rfl) (by kernel_rfl)
end i_table_own_6f4
/-! ### function 46, wayfinder/table.Put$1, where it is called -/
namespace i_table_Put_1_e90
noncomputable def c0 : Code := (Go.Proofs.Tryd.f46.body).getD .skip
noncomputable def V : Env := { tt := tt, Γ := slk [(23, f_rule_Alike.S)] }
theorem V_ok : EnvOk P V := { ck := tt_ck, fits := slk_cons f_rule_Alike.fits (slk_nil), mixed := mixed }
abbrev R := (Bool) × Unit
noncomputable def s0 (p1 : T1383.T) (p2 : List T814c.T) (p3 : Int) (p4 : T1383.T) : St := ⟨7, [(0, .cv (.agg (encC .any T1383 p1))), (1, .cv (.one (.ptr 2 0)))], [(.buf 61 T814c p2, []), (.box 1, [.int .i64 p3]), (.box 6, (encC .any T1383 p4))]⟩
noncomputable def out (p1 : T1383.T) (p2 : List T814c.T) (p3 : Int) (p4 : T1383.T) (r : R) : St := ⟨7, [(3, .cv (.one (.bool r.1)))], [(.buf 61 T814c p2, []), (.box 1, [.int .i64 p3]), (.box 6, (encC .any T1383 p4))]⟩
abbrev Q (p1 : T1383.T) (p2 : List T814c.T) (p3 : Int) (p4 : T1383.T) (r : R) := CallQ 3 (out p1 p2 p3 p4 r)
noncomputable def f (k : Nat) (p1 : T1383.T) (p2 : List T814c.T) (p3 : Int) (p4 : T1383.T) : Option R :=
  (f_rule_Alike.f k p1 p4).bind fun y1 =>
    some (y1.1, ())
theorem f_ok {r k p1 p2 p3 p4} (H : f k p1 p2 p3 p4 = some r) : Gw P 3 (Q p1 p2 p3 p4 r) (Px c0 1 []) (s0 p1 p2 p3 p4) := by
  unfold f at H
  refine Rg V_ok 1 [(0, hb 3)] az (by kernel_rfl) ?_
  obtain ⟨y1, e2, H⟩ := of_bind H
  refine Rg V_ok 0 [(2, hr f_rule_Alike.S y1)] (ac (f_rule_Alike.rl e2) az) (by kernel_rfl) ?_
  obtain rfl := Option.some.inj H
  exact Lq {fz := [], gr := 0, ad := [], live := [3], src := [some 0, some 1, some 2]} (by kernel_rfl)
theorem ok {r k p1 p2 p3 p4} (H : f k p1 p2 p3 p4 = some r) : W P 3 c0 (s0 p1 p2 p3 p4) (CallQ 3 (out p1 p2 p3 p4 r)) := of_G (f_ok H)
theorem at_ : FnAt P 46 7 c0 Go.Proofs.Tryd.f46.results := fnAt Go.Proofs.Tryd.func46 (by kernel_rfl) (by decide) (by kernel_rfl) (by kernel_rfl)
end i_table_Put_1_e90
/-! ### function 68, slices.IndexFunc[[]wayfinder/api.Rule,wayfinder/api.Rule], where it is called -/
namespace i_slices_IndexFunc_Rule_26b
noncomputable def c0 : Code := (Go.Proofs.Tryd.f68.body).getD .skip
noncomputable def V : Env := { tt := tt, Γ := slk [] }
theorem V_ok : EnvOk P V := { ck := tt_ck, fits := slk_nil, mixed := mixed }
abbrev R := (Int) × (List T814c.T) × (Int) × (T1383.T) × Unit
noncomputable def s0 (p1 : List T1383.T) (p2 : List T814c.T) (p3 : Int) (p4 : T1383.T) : St := ⟨19, [(0, .cv (.one (.sl T1383 p1 .any))), (1, .cv (.one (.fn 46 [] [(2, 0)])))], [(.buf 61 T814c p2, []), (.box 1, [.int .i64 p3]), (.box 6, (encC .any T1383 p4))]⟩
noncomputable def out (r : R) : St := ⟨19, [(4, .cv (.one (.int .i64 r.1)))], [(.buf 61 T814c r.2.1, []), (.box 1, [.int .i64 r.2.2.1]), (.box 6, (encC .any T1383 r.2.2.2.1))]⟩
abbrev Q (r : R) := CallQ 3 (out r)
noncomputable def s1 (p1 : List T1383.T) (p2 : Int) (p3 : Int) (p4 : List T814c.T) (p5 : Int) (p6 : T1383.T) : St := ⟨19, [(0, .cv (.one (.sl T1383 p1 .any))), (1, .cv (.one (.fn 46 [] [(2, 0)]))), (7, .cv (.one (.int .i64 p2))), (8, .cv (.one (.int .i64 p3)))], [(.buf 61 T814c p4, []), (.box 1, [.int .i64 p5]), (.box 6, (encC .any T1383 p6))]⟩
noncomputable def b1 (L1 : List T1383.T → Int → Int → List T814c.T → Int → T1383.T → Option R) (k : Nat) (p1 : List T1383.T) (p2 : Int) (p3 : Int) (p4 : List T814c.T) (p5 : Int) (p6 : T1383.T) : Option R :=
  if (decide (p3 < p2)) = true then
  if 0 ≤ p3 then
    if p3 < (p1.length : Int) then
      (i_table_Put_1_e90.f k (att T1383 p1 p3) p4 p5 p6).bind fun y4 =>
        if y4.1 = true then
          some (p3, (p4, (p5, (p6, ()))))
        else
          L1 p1 p2 (IntKind.i64.wrap (p3 + 1)) p4 p5 p6
    else none
  else none
else
  some ((-1), (p4, (p5, (p6, ()))))
theorem b1_ok {r} {L1 : List T1383.T → Int → Int → List T814c.T → Int → T1383.T → Option R} {m1 : Nat} (hL1 : ∀ p1 p2 p3 p4 p5 p6, L1 p1 p2 p3 p4 p5 p6 = some r → Gw P 3 (Q r) (Pb c0 21 [] m1) (s1 p1 p2 p3 p4 p5 p6)) {k p1 p2 p3 p4 p5 p6} (H : b1 L1 k p1 p2 p3 p4 p5 p6 = some r) : Gw P 3 (Q r) (Px c0 37 [m1]) (s1 p1 p2 p3 p4 p5 p6) := by
  unfold b1 at H
  refine Rg V_ok 0 [] az (by kernel_rfl) ?_
  rcases of_ite H with ⟨hb1, H⟩ | ⟨hb1, H⟩
  · refine C1 hb1 (by kernel_rfl) ?_
    refine Rg V_ok 0 [] az (by kernel_rfl) ?_
    refine GT {live := [0, 1, 5, 7, 8], src := [some 0, some 1, some 2]} (by kernel_rfl) (RI (by kernel_rfl) ?_)
    obtain ⟨n2, H⟩ := of_if H
    obtain ⟨n3, H⟩ := of_if H
    refine EV V_ok 0 [] 5 (ac n2 (ac n3 az)) (by kernel_rfl) ?_
    obtain ⟨y4, e5, H⟩ := of_bind H
    refine CL V_ok i_table_Put_1_e90.at_ (i_table_Put_1_e90.ok e5) (by kernel_rfl) (by kernel_rfl) (by kernel_rfl) ?_
    refine RN (by kernel_rfl) (by kernel_rfl) ?_
    rcases of_ite H with ⟨hb6, H⟩ | ⟨hb6, H⟩
    · refine C1 hb6 (by kernel_rfl) ?_
      refine Rg V_ok 0 [] az (by kernel_rfl) ?_
      obtain rfl := Option.some.inj H
      exact Lq {fz := [], gr := 0, ad := [], live := [4], src := [some 0, some 1, some 2]} (by kernel_rfl)
    · refine C0 hb6 (by kernel_rfl) ?_
      refine Rg V_ok 0 [] az (by kernel_rfl) ?_
      exact Jm {fz := [], gr := 0, ad := [], live := [0, 1, 7, 8], src := [some 0, some 1, some 2]} (by kernel_rfl) (by kernel_rfl) (hL1 p1 p2 (IntKind.i64.wrap (p3 + 1)) p4 p5 p6 H)
  · refine C0 hb1 (by kernel_rfl) ?_
    refine Rg V_ok 0 [] az (by kernel_rfl) ?_
    obtain rfl := Option.some.inj H
    exact Lq {fz := [], gr := 0, ad := [], live := [4], src := [some 0, some 1, some 2]} (by kernel_rfl)
noncomputable def l1 (k : Nat) : Nat → List T1383.T → Int → Int → List T814c.T → Int → T1383.T → Option R
  | 0, _, _, _, _, _, _ => none
  | m + 1, p1, p2, p3, p4, p5, p6 => b1 (l1 k m) k p1 p2 p3 p4 p5 p6
theorem l1_ok {r} (k : Nat) : ∀ (m1 : Nat) (p1 : List T1383.T) (p2 : Int) (p3 : Int) (p4 : List T814c.T) (p5 : Int) (p6 : T1383.T), l1 k m1 p1 p2 p3 p4 p5 p6 = some r → Gw P 3 (Q r) (Pb c0 21 [] m1) (s1 p1 p2 p3 p4 p5 p6)
  | 0, _, _, _, _, _, _, H => by cases H
  | m1 + 1, p1, p2, p3, p4, p5, p6, H => SU (by kernel_rfl) (b1_ok (l1_ok k m1) H)
noncomputable def f (k : Nat) (p1 : List T1383.T) (p2 : List T814c.T) (p3 : Int) (p4 : T1383.T) : Option R :=
  l1 k k p1 (p1.length : Int) 0 p2 p3 p4
theorem f_ok {r k p1 p2 p3 p4} (H : f k p1 p2 p3 p4 = some r) : Gw P 3 (Q r) (Px c0 1 []) (s0 p1 p2 p3 p4) := by
  unfold f at H
  refine Rg V_ok 0 [] az (by kernel_rfl) ?_
  refine Rg V_ok 0 [] az (by kernel_rfl) ?_
  exact LP k (Jm {fz := [], gr := 0, ad := [], live := [0, 1, 7, 8], src := [some 0, some 1, some 2]} (by kernel_rfl) (by kernel_rfl) (l1_ok k k p1 (p1.length : Int) 0 p2 p3 p4 H))
theorem ok {r k p1 p2 p3 p4} (H : f k p1 p2 p3 p4 = some r) : W P 3 c0 (s0 p1 p2 p3 p4) (CallQ 3 (out r)) := of_G (f_ok H)
theorem at_ : FnAt P 68 19 c0 Go.Proofs.Tryd.f68.results := fnAt Go.Proofs.Tryd.func68 (by kernel_rfl) (by decide) (by kernel_rfl) (by kernel_rfl)
end i_slices_IndexFunc_Rule_26b
/-! ### function 45, wayfinder/table.first[wayfinder/api.Rule], where it is called -/
namespace i_table_first_Rule_26b
noncomputable def c0 : Code := (Go.Proofs.Tryd.f45.body).getD .skip
noncomputable def V : Env := { tt := tt, Γ := slk [] }
theorem V_ok : EnvOk P V := { ck := tt_ck, fits := slk_nil, mixed := mixed }
abbrev R := (Int) × (List T814c.T) × (Int) × (T1383.T) × Unit
noncomputable def s0 (p1 : List T1383.T) (p2 : List T814c.T) (p3 : Int) (p4 : T1383.T) : St := ⟨14, [(0, .cv (.one (.sl T1383 p1 .any))), (1, .cv (.one (.fn 46 [] [(2, 0)])))], [(.buf 61 T814c p2, []), (.box 1, [.int .i64 p3]), (.box 6, (encC .any T1383 p4))]⟩
noncomputable def out (r : R) : St := ⟨14, [(4, .cv (.one (.int .i64 r.1)))], [(.buf 61 T814c r.2.1, []), (.box 1, [.int .i64 r.2.2.1]), (.box 6, (encC .any T1383 r.2.2.2.1))]⟩
abbrev Q (r : R) := CallQ 3 (out r)
noncomputable def f (k : Nat) (p1 : List T1383.T) (p2 : List T814c.T) (p3 : Int) (p4 : T1383.T) : Option R :=
  (i_slices_IndexFunc_Rule_26b.f k p1 p2 p3 p4).bind fun y1 =>
    if (decide (y1.1 ≥ (0 : Int))) = true then
      some (y1.1, (y1.2.1, (y1.2.2.1, (y1.2.2.2.1, ()))))
    else
      some ((p1.length : Int), (y1.2.1, (y1.2.2.1, (y1.2.2.2.1, ()))))
theorem f_ok {r k p1 p2 p3 p4} (H : f k p1 p2 p3 p4 = some r) : Gw P 3 (Q r) (Px c0 1 []) (s0 p1 p2 p3 p4) := by
  unfold f at H
  refine Rg V_ok 0 [] az (by kernel_rfl) ?_
  refine GT {live := [0, 1], src := [some 0, some 1, some 2]} (by kernel_rfl) (RI (by kernel_rfl) ?_)
  refine EV V_ok 0 [] 2 az (by kernel_rfl) ?_
  obtain ⟨y1, e2, H⟩ := of_bind H
  refine CL V_ok i_slices_IndexFunc_Rule_26b.at_ (i_slices_IndexFunc_Rule_26b.ok e2) (by kernel_rfl) (by kernel_rfl) (by kernel_rfl) ?_
  refine EV V_ok 0 [] 1 az (by kernel_rfl) ?_
  refine RN (by kernel_rfl) (by kernel_rfl) ?_
  refine Rg V_ok 0 [] az (by kernel_rfl) ?_
  rcases of_ite H with ⟨hb3, H⟩ | ⟨hb3, H⟩
  · refine C1 hb3 (by kernel_rfl) ?_
    refine Rg V_ok 0 [] az (by kernel_rfl) ?_
    obtain rfl := Option.some.inj H
    exact Lq {fz := [], gr := 0, ad := [], live := [4], src := [some 0, some 1, some 2]} (by kernel_rfl)
  · refine C0 hb3 (by kernel_rfl) ?_
    refine Rg V_ok 0 [] az (by kernel_rfl) ?_
    obtain rfl := Option.some.inj H
    exact Lq {fz := [], gr := 0, ad := [], live := [4], src := [some 0, some 1, some 2]} (by kernel_rfl)
theorem ok {r k p1 p2 p3 p4} (H : f k p1 p2 p3 p4 = some r) : W P 3 c0 (s0 p1 p2 p3 p4) (CallQ 3 (out r)) := of_G (f_ok H)
theorem at_ : FnAt P 45 14 c0 Go.Proofs.Tryd.f45.results := fnAt Go.Proofs.Tryd.func45 (by kernel_rfl) (by decide) (by kernel_rfl) (by kernel_rfl)
end i_table_first_Rule_26b
/-! ### function 49, wayfinder/table.Put$2, where it is called -/
namespace i_table_Put_2_4f9
noncomputable def c0 : Code := (Go.Proofs.Tryd.f49.body).getD .skip
noncomputable def V : Env := { tt := tt, Γ := slk [] }
theorem V_ok : EnvOk P V := { ck := tt_ck, fits := slk_nil, mixed := mixed }
abbrev R := (Bool) × Unit
noncomputable def s0 (p1 : T814c.T) (p2 : List T814c.T) (p3 : Int) (p4 : T1383.T) : St := ⟨8, [(0, .cv (.agg [.int .i64 p1.1, .sl T1383 p1.2 .any])), (1, .cv (.one (.ptr 1 0)))], [(.buf 61 T814c p2, []), (.box 1, [.int .i64 p3]), (.box 6, (encC .any T1383 p4))]⟩
noncomputable def out (p1 : T814c.T) (p2 : List T814c.T) (p3 : Int) (p4 : T1383.T) (r : R) : St := ⟨8, [(3, .cv (.one (.bool r.1)))], [(.buf 61 T814c p2, []), (.box 1, [.int .i64 p3]), (.box 6, (encC .any T1383 p4))]⟩
abbrev Q (p1 : T814c.T) (p2 : List T814c.T) (p3 : Int) (p4 : T1383.T) (r : R) := CallQ 3 (out p1 p2 p3 p4 r)
noncomputable def f (k : Nat) (p1 : T814c.T) (p2 : List T814c.T) (p3 : Int) (p4 : T1383.T) : Option R :=
  some ((decide (p1.1 > p3)), ())
theorem f_ok {r k p1 p2 p3 p4} (H : f k p1 p2 p3 p4 = some r) : Gw P 3 (Q p1 p2 p3 p4 r) (Px c0 1 []) (s0 p1 p2 p3 p4) := by
  unfold f at H
  refine Rg V_ok 1 [(0, hb 3)] az (by kernel_rfl) ?_
  refine Rg V_ok 0 [] az (by kernel_rfl) ?_
  obtain rfl := Option.some.inj H
  exact Lq {fz := [], gr := 0, ad := [], live := [3], src := [some 0, some 1, some 2]} (by kernel_rfl)
theorem ok {r k p1 p2 p3 p4} (H : f k p1 p2 p3 p4 = some r) : W P 3 c0 (s0 p1 p2 p3 p4) (CallQ 3 (out p1 p2 p3 p4 r)) := of_G (f_ok H)
theorem at_ : FnAt P 49 8 c0 Go.Proofs.Tryd.f49.results := fnAt Go.Proofs.Tryd.func49 (by kernel_rfl) (by decide) (by kernel_rfl) (by kernel_rfl)
end i_table_Put_2_4f9
/-! ### function 69, slices.IndexFunc[[]wayfinder/api.Ver,wayfinder/api.Ver], where it is called -/
namespace i_slices_IndexFunc_Ver_d92
noncomputable def c0 : Code := (Go.Proofs.Tryd.f69.body).getD .skip
noncomputable def V : Env := { tt := tt, Γ := slk [] }
theorem V_ok : EnvOk P V := { ck := tt_ck, fits := slk_nil, mixed := mixed }
abbrev R := (Int) × (List T814c.T) × (Int) × (T1383.T) × Unit
noncomputable def s0 (p1 : List T814c.T) (p2 : Int) (p3 : T1383.T) : St := ⟨19, [(0, .cv (.one (.own 0))), (1, .cv (.one (.fn 49 [] [(1, 0)])))], [(.buf 61 T814c p1, []), (.box 1, [.int .i64 p2]), (.box 6, (encC .any T1383 p3))]⟩
noncomputable def out (r : R) : St := ⟨19, [(4, .cv (.one (.int .i64 r.1)))], [(.buf 61 T814c r.2.1, []), (.box 1, [.int .i64 r.2.2.1]), (.box 6, (encC .any T1383 r.2.2.2.1))]⟩
abbrev Q (r : R) := CallQ 3 (out r)
noncomputable def s1 (p1 : Int) (p2 : Int) (p3 : List T814c.T) (p4 : Int) (p5 : T1383.T) : St := ⟨19, [(0, .cv (.one (.own 0))), (1, .cv (.one (.fn 49 [] [(1, 0)]))), (7, .cv (.one (.int .i64 p1))), (8, .cv (.one (.int .i64 p2)))], [(.buf 61 T814c p3, []), (.box 1, [.int .i64 p4]), (.box 6, (encC .any T1383 p5))]⟩
noncomputable def b1 (L1 : Int → Int → List T814c.T → Int → T1383.T → Option R) (k : Nat) (p1 : Int) (p2 : Int) (p3 : List T814c.T) (p4 : Int) (p5 : T1383.T) : Option R :=
  if (decide (p2 < p1)) = true then
  if 0 ≤ p2 then
    if p2 < (p3.length : Int) then
      (i_table_Put_2_4f9.f k (att T814c p3 p2) p3 p4 p5).bind fun y4 =>
        if y4.1 = true then
          some (p2, (p3, (p4, (p5, ()))))
        else
          L1 p1 (IntKind.i64.wrap (p2 + 1)) p3 p4 p5
    else none
  else none
else
  some ((-1), (p3, (p4, (p5, ()))))
theorem b1_ok {r} {L1 : Int → Int → List T814c.T → Int → T1383.T → Option R} {m1 : Nat} (hL1 : ∀ p1 p2 p3 p4 p5, L1 p1 p2 p3 p4 p5 = some r → Gw P 3 (Q r) (Pb c0 21 [] m1) (s1 p1 p2 p3 p4 p5)) {k p1 p2 p3 p4 p5} (H : b1 L1 k p1 p2 p3 p4 p5 = some r) : Gw P 3 (Q r) (Px c0 37 [m1]) (s1 p1 p2 p3 p4 p5) := by
  unfold b1 at H
  refine Rg V_ok 0 [] az (by kernel_rfl) ?_
  rcases of_ite H with ⟨hb1, H⟩ | ⟨hb1, H⟩
  · refine C1 hb1 (by kernel_rfl) ?_
    refine Rg V_ok 0 [] az (by kernel_rfl) ?_
    refine GT {live := [0, 1, 5, 7, 8], src := [some 0, some 1, some 2]} (by kernel_rfl) (RI (by kernel_rfl) ?_)
    obtain ⟨n2, H⟩ := of_if H
    obtain ⟨n3, H⟩ := of_if H
    refine EV V_ok 0 [] 5 (ac n2 (ac n3 az)) (by kernel_rfl) ?_
    obtain ⟨y4, e5, H⟩ := of_bind H
    refine CL V_ok i_table_Put_2_4f9.at_ (i_table_Put_2_4f9.ok e5) (by kernel_rfl) (by kernel_rfl) (by kernel_rfl) ?_
    refine RN (by kernel_rfl) (by kernel_rfl) ?_
    rcases of_ite H with ⟨hb6, H⟩ | ⟨hb6, H⟩
    · refine C1 hb6 (by kernel_rfl) ?_
      refine Rg V_ok 0 [] az (by kernel_rfl) ?_
      obtain rfl := Option.some.inj H
      exact Lq {fz := [], gr := 0, ad := [], live := [4], src := [some 0, some 1, some 2]} (by kernel_rfl)
    · refine C0 hb6 (by kernel_rfl) ?_
      refine Rg V_ok 0 [] az (by kernel_rfl) ?_
      exact Jm {fz := [], gr := 0, ad := [], live := [0, 1, 7, 8], src := [some 0, some 1, some 2]} (by kernel_rfl) (by kernel_rfl) (hL1 p1 (IntKind.i64.wrap (p2 + 1)) p3 p4 p5 H)
  · refine C0 hb1 (by kernel_rfl) ?_
    refine Rg V_ok 0 [] az (by kernel_rfl) ?_
    obtain rfl := Option.some.inj H
    exact Lq {fz := [], gr := 0, ad := [], live := [4], src := [some 0, some 1, some 2]} (by kernel_rfl)
noncomputable def l1 (k : Nat) : Nat → Int → Int → List T814c.T → Int → T1383.T → Option R
  | 0, _, _, _, _, _ => none
  | m + 1, p1, p2, p3, p4, p5 => b1 (l1 k m) k p1 p2 p3 p4 p5
theorem l1_ok {r} (k : Nat) : ∀ (m1 : Nat) (p1 : Int) (p2 : Int) (p3 : List T814c.T) (p4 : Int) (p5 : T1383.T), l1 k m1 p1 p2 p3 p4 p5 = some r → Gw P 3 (Q r) (Pb c0 21 [] m1) (s1 p1 p2 p3 p4 p5)
  | 0, _, _, _, _, _, H => by cases H
  | m1 + 1, p1, p2, p3, p4, p5, H => SU (by kernel_rfl) (b1_ok (l1_ok k m1) H)
noncomputable def f (k : Nat) (p1 : List T814c.T) (p2 : Int) (p3 : T1383.T) : Option R :=
  l1 k k (p1.length : Int) 0 p1 p2 p3
theorem f_ok {r k p1 p2 p3} (H : f k p1 p2 p3 = some r) : Gw P 3 (Q r) (Px c0 1 []) (s0 p1 p2 p3) := by
  unfold f at H
  refine Rg V_ok 0 [] az (by kernel_rfl) ?_
  refine Rg V_ok 0 [] az (by kernel_rfl) ?_
  exact LP k (Jm {fz := [], gr := 0, ad := [], live := [0, 1, 7, 8], src := [some 0, some 1, some 2]} (by kernel_rfl) (by kernel_rfl) (l1_ok k k (p1.length : Int) 0 p1 p2 p3 H))
theorem ok {r k p1 p2 p3} (H : f k p1 p2 p3 = some r) : W P 3 c0 (s0 p1 p2 p3) (CallQ 3 (out r)) := of_G (f_ok H)
theorem at_ : FnAt P 69 19 c0 Go.Proofs.Tryd.f69.results := fnAt Go.Proofs.Tryd.func69 (by kernel_rfl) (by decide) (by kernel_rfl) (by kernel_rfl)
end i_slices_IndexFunc_Ver_d92
/-! ### function 48, wayfinder/table.first[wayfinder/api.Ver], where it is called -/
namespace i_table_first_Ver_d92
noncomputable def c0 : Code := (Go.Proofs.Tryd.f48.body).getD .skip
noncomputable def V : Env := { tt := tt, Γ := slk [] }
theorem V_ok : EnvOk P V := { ck := tt_ck, fits := slk_nil, mixed := mixed }
abbrev R := (Int) × (List T814c.T) × (Int) × (T1383.T) × Unit
noncomputable def s0 (p1 : List T814c.T) (p2 : Int) (p3 : T1383.T) : St := ⟨14, [(0, .cv (.one (.own 0))), (1, .cv (.one (.fn 49 [] [(1, 0)])))], [(.buf 61 T814c p1, []), (.box 1, [.int .i64 p2]), (.box 6, (encC .any T1383 p3))]⟩
noncomputable def out (r : R) : St := ⟨14, [(4, .cv (.one (.int .i64 r.1)))], [(.buf 61 T814c r.2.1, []), (.box 1, [.int .i64 r.2.2.1]), (.box 6, (encC .any T1383 r.2.2.2.1))]⟩
abbrev Q (r : R) := CallQ 3 (out r)
noncomputable def f (k : Nat) (p1 : List T814c.T) (p2 : Int) (p3 : T1383.T) : Option R :=
  (i_slices_IndexFunc_Ver_d92.f k p1 p2 p3).bind fun y1 =>
    if (decide (y1.1 ≥ (0 : Int))) = true then
      some (y1.1, (y1.2.1, (y1.2.2.1, (y1.2.2.2.1, ()))))
    else
      some ((y1.2.1.length : Int), (y1.2.1, (y1.2.2.1, (y1.2.2.2.1, ()))))
theorem f_ok {r k p1 p2 p3} (H : f k p1 p2 p3 = some r) : Gw P 3 (Q r) (Px c0 1 []) (s0 p1 p2 p3) := by
  unfold f at H
  refine Rg V_ok 0 [] az (by kernel_rfl) ?_
  refine GT {live := [0, 1], src := [some 0, some 1, some 2]} (by kernel_rfl) (RI (by kernel_rfl) ?_)
  refine EV V_ok 0 [] 2 az (by kernel_rfl) ?_
  obtain ⟨y1, e2, H⟩ := of_bind H
  refine CL V_ok i_slices_IndexFunc_Ver_d92.at_ (i_slices_IndexFunc_Ver_d92.ok e2) (by kernel_rfl) (by kernel_rfl) (by kernel_rfl) ?_
  refine EV V_ok 0 [] 1 az (by kernel_rfl) ?_
  refine RN (by kernel_rfl) (by kernel_rfl) ?_
  refine Rg V_ok 0 [] az (by kernel_rfl) ?_
  rcases of_ite H with ⟨hb3, H⟩ | ⟨hb3, H⟩
  · refine C1 hb3 (by kernel_rfl) ?_
    refine Rg V_ok 0 [] az (by kernel_rfl) ?_
    obtain rfl := Option.some.inj H
    exact Lq {fz := [], gr := 0, ad := [], live := [4], src := [some 0, some 1, some 2]} (by kernel_rfl)
  · refine C0 hb3 (by kernel_rfl) ?_
    refine Rg V_ok 0 [] az (by kernel_rfl) ?_
    obtain rfl := Option.some.inj H
    exact Lq {fz := [], gr := 0, ad := [], live := [4], src := [some 0, some 1, some 2]} (by kernel_rfl)
theorem ok {r k p1 p2 p3} (H : f k p1 p2 p3 = some r) : W P 3 c0 (s0 p1 p2 p3) (CallQ 3 (out r)) := of_G (f_ok H)
theorem at_ : FnAt P 48 14 c0 Go.Proofs.Tryd.f48.results := fnAt Go.Proofs.Tryd.func48 (by kernel_rfl) (by decide) (by kernel_rfl) (by kernel_rfl)
end i_table_first_Ver_d92
/-! ### function 18, wayfinder/table.Put -/
namespace f_table_Put
noncomputable def c0 : Code := (Go.Proofs.Tryd.f18.body).getD .skip
abbrev ps : Sg := [(false, (.slice T814c)), (false, (.int .i64)), (true, T1383), (false, (.int .i64))]
abbrev rs : Sg := [(false, (.slice T814c)), (false, (.int .i64))]
noncomputable def V : Env := { tt := tt, Γ := slk [(22, f_rule_May.S), (44, f_table_at.S), (47, f_table_Size.S)], pr := plk [(43, .lnk 61 30 (.int .i64) T1383 32 48), (50, .ins 61 T814c 32)] }
theorem V_ok : EnvOk P V := { ck := tt_ck, fits := slk_cons f_rule_May.fits (slk_cons f_table_at.fits (slk_cons f_table_Size.fits (slk_nil))), mixed := mixed, prims := plk_cons (show PrimOk P 43 _ from L43.prim) (plk_cons (show PrimOk P 50 _ from N50.ok) (plk_nil)) }
abbrev R := Tup rs
noncomputable abbrev Q (r : R) : Exit → St → Prop := Qr tt Go.Proofs.Tryd.f18.results ⟨ps, rs, .any, none, fun _ _ => True⟩ r
noncomputable def s1 (p1 : Int) (p2 : Bool) (p3 : List (Int × List T1383.T)) (p4 : Nat) (p5 : Int) (p6 : T1383.T) (p7 : List T1383.T) : St := ⟨107, [(0, .cv (.one (.own 0))), (3, .cv (.one (.int .i64 p1))), (5, .cv (.one (.ptr 1 0))), (6, .cv (.one (.ptr 2 0))), (26, .cv (.one (.bool p2)))], [(.lnk 61 (.int .i64) T1383 p3 3 p4, []), (.box 1, [.int .i64 p5]), (.box 6, (encC .any T1383 p6)), (.buf 30 T1383 p7, [])]⟩
noncomputable def s2 (p1 : Int) (p2 : Int) (p3 : List (Int × List T1383.T)) (p4 : Nat) (p5 : Int) (p6 : T1383.T) (p7 : List T1383.T) : St := ⟨107, [(0, .cv (.one (.own 0))), (3, .cv (.one (.int .i64 p1))), (5, .cv (.one (.ptr 1 0))), (6, .cv (.one (.ptr 2 0))), (10, .cv (.one (.int .i64 p2)))], [(.lnk 61 (.int .i64) T1383 p3 3 p4, []), (.box 1, [.int .i64 p5]), (.box 6, (encC .any T1383 p6)), (.buf 30 T1383 p7, [])]⟩
noncomputable def j2 (k : Nat) (p1 : Int) (p2 : Int) (p3 : List (Int × List T1383.T)) (p4 : Nat) (p5 : Int) (p6 : T1383.T) (p7 : List T1383.T) : Option R :=
  (f_table_Size.f k (lnkd p3 p4 p7)).bind fun y21 =>
  if (decide (y21.1 ≥ p1)) = true then
    some ((lnkd p3 p4 p7), ((7 : Int), ()))
  else
    if (decide (p2 < (p3.length : Int))) = true then
      if 0 ≤ p2 then
        if p2 < ((lnkd p3 p4 p7).length : Int) then
          if 0 ≤ (0 : Int) ∧ (0 : Int) ≤ (((att T814c (lnkd p3 p4 p7) p2).2).length : Int) ∧ (((att T814c (lnkd p3 p4 p7) p2).2).length : Int) ≤ (((att T814c (lnkd p3 p4 p7) p2).2).length : Int) ∧ (((att T814c (lnkd p3 p4 p7) p2).2).length : Int) = (((att T814c (lnkd p3 p4 p7) p2).2).length : Int) then
            if (((((att T814c (lnkd p3 p4 p7) p2).2).take (((att T814c (lnkd p3 p4 p7) p2).2).length : Int).toNat).drop (0 : Int).toNat).length + 1) * 48 ≤ 140737488355328 then
              some (((lnkd p3 p4 p7).set p2.toNat ((att T814c (lnkd p3 p4 p7) p2).1, (((((att T814c (lnkd p3 p4 p7) p2).2).take (((att T814c (lnkd p3 p4 p7) p2).2).length : Int).toNat).drop (0 : Int).toNat) ++ [p6]))), ((0 : Int), ()))
            else none
          else none
        else none
      else none
    else
      none
theorem j2_ok {r} {k p1 p2 p3 p4 p5 p6 p7} (H : j2 k p1 p2 p3 p4 p5 p6 p7 = some r) : Gw P 0 (Q r) (Px c0 63 []) (s2 p1 p2 p3 p4 p5 p6 p7) := by
  unfold j2 at H
  obtain ⟨y21, e22, H⟩ := of_bind H
  refine Rg V_ok 0 [(1, hr f_table_Size.S y21)] (ac (f_table_Size.rl e22) az) (by kernel_rfl) ?_
  rcases of_ite H with ⟨hb23, H⟩ | ⟨hb23, H⟩
  · refine C1 hb23 (by kernel_rfl) ?_
    refine Rg V_ok 0 [] az (by kernel_rfl) ?_
    refine FZ 3 (by kernel_rfl) ?_
    exact Lf (Eq.trans (by kernel_rfl) H)
  · refine C0 hb23 (by kernel_rfl) ?_
    refine Rg V_ok 0 [] az (by kernel_rfl) ?_
    rcases of_ite H with ⟨hb24, H⟩ | ⟨hb24, H⟩
    · refine C1 hb24 (by kernel_rfl) ?_
      refine FZ 3 (by kernel_rfl) ?_
      obtain ⟨n25, H⟩ := of_if H
      obtain ⟨n26, H⟩ := of_if H
      obtain ⟨n27, H⟩ := of_if H
      obtain ⟨n28, H⟩ := of_if H
      refine Rg V_ok 0 [(22, ho)] (ac n25 (ac n26 (ac n25 (ac n26 (ac n25 (ac n26 (ac n27 (ac n28 (ac n25 (ac n26 az)))))))))) (by kernel_rfl) ?_
      refine Rg V_ok 0 [] az (by kernel_rfl) ?_
      exact Lf (Eq.trans (by kernel_rfl) H)
    · refine C0 hb24 (by kernel_rfl) ?_
      cases H
noncomputable def j1 (k : Nat) (p1 : Int) (p2 : Bool) (p3 : List (Int × List T1383.T)) (p4 : Nat) (p5 : Int) (p6 : T1383.T) (p7 : List T1383.T) : Option R :=
  if p2 = true then
  some ((lnkd p3 p4 p7), ((1 : Int), ()))
else
  (f_table_at.f k (lnkd p3 p4 p7) p5).bind fun y9 =>
    if (decide (y9.1 < (p3.length : Int))) = true then
      if 0 ≤ y9.1 then
        if y9.1 < (p3.length : Int) then
          if y9.1 = (p4 : Int) then
            (i_table_first_Rule_7cf.f k p3 p4 p5 p6 p7).bind fun y15 =>
              if y9.1 = (y15.2.2.1 : Int) then
                if (decide (y15.1 < (y15.2.2.2.2.2.1.length : Int))) = true then
                  if 0 ≤ y15.1 then
                    if y15.1 < (y15.2.2.2.2.2.1.length : Int) then
                      some ((lnkd y15.2.1 y15.2.2.1 (y15.2.2.2.2.2.1.set y15.1.toNat y15.2.2.2.2.1)), ((0 : Int), ()))
                    else none
                  else none
                else
                  j2 k p1 y9.1 y15.2.1 y15.2.2.1 y15.2.2.2.1 y15.2.2.2.2.1 y15.2.2.2.2.2.1
              else none
          else none
        else none
      else none
    else
      j2 k p1 y9.1 p3 p4 p5 p6 p7
theorem j1_ok {r} {k p1 p2 p3 p4 p5 p6 p7} (H : j1 k p1 p2 p3 p4 p5 p6 p7 = some r) : Gw P 0 (Q r) (Px c0 27 []) (s1 p1 p2 p3 p4 p5 p6 p7) := by
  unfold j1 at H
  rcases of_ite H with ⟨hb8, H⟩ | ⟨hb8, H⟩
  · refine C1 hb8 (by kernel_rfl) ?_
    refine Rg V_ok 0 [] az (by kernel_rfl) ?_
    refine FZ 3 (by kernel_rfl) ?_
    exact Lf (Eq.trans (by kernel_rfl) H)
  · refine C0 hb8 (by kernel_rfl) ?_
    obtain ⟨y9, e10, H⟩ := of_bind H
    refine Rg V_ok 0 [(2, hr f_table_at.S y9)] (ac (f_table_at.rl e10) az) (by kernel_rfl) ?_
    refine Rg V_ok 0 [] az (by kernel_rfl) ?_
    rcases of_ite H with ⟨hb11, H⟩ | ⟨hb11, H⟩
    · refine C1 hb11 (by kernel_rfl) ?_
      obtain ⟨n12, H⟩ := of_if H
      obtain ⟨n13, H⟩ := of_if H
      refine Rg V_ok 0 [] (ac n12 (ac n13 az)) (by kernel_rfl) ?_
      refine GT {live := [0, 3, 5, 6, 10, 11], src := [some 0, some 1, some 2, some 3]} (by kernel_rfl) (RI (by kernel_rfl) ?_)
      obtain ⟨n14, H⟩ := of_if H
      refine EV V_ok 0 [] 5 (ac n14 az) (by kernel_rfl) ?_
      obtain ⟨y15, e16, H⟩ := of_bind H
      refine CL V_ok i_table_first_Rule_7cf.at_ (i_table_first_Rule_7cf.ok e16) (by kernel_rfl) (by kernel_rfl) (by kernel_rfl) ?_
      refine EV V_ok 0 [] 1 az (by kernel_rfl) ?_
      refine RN (by kernel_rfl) (by kernel_rfl) ?_
      obtain ⟨n17, H⟩ := of_if H
      refine Rg V_ok 0 [] (ac n17 az) (by kernel_rfl) ?_
      rcases of_ite H with ⟨hb18, H⟩ | ⟨hb18, H⟩
      · refine C1 hb18 (by kernel_rfl) ?_
        obtain ⟨n19, H⟩ := of_if H
        obtain ⟨n20, H⟩ := of_if H
        refine Rg V_ok 0 [] (ac n17 (ac n19 (ac n20 az))) (by kernel_rfl) ?_
        refine Rg V_ok 0 [] az (by kernel_rfl) ?_
        refine FZ 3 (by kernel_rfl) ?_
        exact Lf (Eq.trans (by kernel_rfl) H)
      · refine C0 hb18 (by kernel_rfl) ?_
        exact Jm {fz := [], gr := 0, ad := [], live := [0, 3, 5, 6, 10], src := [some 0, some 1, some 2, some 3]} (by kernel_rfl) (by kernel_rfl) (j2_ok H)
    · refine C0 hb11 (by kernel_rfl) ?_
      exact Jm {fz := [], gr := 0, ad := [], live := [0, 3, 5, 6, 10], src := [some 0, some 1, some 2, some 3]} (by kernel_rfl) (by kernel_rfl) (j2_ok H)
noncomputable def s3 (p1 : Int) (p2 : Bool) (p3 : List T814c.T) (p4 : Int) (p5 : T1383.T) : St := ⟨107, [(0, .cv (.one (.own 0))), (3, .cv (.one (.int .i64 p1))), (5, .cv (.one (.ptr 1 0))), (6, .cv (.one (.ptr 2 0))), (26, .cv (.one (.bool p2)))], [(.buf 61 T814c p3, []), (.box 1, [.int .i64 p4]), (.box 6, (encC .any T1383 p5))]⟩
noncomputable def s4 (p1 : Int) (p2 : Int) (p3 : List T814c.T) (p4 : Int) (p5 : T1383.T) : St := ⟨107, [(0, .cv (.one (.own 0))), (3, .cv (.one (.int .i64 p1))), (5, .cv (.one (.ptr 1 0))), (6, .cv (.one (.ptr 2 0))), (10, .cv (.one (.int .i64 p2)))], [(.buf 61 T814c p3, []), (.box 1, [.int .i64 p4]), (.box 6, (encC .any T1383 p5))]⟩
noncomputable def j4 (k : Nat) (p1 : Int) (p2 : Int) (p3 : List T814c.T) (p4 : Int) (p5 : T1383.T) : Option R :=
  (f_table_Size.f k p3).bind fun y44 =>
  if (decide (y44.1 ≥ p1)) = true then
    some (p3, ((7 : Int), ()))
  else
    if (decide (p2 < (p3.length : Int))) = true then
      if 0 ≤ p2 then
        if p2 < (p3.length : Int) then
          if 0 ≤ (0 : Int) ∧ (0 : Int) ≤ (((att T814c p3 p2).2).length : Int) ∧ (((att T814c p3 p2).2).length : Int) ≤ (((att T814c p3 p2).2).length : Int) ∧ (((att T814c p3 p2).2).length : Int) = (((att T814c p3 p2).2).length : Int) then
            if (((((att T814c p3 p2).2).take (((att T814c p3 p2).2).length : Int).toNat).drop (0 : Int).toNat).length + 1) * 48 ≤ 140737488355328 then
              some ((p3.set p2.toNat ((att T814c p3 p2).1, (((((att T814c p3 p2).2).take (((att T814c p3 p2).2).length : Int).toNat).drop (0 : Int).toNat) ++ [p5]))), ((0 : Int), ()))
            else none
          else none
        else none
      else none
    else
      (i_table_first_Ver_d92.f k p3 p4 p5).bind fun y52 =>
        if 0 ≤ y52.1 ∧ y52.1 ≤ (y52.2.1.length : Int) ∧ 1 = 1 ∧ (y52.2.1.length + 1) * 32 ≤ 140737488355328 ∧ (0 : Nat) ≠ 3 then
          some ((y52.2.1.take y52.1.toNat ++ [(y52.2.2.1, [y52.2.2.2.1])] ++ y52.2.1.drop y52.1.toNat), ((0 : Int), ()))
        else none
theorem j4_ok {r} {k p1 p2 p3 p4 p5} (H : j4 k p1 p2 p3 p4 p5 = some r) : Gw P 0 (Q r) (Px c0 63 []) (s4 p1 p2 p3 p4 p5) := by
  unfold j4 at H
  obtain ⟨y44, e45, H⟩ := of_bind H
  refine Rg V_ok 0 [(1, hr f_table_Size.S y44)] (ac (f_table_Size.rl e45) az) (by kernel_rfl) ?_
  rcases of_ite H with ⟨hb46, H⟩ | ⟨hb46, H⟩
  · refine C1 hb46 (by kernel_rfl) ?_
    refine Rg V_ok 0 [] az (by kernel_rfl) ?_
    exact Lf (Eq.trans (by kernel_rfl) H)
  · refine C0 hb46 (by kernel_rfl) ?_
    refine Rg V_ok 0 [] az (by kernel_rfl) ?_
    rcases of_ite H with ⟨hb47, H⟩ | ⟨hb47, H⟩
    · refine C1 hb47 (by kernel_rfl) ?_
      obtain ⟨n48, H⟩ := of_if H
      obtain ⟨n49, H⟩ := of_if H
      obtain ⟨n50, H⟩ := of_if H
      obtain ⟨n51, H⟩ := of_if H
      refine Rg V_ok 0 [(22, ho)] (ac n48 (ac n49 (ac n48 (ac n49 (ac n48 (ac n49 (ac n50 (ac n51 (ac n48 (ac n49 az)))))))))) (by kernel_rfl) ?_
      refine Rg V_ok 0 [] az (by kernel_rfl) ?_
      exact Lf (Eq.trans (by kernel_rfl) H)
    · refine C0 hb47 (by kernel_rfl) ?_
      refine GT {live := [0, 5, 6], src := [some 0, some 1, some 2]} (by kernel_rfl) (RI (by kernel_rfl) ?_)
      refine EV V_ok 0 [] 2 az (by kernel_rfl) ?_
      obtain ⟨y52, e53, H⟩ := of_bind H
      refine CL V_ok i_table_first_Ver_d92.at_ (i_table_first_Ver_d92.ok e53) (by kernel_rfl) (by kernel_rfl) (by kernel_rfl) ?_
      refine EV V_ok 0 [] 1 az (by kernel_rfl) ?_
      refine RN (by kernel_rfl) (by kernel_rfl) ?_
      obtain ⟨n54, H⟩ := of_if H
      refine Rg V_ok 2 [(6, {sb := 3, bo := true}), (7, {sb := 4, ph := {sb := 4}})] (ac n54 az) (by kernel_rfl) ?_
      exact Lf (Eq.trans (by kernel_rfl) H)
noncomputable def j3 (k : Nat) (p1 : Int) (p2 : Bool) (p3 : List T814c.T) (p4 : Int) (p5 : T1383.T) : Option R :=
  if p2 = true then
  some (p3, ((1 : Int), ()))
else
  (f_table_at.f k p3 p4).bind fun y36 =>
    if (decide (y36.1 < (p3.length : Int))) = true then
      if 0 ≤ y36.1 then
        if y36.1 < (p3.length : Int) then
          (i_table_first_Rule_26b.f k ((att T814c p3 y36.1).2) p3 p4 p5).bind fun y41 =>
            if (decide (y41.1 < (((att T814c y41.2.1 y36.1).2).length : Int))) = true then
              none
            else
              j4 k p1 y36.1 y41.2.1 y41.2.2.1 y41.2.2.2.1
        else none
      else none
    else
      j4 k p1 y36.1 p3 p4 p5
theorem j3_ok {r} {k p1 p2 p3 p4 p5} (H : j3 k p1 p2 p3 p4 p5 = some r) : Gw P 0 (Q r) (Px c0 27 []) (s3 p1 p2 p3 p4 p5) := by
  unfold j3 at H
  rcases of_ite H with ⟨hb35, H⟩ | ⟨hb35, H⟩
  · refine C1 hb35 (by kernel_rfl) ?_
    refine Rg V_ok 0 [] az (by kernel_rfl) ?_
    exact Lf (Eq.trans (by kernel_rfl) H)
  · refine C0 hb35 (by kernel_rfl) ?_
    obtain ⟨y36, e37, H⟩ := of_bind H
    refine Rg V_ok 0 [(2, hr f_table_at.S y36)] (ac (f_table_at.rl e37) az) (by kernel_rfl) ?_
    refine Rg V_ok 0 [] az (by kernel_rfl) ?_
    rcases of_ite H with ⟨hb38, H⟩ | ⟨hb38, H⟩
    · refine C1 hb38 (by kernel_rfl) ?_
      obtain ⟨n39, H⟩ := of_if H
      obtain ⟨n40, H⟩ := of_if H
      refine Rg V_ok 0 [] (ac n39 (ac n40 az)) (by kernel_rfl) ?_
      refine GT {live := [0, 3, 5, 6, 10, 11], src := [some 0, some 1, some 2]} (by kernel_rfl) (RI (by kernel_rfl) ?_)
      refine EV V_ok 0 [] 5 az (by kernel_rfl) ?_
      obtain ⟨y41, e42, H⟩ := of_bind H
      refine CL V_ok i_table_first_Rule_26b.at_ (i_table_first_Rule_26b.ok e42) (by kernel_rfl) (by kernel_rfl) (by kernel_rfl) ?_
      refine EV V_ok 0 [] 1 az (by kernel_rfl) ?_
      refine RN (by kernel_rfl) (by kernel_rfl) ?_
      refine Rg V_ok 0 [] az (by kernel_rfl) ?_
      rcases of_ite H with ⟨hb43, H⟩ | ⟨hb43, H⟩
      · refine C1 hb43 (by kernel_rfl) ?_
        cases H
      · refine C0 hb43 (by kernel_rfl) ?_
        exact Jm {fz := [], gr := 0, ad := [], live := [0, 3, 5, 6, 10], src := [some 0, some 1, some 2]} (by kernel_rfl) (by kernel_rfl) (j4_ok H)
    · refine C0 hb38 (by kernel_rfl) ?_
      exact Jm {fz := [], gr := 0, ad := [], live := [0, 3, 5, 6, 10], src := [some 0, some 1, some 2]} (by kernel_rfl) (by kernel_rfl) (j4_ok H)
noncomputable def f (k : Nat) (a1 : List T814c.T) (a2 : Int) (a3 : T1383.T) (a4 : Int) : Option R :=
  (f_table_at.f k a1 a2).bind fun y1 =>
    if 0 ≤ y1.1 ∧ y1.1.toNat < a1.length then
      if y1.1.toNat < a1.length ∧ lnkFit 32 48 a1 = true then
        (f_rule_May.f k a3).bind fun y5 =>
          if (!y5.1) = true then
            j1 k a4 true a1 y1.1.toNat a2 a3 ((att T814c a1 (y1.1.toNat : Int)).2)
          else
            if (decide (a2 < (1 : Int))) = true then
              j1 k a4 true a1 y1.1.toNat a2 a3 ((att T814c a1 (y1.1.toNat : Int)).2)
            else
              j1 k a4 (decide (a2 > (4095 : Int))) a1 y1.1.toNat a2 a3 ((att T814c a1 (y1.1.toNat : Int)).2)
      else none
    else
      (i_table_own_6f4.f k a1 a2 a3).bind fun y30 =>
        (f_rule_May.f k y30.2.1).bind fun y32 =>
          if (!y32.1) = true then
            j3 k a4 true y30.2.2.1 y30.1 y30.2.1
          else
            if (decide (y30.1 < (1 : Int))) = true then
              j3 k a4 true y30.2.2.1 y30.1 y30.2.1
            else
              j3 k a4 (decide (y30.1 > (4095 : Int))) y30.2.2.1 y30.1 y30.2.1
noncomputable def S : Spec := ⟨ps, rs, .any, none, fun x r => ∃ k, f k x.1 x.2.1 x.2.2.1 x.2.2.2.1 = some r⟩
theorem rl {k a1 a2 a3 a4 r} (e : f k a1 a2 a3 a4 = some r) : S.rel (a1, a2, a3, a4, ()) r := ⟨k, e⟩
theorem f_ok {r k a1 a2 a3 a4} (H : f k a1 a2 a3 a4 = some r) : Gw P 0 (Q r) (Px c0 1 []) (⟨107, [(0, .cv (.one (.sl T814c a1 .any))), (1, .cv (.one (.int .i64 a2))), (2, .cv (.agg (encC .any T1383 a3))), (3, .cv (.one (.int .i64 a4)))], []⟩) := by
  unfold f at H
  obtain ⟨y1, e2, H⟩ := of_bind H
  rcases of_ifx H with ⟨hb3, H⟩ | ⟨hb3, H⟩
  · refine Rg V_ok 2 [(0, hb 0), (1, hb 1)] az (by kernel_rfl) ?_
    obtain ⟨n4, H⟩ := of_if H
    refine Rg V_ok 2 [(1, {ph := {sb := 2, sb2 := 3, i := y1.1.toNat}})] (ac n4 az) (by kernel_rfl) ?_
    obtain ⟨y5, e6, H⟩ := of_bind H
    rcases of_ite H with ⟨hb7, H⟩ | ⟨hb7, H⟩
    · refine Rg V_ok 0 [(1, hr f_rule_May.S y5), (2, {bv := some true})] (ac (f_rule_May.rl e6) (ac hb7 az)) (by kernel_rfl) ?_
      exact Jm {fz := [], gr := 0, ad := [], live := [0, 3, 5, 6, 26], src := [some 2, some 0, some 1, some 3]} (by kernel_rfl) (by kernel_rfl) (j1_ok H)
    · rcases of_ite H with ⟨hb29, H⟩ | ⟨hb29, H⟩
      · refine Rg V_ok 0 [(1, hr f_rule_May.S y5), (2, {bv := some false}), (6, {bv := some true})] (ac (f_rule_May.rl e6) (ac hb7 (ac hb29 az))) (by kernel_rfl) ?_
        exact Jm {fz := [], gr := 0, ad := [], live := [0, 3, 5, 6, 26], src := [some 2, some 0, some 1, some 3]} (by kernel_rfl) (by kernel_rfl) (j1_ok H)
      · refine Rg V_ok 0 [(1, hr f_rule_May.S y5), (2, {bv := some false}), (6, {bv := some false})] (ac (f_rule_May.rl e6) (ac hb7 (ac hb29 az))) (by kernel_rfl) ?_
        exact Jm {fz := [], gr := 0, ad := [], live := [0, 3, 5, 6, 26], src := [some 2, some 0, some 1, some 3]} (by kernel_rfl) (by kernel_rfl) (j1_ok H)
  · refine Rg V_ok 2 [(0, hb 0), (1, hb 1)] az (by kernel_rfl) ?_
    refine GT {live := [0, 3, 5, 6], src := [some 0, some 1]} (by kernel_rfl) (RI (by kernel_rfl) ?_)
    refine EV V_ok 0 [] 1 az (by kernel_rfl) ?_
    obtain ⟨y30, e31, H⟩ := of_bind H
    refine CL V_ok i_table_own_6f4.at_ (i_table_own_6f4.ok e31) (by kernel_rfl) (by kernel_rfl) (by kernel_rfl) ?_
    refine EV V_ok 0 [] 1 az (by kernel_rfl) ?_
    refine RN (by kernel_rfl) (by kernel_rfl) ?_
    obtain ⟨y32, e33, H⟩ := of_bind H
    rcases of_ite H with ⟨hb34, H⟩ | ⟨hb34, H⟩
    · refine Rg V_ok 0 [(1, hr f_rule_May.S y32), (2, {bv := some true})] (ac (f_rule_May.rl e33) (ac hb34 az)) (by kernel_rfl) ?_
      exact Jm {fz := [], gr := 0, ad := [], live := [0, 3, 5, 6, 26], src := [some 2, some 0, some 1]} (by kernel_rfl) (by kernel_rfl) (j3_ok H)
    · rcases of_ite H with ⟨hb55, H⟩ | ⟨hb55, H⟩
      · refine Rg V_ok 0 [(1, hr f_rule_May.S y32), (2, {bv := some false}), (6, {bv := some true})] (ac (f_rule_May.rl e33) (ac hb34 (ac hb55 az))) (by kernel_rfl) ?_
        exact Jm {fz := [], gr := 0, ad := [], live := [0, 3, 5, 6, 26], src := [some 2, some 0, some 1]} (by kernel_rfl) (by kernel_rfl) (j3_ok H)
      · refine Rg V_ok 0 [(1, hr f_rule_May.S y32), (2, {bv := some false}), (6, {bv := some false})] (ac (f_rule_May.rl e33) (ac hb34 (ac hb55 az))) (by kernel_rfl) ?_
        exact Jm {fz := [], gr := 0, ad := [], live := [0, 3, 5, 6, 26], src := [some 2, some 0, some 1]} (by kernel_rfl) (by kernel_rfl) (j3_ok H)
theorem fits : Fits P 18 S := fits_of V_ok Go.Proofs.Tryd.func18 (by kernel_rfl) (by decide) (by decide) rfl (fun x r ⟨k, H⟩ => of_G (f_ok H))
end f_table_Put
/-! ### function 30, wayfinder/sess.Take -/
namespace f_sess_Take
noncomputable def c0 : Code := (Go.Proofs.Tryd.f30.body).getD .skip
abbrev ps : Sg := [(false, (.int .i64)), (false, (.int .i64)), (true, T4414)]
abbrev rs : Sg := [(false, (.int .i64))]
noncomputable def V : Env := { tt := tt, Γ := slk [] }
theorem V_ok : EnvOk P V := { ck := tt_ck, fits := slk_nil, mixed := mixed }
abbrev R := Tup rs
noncomputable abbrev Q (r : R) : Exit → St → Prop := Qr tt Go.Proofs.Tryd.f30.results ⟨ps, rs, .any, none, fun _ _ => True⟩ r
noncomputable def f (k : Nat) (a1 : Int) (a2 : Int) (a3 : T4414.T) : Option R :=
  if (a3.2.1 != a1) = true then
    some ((8 : Int), ())
  else
    if (decide (a3.2.2.1 ≤ a2)) = true then
      some ((6 : Int), ())
    else
      if (decide ((IntKind.i64.wrap (a3.2.2.1 - 1)) > a2)) = true then
        some ((3 : Int), ())
      else
        some ((0 : Int), ())
noncomputable def S : Spec := ⟨ps, rs, .any, none, fun x r => ∃ k, f k x.1 x.2.1 x.2.2.1 = some r⟩
theorem rl {k a1 a2 a3 r} (e : f k a1 a2 a3 = some r) : S.rel (a1, a2, a3, ()) r := ⟨k, e⟩
theorem f_ok {r k a1 a2 a3} (H : f k a1 a2 a3 = some r) : Gw P 0 (Q r) (Px c0 1 []) (⟨23, [(0, .cv (.one (.int .i64 a1))), (1, .cv (.one (.int .i64 a2))), (2, .cv (.agg (encC .any T4414 a3)))], []⟩) := by
  unfold f at H
  refine Rg V_ok 1 [(0, hb 0)] az (by kernel_rfl) ?_
  refine Rg V_ok 0 [] az (by kernel_rfl) ?_
  rcases of_ite H with ⟨hb1, H⟩ | ⟨hb1, H⟩
  · refine C1 hb1 (by kernel_rfl) ?_
    refine Rg V_ok 0 [] az (by kernel_rfl) ?_
    exact Lf (Eq.trans (by kernel_rfl) H)
  · refine C0 hb1 (by kernel_rfl) ?_
    refine Rg V_ok 0 [] az (by kernel_rfl) ?_
    rcases of_ite H with ⟨hb2, H⟩ | ⟨hb2, H⟩
    · refine C1 hb2 (by kernel_rfl) ?_
      refine Rg V_ok 0 [] az (by kernel_rfl) ?_
      exact Lf (Eq.trans (by kernel_rfl) H)
    · refine C0 hb2 (by kernel_rfl) ?_
      refine Rg V_ok 0 [] az (by kernel_rfl) ?_
      rcases of_ite H with ⟨hb3, H⟩ | ⟨hb3, H⟩
      · refine C1 hb3 (by kernel_rfl) ?_
        refine Rg V_ok 0 [] az (by kernel_rfl) ?_
        exact Lf (Eq.trans (by kernel_rfl) H)
      · refine C0 hb3 (by kernel_rfl) ?_
        refine Rg V_ok 0 [] az (by kernel_rfl) ?_
        exact Lf (Eq.trans (by kernel_rfl) H)
theorem fits : Fits P 30 S := fits_of V_ok Go.Proofs.Tryd.func30 (by kernel_rfl) (by decide) (by decide) rfl (fun x r ⟨k, H⟩ => of_G (f_ok H))
end f_sess_Take
/-! ### function 11, wayfinder/agent.Hail -/
namespace f_agent_Hail
noncomputable def c0 : Code := (Go.Proofs.Tryd.f11.body).getD .skip
abbrev ps : Sg := [(true, Tf20b)]
abbrev rs : Sg := [(false, (.slice (.int .u8)))]
noncomputable def V : Env := { tt := tt, Γ := slk [(9, f_frame_Seal.S)] }
theorem V_ok : EnvOk P V := { ck := tt_ck, fits := slk_cons f_frame_Seal.fits (slk_nil), mixed := mixed }
abbrev R := Tup rs
noncomputable abbrev Q (r : R) : Exit → St → Prop := Qr tt Go.Proofs.Tryd.f11.results ⟨ps, rs, .any, none, fun _ _ => True⟩ r
noncomputable def f (k : Nat) (a1 : Tf20b.T) : Option R :=
  (f_frame_Seal.f k (0, (a1.1, (0, (0, ((0, 0), (0, (0, (0, 0))))))))).bind fun y1 =>
    some (y1.1, ())
noncomputable def S : Spec := ⟨ps, rs, .any, none, fun x r => ∃ k, f k x.1 = some r⟩
theorem rl {k a1 r} (e : f k a1 = some r) : S.rel (a1, ()) r := ⟨k, e⟩
theorem f_ok {r k a1} (H : f k a1 = some r) : Gw P 0 (Q r) (Px c0 1 []) (⟨13, [(0, .cv (.agg (encC .any Tf20b a1)))], []⟩) := by
  unfold f at H
  refine Rg V_ok 1 [(0, hb 0)] az (by kernel_rfl) ?_
  obtain ⟨y1, e2, H⟩ := of_bind H
  refine Rg V_ok 0 [(3, hr f_frame_Seal.S y1)] (ac (f_frame_Seal.rl e2) az) (by kernel_rfl) ?_
  refine Rg V_ok 0 [] az (by kernel_rfl) ?_
  exact Lf (Eq.trans (by kernel_rfl) H)
theorem fits : Fits P 11 S := fits_of V_ok Go.Proofs.Tryd.func11 (by kernel_rfl) (by decide) (by decide) rfl (fun x r ⟨k, H⟩ => of_G (f_ok H))
end f_agent_Hail
/-! ### function 31, wayfinder/agent.frames -/
namespace f_agent_frames
noncomputable def c0 : Code := (Go.Proofs.Tryd.f31.body).getD .skip
abbrev ps : Sg := [(false, (.slice (.int .u8)))]
abbrev rs : Sg := [(false, (.slice (.slice (.int .u8))))]
noncomputable def V : Env := { tt := tt, Γ := slk [] }
theorem V_ok : EnvOk P V := { ck := tt_ck, fits := slk_nil, mixed := mixed }
abbrev R := Tup rs
noncomputable abbrev Q (r : R) : Exit → St → Prop := Qr tt Go.Proofs.Tryd.f31.results ⟨ps, rs, .any, none, fun _ _ => True⟩ r
noncomputable def f (k : Nat) (a1 : List Int) : Option R :=
  if 0 < a1.length then
    some ([a1], ())
  else none
noncomputable def S : Spec := ⟨ps, rs, .any, none, fun x r => ∃ k, f k x.1 = some r⟩
theorem rl {k a1 r} (e : f k a1 = some r) : S.rel (a1, ()) r := ⟨k, e⟩
theorem f_ok {r k a1} (H : f k a1 = some r) : Gw P 0 (Q r) (Px c0 1 []) (⟨7, [(0, .cv (.one (.sl (.int .u8) a1 .any)))], []⟩) := by
  unfold f at H
  refine Rg V_ok 0 [] az (by kernel_rfl) ?_
  obtain ⟨n1, H⟩ := of_if H
  refine Rg V_ok 0 [] (ac n1 az) (by kernel_rfl) ?_
  refine C0 rfl (by kernel_rfl) ?_
  refine Rg V_ok 0 [] az (by kernel_rfl) ?_
  exact Lf (Eq.trans (by kernel_rfl) H)
theorem fits : Fits P 31 S := fits_of V_ok Go.Proofs.Tryd.func31 (by kernel_rfl) (by decide) (by decide) rfl (fun x r ⟨k, H⟩ => of_G (f_ok H))
end f_agent_frames
end Go.Proofs.YthfdkmbijjkmaaaDoor.V
