/- Functions of the program, as Lean functions, and that the code answers so. Printed by vgen.py. -/
import Derived.Test.YthfdkmbijjkmaaaDoorVF4
namespace Go.Proofs.YthfdkmbijjkmaaaDoor.V
open Go Go.RowKit
set_option linter.unusedVariables false
set_option linter.unusedSimpArgs false
set_option maxRecDepth 100000
set_option maxHeartbeats 4000000
/-! ### function 6, wayfinder/wayfinderlaw20.PlanSyncs -/
namespace f_law20_PlanSyncs
noncomputable def c0 : Code := (Go.Proofs.Tryd.f6.body).getD .skip
abbrev ps : Sg := [(false, (.slice T814c)), (false, (.int .i64))]
abbrev rs : Sg := [(false, .bool)]
noncomputable def V : Env := { tt := tt, Γ := slk [(9, f_frame_Seal.S), (10, f_agent_Handle.S), (13, f_agent_Restart.S), (15, f_agent_New.S), (16, f_sess_New.S), (20, f_ref08_Same.S), (21, f_law20_awake.S), (22, f_rule_May.S), (23, f_rule_Alike.S), (24, f_plan_Push.S), (25, f_plan_Sync.S)] }
theorem V_ok : EnvOk P V := { ck := tt_ck, fits := slk_cons f_frame_Seal.fits (slk_cons f_agent_Handle.fits (slk_cons f_agent_Restart.fits (slk_cons f_agent_New.fits (slk_cons f_sess_New.fits (slk_cons f_ref08_Same.fits (slk_cons f_law20_awake.fits (slk_cons f_rule_May.fits (slk_cons f_rule_Alike.fits (slk_cons f_plan_Push.fits (slk_cons f_plan_Sync.fits (slk_nil))))))))))), mixed := mixed }
abbrev R := Tup rs
noncomputable abbrev Q (r : R) : Exit → St → Prop := Qr tt Go.Proofs.Tryd.f6.results ⟨ps, rs, .any, none, fun _ _ => True⟩ r
noncomputable def s1 (p1 : List T814c.T) (p2 : Int) (p3 : Bool) (p4 : Bool) : St := ⟨235, [(0, .cv (.one (.sl T814c p1 .any))), (1, .cv (.one (.int .i64 p2))), (5, .cv (.one (.bool p3))), (34, .cv (.one (.bool p4)))], []⟩
noncomputable def s2 (p1 : List T814c.T) (p2 : Int) (p3 : Int) : St := ⟨235, [(0, .cv (.one (.sl T814c p1 .any))), (1, .cv (.one (.int .i64 p2))), (6, .cv (.one (.int .i64 p3)))], []⟩
noncomputable def s3 (p1 : List T814c.T) (p2 : Int) (p3 : Int) (p4 : Bool) : St := ⟨235, [(0, .cv (.one (.sl T814c p1 .any))), (1, .cv (.one (.int .i64 p2))), (6, .cv (.one (.int .i64 p3))), (82, .cv (.one (.bool p4)))], []⟩
noncomputable def s4 (p1 : List T814c.T) (p2 : Int) (p3 : Int) (p4 : Int) : St := ⟨235, [(0, .cv (.one (.sl T814c p1 .any))), (1, .cv (.one (.int .i64 p2))), (6, .cv (.one (.int .i64 p3))), (7, .cv (.one (.int .i64 p4)))], []⟩
noncomputable def s5 (p1 : List T814c.T) (p2 : Int) (p3 : Int) (p4 : Int) (p5 : Int) : St := ⟨235, [(0, .cv (.one (.sl T814c p1 .any))), (1, .cv (.one (.int .i64 p2))), (6, .cv (.one (.int .i64 p3))), (7, .cv (.one (.int .i64 p4))), (8, .cv (.one (.int .i64 p5)))], []⟩
noncomputable def b5 (L2 : List T814c.T → Int → Int → Option R) (L4 : List T814c.T → Int → Int → Int → Option R) (L5 : List T814c.T → Int → Int → Int → Int → Option R) (k : Nat) (p1 : List T814c.T) (p2 : Int) (p3 : Int) (p4 : Int) (p5 : Int) : Option R :=
  if (decide (p5 < p4)) = true then
  if 0 ≤ p3 then
    if p3 < (p1.length : Int) then
      if 0 ≤ p4 then
        if p4 < (((att T814c p1 p3).2).length : Int) then
          if 0 ≤ p5 then
            if p5 < (((att T814c p1 p3).2).length : Int) then
              (f_rule_Alike.f k (att T1383 ((att T814c p1 p3).2) p4) (att T1383 ((att T814c p1 p3).2) p5)).bind fun y19 =>
                if y19.1 = true then
                  some (true, ())
                else
                  L5 p1 p2 p3 p4 (IntKind.i64.wrap (p5 + 1))
            else none
          else none
        else none
      else none
    else none
  else none
else
  L4 p1 p2 p3 (IntKind.i64.wrap (p4 + 1))
theorem b5_ok {r} {L2 : List T814c.T → Int → Int → Option R} {m2 : Nat} (hL2 : ∀ p1 p2 p3, L2 p1 p2 p3 = some r → Gw P 0 (Q r) (Pb c0 87 [] m2) (s2 p1 p2 p3)) {L4 : List T814c.T → Int → Int → Int → Option R} {m4 : Nat} (hL4 : ∀ p1 p2 p3 p4, L4 p1 p2 p3 p4 = some r → Gw P 0 (Q r) (Pb c0 11415 [m2] m4) (s4 p1 p2 p3 p4)) {L5 : List T814c.T → Int → Int → Int → Int → Option R} {m5 : Nat} (hL5 : ∀ p1 p2 p3 p4 p5, L5 p1 p2 p3 p4 p5 = some r → Gw P 0 (Q r) (Pb c0 1461399 [m2, m4] m5) (s5 p1 p2 p3 p4 p5)) {k p1 p2 p3 p4 p5} (H : b5 L2 L4 L5 k p1 p2 p3 p4 p5 = some r) : Gw P 0 (Q r) (Px c0 2509975 [m2, m4, m5]) (s5 p1 p2 p3 p4 p5) := by
  unfold b5 at H
  refine Rg V_ok 0 [] az (by kernel_rfl) ?_
  rcases of_ite H with ⟨hb18, H⟩ | ⟨hb18, H⟩
  · refine C1 hb18 (by kernel_rfl) ?_
    obtain ⟨n20, H⟩ := of_if H
    obtain ⟨n21, H⟩ := of_if H
    obtain ⟨n22, H⟩ := of_if H
    obtain ⟨n23, H⟩ := of_if H
    obtain ⟨n24, H⟩ := of_if H
    obtain ⟨n25, H⟩ := of_if H
    obtain ⟨y19, e26, H⟩ := of_bind H
    refine Rg V_ok 0 [(16, hr f_rule_Alike.S y19)] (ac n20 (ac n21 (ac n22 (ac n23 (ac n20 (ac n21 (ac n24 (ac n25 (ac (f_rule_Alike.rl e26) az))))))))) (by kernel_rfl) ?_
    rcases of_ite H with ⟨hb27, H⟩ | ⟨hb27, H⟩
    · refine C1 hb27 (by kernel_rfl) ?_
      refine Rg V_ok 0 [] az (by kernel_rfl) ?_
      exact Lf (Eq.trans (by kernel_rfl) H)
    · refine C0 hb27 (by kernel_rfl) ?_
      refine Rg V_ok 0 [] az (by kernel_rfl) ?_
      exact Jm {fz := [], gr := 0, ad := [], live := [0, 1, 6, 7, 8], src := []} (by kernel_rfl) (by kernel_rfl) (hL5 p1 p2 p3 p4 (IntKind.i64.wrap (p5 + 1)) H)
  · refine C0 hb18 (by kernel_rfl) ?_
    refine Rg V_ok 0 [] az (by kernel_rfl) ?_
    exact Jm {fz := [], gr := 0, ad := [], live := [0, 1, 6, 7], src := []} (by kernel_rfl) (by kernel_rfl) (hL4 p1 p2 p3 (IntKind.i64.wrap (p4 + 1)) H)
noncomputable def l5 (L2 : List T814c.T → Int → Int → Option R) (L4 : List T814c.T → Int → Int → Int → Option R) (k : Nat) : Nat → List T814c.T → Int → Int → Int → Int → Option R
  | 0, _, _, _, _, _ => none
  | m + 1, p1, p2, p3, p4, p5 => b5 L2 L4 (l5 L2 L4 k m) k p1 p2 p3 p4 p5
theorem l5_ok {r} {L2 : List T814c.T → Int → Int → Option R} {m2 : Nat} (hL2 : ∀ p1 p2 p3, L2 p1 p2 p3 = some r → Gw P 0 (Q r) (Pb c0 87 [] m2) (s2 p1 p2 p3)) {L4 : List T814c.T → Int → Int → Int → Option R} {m4 : Nat} (hL4 : ∀ p1 p2 p3 p4, L4 p1 p2 p3 p4 = some r → Gw P 0 (Q r) (Pb c0 11415 [m2] m4) (s4 p1 p2 p3 p4)) (k : Nat) : ∀ (m5 : Nat) (p1 : List T814c.T) (p2 : Int) (p3 : Int) (p4 : Int) (p5 : Int), l5 L2 L4 k m5 p1 p2 p3 p4 p5 = some r → Gw P 0 (Q r) (Pb c0 1461399 [m2, m4] m5) (s5 p1 p2 p3 p4 p5)
  | 0, _, _, _, _, _, H => by cases H
  | m5 + 1, p1, p2, p3, p4, p5, H => SU (by kernel_rfl) (b5_ok hL2 hL4 (l5_ok hL2 hL4 k m5) H)
noncomputable def b4 (L2 : List T814c.T → Int → Int → Option R) (L4 : List T814c.T → Int → Int → Int → Option R) (k : Nat) (p1 : List T814c.T) (p2 : Int) (p3 : Int) (p4 : Int) : Option R :=
  if 0 ≤ p3 then
  if p3 < (p1.length : Int) then
    if (decide (p4 < (((att T814c p1 p3).2).length : Int))) = true then
      if 0 ≤ p4 then
        if p4 < (((att T814c p1 p3).2).length : Int) then
          (f_rule_May.f k (att T1383 ((att T814c p1 p3).2) p4)).bind fun y13 =>
            if (!y13.1) = true then
              some (true, ())
            else
              l5 L2 L4 k k p1 p2 p3 p4 0
        else none
      else none
    else
      L2 p1 p2 (IntKind.i64.wrap (p3 + 1))
  else none
else none
theorem b4_ok {r} {L2 : List T814c.T → Int → Int → Option R} {m2 : Nat} (hL2 : ∀ p1 p2 p3, L2 p1 p2 p3 = some r → Gw P 0 (Q r) (Pb c0 87 [] m2) (s2 p1 p2 p3)) {L4 : List T814c.T → Int → Int → Int → Option R} {m4 : Nat} (hL4 : ∀ p1 p2 p3 p4, L4 p1 p2 p3 p4 = some r → Gw P 0 (Q r) (Pb c0 11415 [m2] m4) (s4 p1 p2 p3 p4)) {k p1 p2 p3 p4} (H : b4 L2 L4 k p1 p2 p3 p4 = some r) : Gw P 0 (Q r) (Px c0 19607 [m2, m4]) (s4 p1 p2 p3 p4) := by
  unfold b4 at H
  obtain ⟨n10, H⟩ := of_if H
  obtain ⟨n11, H⟩ := of_if H
  refine Rg V_ok 0 [] (ac n10 (ac n11 az)) (by kernel_rfl) ?_
  rcases of_ite H with ⟨hb12, H⟩ | ⟨hb12, H⟩
  · refine C1 hb12 (by kernel_rfl) ?_
    obtain ⟨n14, H⟩ := of_if H
    obtain ⟨n15, H⟩ := of_if H
    obtain ⟨y13, e16, H⟩ := of_bind H
    refine Rg V_ok 0 [(8, hr f_rule_May.S y13)] (ac n10 (ac n11 (ac n14 (ac n15 (ac (f_rule_May.rl e16) az))))) (by kernel_rfl) ?_
    rcases of_ite H with ⟨hb17, H⟩ | ⟨hb17, H⟩
    · refine C1 hb17 (by kernel_rfl) ?_
      refine Rg V_ok 0 [] az (by kernel_rfl) ?_
      exact Lf (Eq.trans (by kernel_rfl) H)
    · refine C0 hb17 (by kernel_rfl) ?_
      refine Rg V_ok 0 [] az (by kernel_rfl) ?_
      exact LP k (Jm {fz := [], gr := 0, ad := [], live := [0, 1, 6, 7, 8], src := []} (by kernel_rfl) (by kernel_rfl) (l5_ok hL2 hL4 k k p1 p2 p3 p4 0 H))
  · refine C0 hb12 (by kernel_rfl) ?_
    refine Rg V_ok 0 [] az (by kernel_rfl) ?_
    exact Jm {fz := [], gr := 0, ad := [], live := [0, 1, 6], src := []} (by kernel_rfl) (by kernel_rfl) (hL2 p1 p2 (IntKind.i64.wrap (p3 + 1)) H)
noncomputable def l4 (L2 : List T814c.T → Int → Int → Option R) (k : Nat) : Nat → List T814c.T → Int → Int → Int → Option R
  | 0, _, _, _, _ => none
  | m + 1, p1, p2, p3, p4 => b4 L2 (l4 L2 k m) k p1 p2 p3 p4
theorem l4_ok {r} {L2 : List T814c.T → Int → Int → Option R} {m2 : Nat} (hL2 : ∀ p1 p2 p3, L2 p1 p2 p3 = some r → Gw P 0 (Q r) (Pb c0 87 [] m2) (s2 p1 p2 p3)) (k : Nat) : ∀ (m4 : Nat) (p1 : List T814c.T) (p2 : Int) (p3 : Int) (p4 : Int), l4 L2 k m4 p1 p2 p3 p4 = some r → Gw P 0 (Q r) (Pb c0 11415 [m2] m4) (s4 p1 p2 p3 p4)
  | 0, _, _, _, _, H => by cases H
  | m4 + 1, p1, p2, p3, p4, H => SU (by kernel_rfl) (b4_ok hL2 (l4_ok hL2 k m4) H)
noncomputable def j3 (L2 : List T814c.T → Int → Int → Option R) (k : Nat) (p1 : List T814c.T) (p2 : Int) (p3 : Int) (p4 : Bool) : Option R :=
  if p4 = true then
  some (true, ())
else
  l4 L2 k k p1 p2 p3 0
theorem j3_ok {r} {L2 : List T814c.T → Int → Int → Option R} {m2 : Nat} (hL2 : ∀ p1 p2 p3, L2 p1 p2 p3 = some r → Gw P 0 (Q r) (Pb c0 87 [] m2) (s2 p1 p2 p3)) {k p1 p2 p3 p4} (H : j3 L2 k p1 p2 p3 p4 = some r) : Gw P 0 (Q r) (Px c0 6295 [m2]) (s3 p1 p2 p3 p4) := by
  unfold j3 at H
  rcases of_ite H with ⟨hb9, H⟩ | ⟨hb9, H⟩
  · refine C1 hb9 (by kernel_rfl) ?_
    refine Rg V_ok 0 [] az (by kernel_rfl) ?_
    exact Lf (Eq.trans (by kernel_rfl) H)
  · refine C0 hb9 (by kernel_rfl) ?_
    refine Rg V_ok 0 [] az (by kernel_rfl) ?_
    exact LP k (Jm {fz := [], gr := 0, ad := [], live := [0, 1, 6, 7], src := []} (by kernel_rfl) (by kernel_rfl) (l4_ok hL2 k k p1 p2 p3 0 H))
noncomputable def s6 (p1 : List T814c.T) (p2 : Int) (p3 : Int) (p4 : Tf20b.T) (p5 : Tb104.T) : St := ⟨235, [(0, .cv (.one (.sl T814c p1 .any))), (1, .cv (.one (.int .i64 p2))), (9, .cv (.one (.ptr 0 0))), (10, .cv (.one (.ptr 1 0))), (11, .cv (.one (.int .i64 p3)))], [(.box 7, (encC .any Tf20b p4)), (.box 3, (encC .any Tb104 p5))]⟩
noncomputable def s7 (p1 : List T814c.T) (p2 : Int) (p3 : Int) (p4 : Int) (p5 : Tf20b.T) (p6 : Tb104.T) : St := ⟨235, [(0, .cv (.one (.sl T814c p1 .any))), (1, .cv (.one (.int .i64 p2))), (9, .cv (.one (.ptr 0 0))), (10, .cv (.one (.ptr 1 0))), (16, .cv (.one (.int .i64 p3))), (17, .cv (.one (.int .i64 p4)))], [(.box 7, (encC .any Tf20b p5)), (.box 3, (encC .any Tb104 p6))]⟩
noncomputable def s9 (p1 : List T814c.T) (p2 : Int) (p3 : Int) (p4 : Int) (p5 : Tf20b.T) (p6 : Tb104.T) : St := ⟨235, [(0, .cv (.one (.sl T814c p1 .any))), (1, .cv (.one (.int .i64 p2))), (9, .cv (.one (.ptr 0 0))), (10, .cv (.one (.ptr 1 0))), (16, .cv (.one (.int .i64 p3))), (17, .cv (.one (.int .i64 p4)))], [(.box 7, (encC .any Tf20b p5)), (.box 3, (encC .any Tb104 p6))]⟩
noncomputable def j9 (L7 : List T814c.T → Int → Int → Int → Tf20b.T → Tb104.T → Option R) (k : Nat) (p1 : List T814c.T) (p2 : Int) (p3 : Int) (p4 : Int) (p5 : Tf20b.T) (p6 : Tb104.T) : Option R :=
  L7 p1 p2 p3 (IntKind.i64.wrap (p4 + 1)) p5 p6
theorem j9_ok {r} {L7 : List T814c.T → Int → Int → Int → Tf20b.T → Tb104.T → Option R} {m7 : Nat} (hL7 : ∀ p1 p2 p3 p4 p5 p6, L7 p1 p2 p3 p4 p5 p6 = some r → Gw P 0 (Q r) (Pb c0 2815 [] m7) (s7 p1 p2 p3 p4 p5 p6)) {k p1 p2 p3 p4 p5 p6} (H : j9 L7 k p1 p2 p3 p4 p5 p6 = some r) : Gw P 0 (Q r) (Px c0 29439 [m7]) (s9 p1 p2 p3 p4 p5 p6) := by
  unfold j9 at H
  refine Rg V_ok 0 [] az (by kernel_rfl) ?_
  exact Jm {fz := [], gr := 0, ad := [], live := [0, 1, 9, 10, 16, 17], src := [some 0, some 1]} (by kernel_rfl) (by kernel_rfl) (hL7 p1 p2 p3 (IntKind.i64.wrap (p4 + 1)) p5 p6 H)
noncomputable def s8 (p1 : List T814c.T) (p2 : Int) (p3 : Int) (p4 : Int) (p5 : Bool) (p6 : Tf20b.T) (p7 : Tb104.T) : St := ⟨235, [(0, .cv (.one (.sl T814c p1 .any))), (1, .cv (.one (.int .i64 p2))), (9, .cv (.one (.ptr 0 0))), (10, .cv (.one (.ptr 1 0))), (16, .cv (.one (.int .i64 p3))), (17, .cv (.one (.int .i64 p4))), (190, .cv (.one (.bool p5)))], [(.box 7, (encC .any Tf20b p6)), (.box 3, (encC .any Tb104 p7))]⟩
noncomputable def j8 (L7 : List T814c.T → Int → Int → Int → Tf20b.T → Tb104.T → Option R) (k : Nat) (p1 : List T814c.T) (p2 : Int) (p3 : Int) (p4 : Int) (p5 : Bool) (p6 : Tf20b.T) (p7 : Tb104.T) : Option R :=
  if p5 = true then
  some (false, ())
else
  if 0 ≤ p3 then
    if p3 < (p6.2.2.2.2.2.1.length : Int) then
      if 0 ≤ p4 then
        if p4 < (p1.length : Int) then
          (f_ref08_Same.f k ((att T814c p6.2.2.2.2.2.1 p3).2) ((att T814c p1 p4).2)).bind fun y57 =>
            if (!y57.1) = true then
              some (false, ())
            else
              j9 L7 k p1 p2 (IntKind.i64.wrap (p3 + 1)) p4 p6 p7
        else none
      else none
    else none
  else none
theorem j8_ok {r} {L7 : List T814c.T → Int → Int → Int → Tf20b.T → Tb104.T → Option R} {m7 : Nat} (hL7 : ∀ p1 p2 p3 p4 p5 p6, L7 p1 p2 p3 p4 p5 p6 = some r → Gw P 0 (Q r) (Pb c0 2815 [] m7) (s7 p1 p2 p3 p4 p5 p6)) {k p1 p2 p3 p4 p5 p6 p7} (H : j8 L7 k p1 p2 p3 p4 p5 p6 p7 = some r) : Gw P 0 (Q r) (Px c0 430847 [m7]) (s8 p1 p2 p3 p4 p5 p6 p7) := by
  unfold j8 at H
  rcases of_ite H with ⟨hb56, H⟩ | ⟨hb56, H⟩
  · refine C1 hb56 (by kernel_rfl) ?_
    refine Rg V_ok 0 [] az (by kernel_rfl) ?_
    exact Lf (Eq.trans (by kernel_rfl) H)
  · refine C0 hb56 (by kernel_rfl) ?_
    obtain ⟨n58, H⟩ := of_if H
    obtain ⟨n59, H⟩ := of_if H
    obtain ⟨n60, H⟩ := of_if H
    obtain ⟨n61, H⟩ := of_if H
    obtain ⟨y57, e62, H⟩ := of_bind H
    refine Rg V_ok 0 [(11, hr f_ref08_Same.S y57)] (ac n58 (ac n59 (ac n60 (ac n61 (ac (f_ref08_Same.rl e62) az))))) (by kernel_rfl) ?_
    refine Rg V_ok 0 [] az (by kernel_rfl) ?_
    rcases of_ite H with ⟨hb63, H⟩ | ⟨hb63, H⟩
    · refine C1 hb63 (by kernel_rfl) ?_
      refine Rg V_ok 0 [] az (by kernel_rfl) ?_
      exact Lf (Eq.trans (by kernel_rfl) H)
    · refine C0 hb63 (by kernel_rfl) ?_
      refine Rg V_ok 0 [] az (by kernel_rfl) ?_
      exact Jm {fz := [], gr := 0, ad := [], live := [0, 1, 9, 10, 16, 17], src := [some 0, some 1]} (by kernel_rfl) (by kernel_rfl) (j9_ok hL7 H)
noncomputable def b7 (L7 : List T814c.T → Int → Int → Int → Tf20b.T → Tb104.T → Option R) (k : Nat) (p1 : List T814c.T) (p2 : Int) (p3 : Int) (p4 : Int) (p5 : Tf20b.T) (p6 : Tb104.T) : Option R :=
  if (decide (p4 < (p1.length : Int))) = true then
  if 0 ≤ p4 then
    if p4 < (p1.length : Int) then
      if ((((att T814c p1 p4).2).length : Int) == (0 : Int)) = true then
        j9 L7 k p1 p2 p3 p4 p5 p6
      else
        if (decide (p3 ≥ (p5.2.2.2.2.2.1.length : Int))) = true then
          j8 L7 k p1 p2 p3 p4 true p5 p6
        else
          if 0 ≤ p3 then
            if p3 < (p5.2.2.2.2.2.1.length : Int) then
              j8 L7 k p1 p2 p3 p4 (((att T814c p5.2.2.2.2.2.1 p3).1) != ((att T814c p1 p4).1)) p5 p6
            else none
          else none
    else none
  else none
else
  if (p3 == (p5.2.2.2.2.2.1.length : Int)) = true then
    if p5.2.2.1 = true then
      if (p5.2.2.2.1 == p2) = true then
        if (p5.2.2.2.2.1 == (0 : Int)) = true then
          some ((p5.2.1 == (p6.2.2.length : Int)), ())
        else
          some (false, ())
      else
        some (false, ())
    else
      some (false, ())
  else
    some (false, ())
theorem b7_ok {r} {L7 : List T814c.T → Int → Int → Int → Tf20b.T → Tb104.T → Option R} {m7 : Nat} (hL7 : ∀ p1 p2 p3 p4 p5 p6, L7 p1 p2 p3 p4 p5 p6 = some r → Gw P 0 (Q r) (Pb c0 2815 [] m7) (s7 p1 p2 p3 p4 p5 p6)) {k p1 p2 p3 p4 p5 p6} (H : b7 L7 k p1 p2 p3 p4 p5 p6 = some r) : Gw P 0 (Q r) (Px c0 4863 [m7]) (s7 p1 p2 p3 p4 p5 p6) := by
  unfold b7 at H
  refine Rg V_ok 0 [] az (by kernel_rfl) ?_
  rcases of_ite H with ⟨hb51, H⟩ | ⟨hb51, H⟩
  · refine C1 hb51 (by kernel_rfl) ?_
    obtain ⟨n52, H⟩ := of_if H
    obtain ⟨n53, H⟩ := of_if H
    refine Rg V_ok 0 [] (ac n52 (ac n53 az)) (by kernel_rfl) ?_
    rcases of_ite H with ⟨hb54, H⟩ | ⟨hb54, H⟩
    · refine C1 hb54 (by kernel_rfl) ?_
      exact Jm {fz := [], gr := 0, ad := [], live := [0, 1, 9, 10, 16, 17], src := [some 0, some 1]} (by kernel_rfl) (by kernel_rfl) (j9_ok hL7 H)
    · refine C0 hb54 (by kernel_rfl) ?_
      rcases of_ite H with ⟨hb55, H⟩ | ⟨hb55, H⟩
      · refine Rg V_ok 0 [(4, {bv := some true})] (ac hb55 az) (by kernel_rfl) ?_
        exact Jm {fz := [], gr := 0, ad := [], live := [0, 1, 9, 10, 16, 17, 190], src := [some 0, some 1]} (by kernel_rfl) (by kernel_rfl) (j8_ok hL7 H)
      · obtain ⟨n64, H⟩ := of_if H
        obtain ⟨n65, H⟩ := of_if H
        refine Rg V_ok 0 [(4, {bv := some false})] (ac hb55 (ac n64 (ac n65 (ac n52 (ac n53 az))))) (by kernel_rfl) ?_
        exact Jm {fz := [], gr := 0, ad := [], live := [0, 1, 9, 10, 16, 17, 190], src := [some 0, some 1]} (by kernel_rfl) (by kernel_rfl) (j8_ok hL7 H)
  · refine C0 hb51 (by kernel_rfl) ?_
    rcases of_ite H with ⟨hb66, H⟩ | ⟨hb66, H⟩
    · rcases of_ite H with ⟨hb67, H⟩ | ⟨hb67, H⟩
      · rcases of_ite H with ⟨hb68, H⟩ | ⟨hb68, H⟩
        · rcases of_ite H with ⟨hb69, H⟩ | ⟨hb69, H⟩
          · refine Rg V_ok 0 [(4, {bv := some true}), (8, {bv := some true}), (14, {bv := some true}), (19, {bv := some true})] (ac hb66 (ac hb67 (ac hb68 (ac hb69 az)))) (by kernel_rfl) ?_
            exact Lf (Eq.trans (by kernel_rfl) H)
          · refine Rg V_ok 0 [(4, {bv := some true}), (8, {bv := some true}), (14, {bv := some true}), (19, {bv := some false})] (ac hb66 (ac hb67 (ac hb68 (ac hb69 az)))) (by kernel_rfl) ?_
            exact Lf (Eq.trans (by kernel_rfl) H)
        · refine Rg V_ok 0 [(4, {bv := some true}), (8, {bv := some true}), (14, {bv := some false})] (ac hb66 (ac hb67 (ac hb68 az))) (by kernel_rfl) ?_
          exact Lf (Eq.trans (by kernel_rfl) H)
      · refine Rg V_ok 0 [(4, {bv := some true}), (8, {bv := some false})] (ac hb66 (ac hb67 az)) (by kernel_rfl) ?_
        exact Lf (Eq.trans (by kernel_rfl) H)
    · refine Rg V_ok 0 [(4, {bv := some false})] (ac hb66 az) (by kernel_rfl) ?_
      exact Lf (Eq.trans (by kernel_rfl) H)
noncomputable def l7 (k : Nat) : Nat → List T814c.T → Int → Int → Int → Tf20b.T → Tb104.T → Option R
  | 0, _, _, _, _, _, _ => none
  | m + 1, p1, p2, p3, p4, p5, p6 => b7 (l7 k m) k p1 p2 p3 p4 p5 p6
theorem l7_ok {r} (k : Nat) : ∀ (m7 : Nat) (p1 : List T814c.T) (p2 : Int) (p3 : Int) (p4 : Int) (p5 : Tf20b.T) (p6 : Tb104.T), l7 k m7 p1 p2 p3 p4 p5 p6 = some r → Gw P 0 (Q r) (Pb c0 2815 [] m7) (s7 p1 p2 p3 p4 p5 p6)
  | 0, _, _, _, _, _, _, H => by cases H
  | m7 + 1, p1, p2, p3, p4, p5, p6, H => SU (by kernel_rfl) (b7_ok (l7_ok k m7) H)
noncomputable def b6 (L6 : List T814c.T → Int → Int → Tf20b.T → Tb104.T → Option R) (k : Nat) (p1 : List T814c.T) (p2 : Int) (p3 : Int) (p4 : Tf20b.T) (p5 : Tb104.T) : Option R :=
  if (decide (p3 < (p5.2.2.length : Int))) = true then
  if 0 ≤ p3 then
    if p3 < (p5.2.2.length : Int) then
      (f_frame_Seal.f k (att T4414 p5.2.2 p3)).bind fun y44 =>
        if (y44.2.1 != (0 : Int)) = true then
          some (false, ())
        else
          (f_agent_Handle.f k p4 y44.1 (1000 : Int)).bind fun y49 =>
            L6 p1 p2 (IntKind.i64.wrap (p3 + 1)) y49.1 p5
    else none
  else none
else
  l7 k k p1 p2 0 0 p4 p5
theorem b6_ok {r} {L6 : List T814c.T → Int → Int → Tf20b.T → Tb104.T → Option R} {m6 : Nat} (hL6 : ∀ p1 p2 p3 p4 p5, L6 p1 p2 p3 p4 p5 = some r → Gw P 0 (Q r) (Pb c0 703 [] m6) (s6 p1 p2 p3 p4 p5)) {k p1 p2 p3 p4 p5} (H : b6 L6 k p1 p2 p3 p4 p5 = some r) : Gw P 0 (Q r) (Px c0 1215 [m6]) (s6 p1 p2 p3 p4 p5) := by
  unfold b6 at H
  refine Rg V_ok 0 [] az (by kernel_rfl) ?_
  rcases of_ite H with ⟨hb43, H⟩ | ⟨hb43, H⟩
  · refine C1 hb43 (by kernel_rfl) ?_
    obtain ⟨n45, H⟩ := of_if H
    obtain ⟨n46, H⟩ := of_if H
    obtain ⟨y44, e47, H⟩ := of_bind H
    refine Rg V_ok 0 [(5, hr f_frame_Seal.S y44)] (ac n45 (ac n46 (ac (f_frame_Seal.rl e47) az))) (by kernel_rfl) ?_
    refine Rg V_ok 0 [] az (by kernel_rfl) ?_
    rcases of_ite H with ⟨hb48, H⟩ | ⟨hb48, H⟩
    · refine C1 hb48 (by kernel_rfl) ?_
      refine Rg V_ok 0 [] az (by kernel_rfl) ?_
      exact Lf (Eq.trans (by kernel_rfl) H)
    · refine C0 hb48 (by kernel_rfl) ?_
      obtain ⟨y49, e50, H⟩ := of_bind H
      refine Rg V_ok 1 [(2, hr f_agent_Handle.S y49), (6, hb 2)] (ac (f_agent_Handle.rl e50) az) (by kernel_rfl) ?_
      refine Rg V_ok 0 [] az (by kernel_rfl) ?_
      refine Rg V_ok 0 [] az (by kernel_rfl) ?_
      exact Jm {fz := [], gr := 0, ad := [], live := [0, 1, 9, 10, 11], src := [some 0, some 1]} (by kernel_rfl) (by kernel_rfl) (hL6 p1 p2 (IntKind.i64.wrap (p3 + 1)) y49.1 p5 H)
  · refine C0 hb43 (by kernel_rfl) ?_
    refine Rg V_ok 0 [] az (by kernel_rfl) ?_
    refine Rg V_ok 0 [] az (by kernel_rfl) ?_
    exact LP k (Jm {fz := [], gr := 0, ad := [], live := [0, 1, 9, 10, 16, 17], src := [some 0, some 1]} (by kernel_rfl) (by kernel_rfl) (l7_ok k k p1 p2 0 0 p4 p5 H))
noncomputable def l6 (k : Nat) : Nat → List T814c.T → Int → Int → Tf20b.T → Tb104.T → Option R
  | 0, _, _, _, _, _ => none
  | m + 1, p1, p2, p3, p4, p5 => b6 (l6 k m) k p1 p2 p3 p4 p5
theorem l6_ok {r} (k : Nat) : ∀ (m6 : Nat) (p1 : List T814c.T) (p2 : Int) (p3 : Int) (p4 : Tf20b.T) (p5 : Tb104.T), l6 k m6 p1 p2 p3 p4 p5 = some r → Gw P 0 (Q r) (Pb c0 703 [] m6) (s6 p1 p2 p3 p4 p5)
  | 0, _, _, _, _, _, H => by cases H
  | m6 + 1, p1, p2, p3, p4, p5, H => SU (by kernel_rfl) (b6_ok (l6_ok k m6) H)
noncomputable def b2 (L2 : List T814c.T → Int → Int → Option R) (k : Nat) (p1 : List T814c.T) (p2 : Int) (p3 : Int) : Option R :=
  if (decide (p3 < (p1.length : Int))) = true then
  if 0 ≤ p3 then
    if p3 < (p1.length : Int) then
      if (decide ((((att T814c p1 p3).2).length : Int) > (20 : Int))) = true then
        j3 L2 k p1 p2 p3 true
      else
        if (decide (((att T814c p1 p3).1) < (1 : Int))) = true then
          j3 L2 k p1 p2 p3 true
        else
          if (decide (((att T814c p1 p3).1) > (4095 : Int))) = true then
            j3 L2 k p1 p2 p3 true
          else
            if (decide (p3 > (0 : Int))) = true then
              if 0 ≤ (IntKind.i64.wrap (p3 - 1)) then
                if (IntKind.i64.wrap (p3 - 1)) < (p1.length : Int) then
                  j3 L2 k p1 p2 p3 (decide (((att T814c p1 p3).1) ≤ ((att T814c p1 (IntKind.i64.wrap (p3 - 1))).1)))
                else none
              else none
            else
              j3 L2 k p1 p2 p3 false
    else none
  else none
else
  (f_agent_New.f k).bind fun y33 =>
    (f_agent_Restart.f k y33.1).bind fun y34 =>
      (f_sess_New.f k y34.1.1).bind fun y37 =>
        (f_plan_Sync.f k p1 p2).bind fun y38 =>
          (f_plan_Push.f k y37.1 y38.1).bind fun y39 =>
            l6 k k p1 p2 0 y34.1 y39.1
theorem b2_ok {r} {L2 : List T814c.T → Int → Int → Option R} {m2 : Nat} (hL2 : ∀ p1 p2 p3, L2 p1 p2 p3 = some r → Gw P 0 (Q r) (Pb c0 87 [] m2) (s2 p1 p2 p3)) {k p1 p2 p3} (H : b2 L2 k p1 p2 p3 = some r) : Gw P 0 (Q r) (Px c0 151 [m2]) (s2 p1 p2 p3) := by
  unfold b2 at H
  refine Rg V_ok 0 [] az (by kernel_rfl) ?_
  rcases of_ite H with ⟨hb5, H⟩ | ⟨hb5, H⟩
  · refine C1 hb5 (by kernel_rfl) ?_
    obtain ⟨n6, H⟩ := of_if H
    obtain ⟨n7, H⟩ := of_if H
    rcases of_ite H with ⟨hb8, H⟩ | ⟨hb8, H⟩
    · refine Rg V_ok 0 [(6, {bv := some true})] (ac n6 (ac n7 (ac hb8 az))) (by kernel_rfl) ?_
      exact Jm {fz := [], gr := 0, ad := [], live := [0, 1, 6, 82], src := []} (by kernel_rfl) (by kernel_rfl) (j3_ok hL2 H)
    · rcases of_ite H with ⟨hb28, H⟩ | ⟨hb28, H⟩
      · refine Rg V_ok 0 [(6, {bv := some false}), (14, {bv := some true})] (ac n6 (ac n7 (ac hb8 (ac n6 (ac n7 (ac hb28 az)))))) (by kernel_rfl) ?_
        exact Jm {fz := [], gr := 0, ad := [], live := [0, 1, 6, 82], src := []} (by kernel_rfl) (by kernel_rfl) (j3_ok hL2 H)
      · rcases of_ite H with ⟨hb29, H⟩ | ⟨hb29, H⟩
        · refine Rg V_ok 0 [(6, {bv := some false}), (14, {bv := some false}), (22, {bv := some true})] (ac n6 (ac n7 (ac hb8 (ac n6 (ac n7 (ac hb28 (ac n6 (ac n7 (ac hb29 az))))))))) (by kernel_rfl) ?_
          exact Jm {fz := [], gr := 0, ad := [], live := [0, 1, 6, 82], src := []} (by kernel_rfl) (by kernel_rfl) (j3_ok hL2 H)
        · rcases of_ite H with ⟨hb30, H⟩ | ⟨hb30, H⟩
          · obtain ⟨n31, H⟩ := of_if H
            obtain ⟨n32, H⟩ := of_if H
            refine Rg V_ok 0 [(6, {bv := some false}), (14, {bv := some false}), (22, {bv := some false}), (25, {bv := some true})] (ac n6 (ac n7 (ac hb8 (ac n6 (ac n7 (ac hb28 (ac n6 (ac n7 (ac hb29 (ac hb30 (ac n6 (ac n7 (ac n31 (ac n32 az)))))))))))))) (by kernel_rfl) ?_
            exact Jm {fz := [], gr := 0, ad := [], live := [0, 1, 6, 82], src := []} (by kernel_rfl) (by kernel_rfl) (j3_ok hL2 H)
          · refine Rg V_ok 0 [(6, {bv := some false}), (14, {bv := some false}), (22, {bv := some false}), (25, {bv := some false})] (ac n6 (ac n7 (ac hb8 (ac n6 (ac n7 (ac hb28 (ac n6 (ac n7 (ac hb29 (ac hb30 az)))))))))) (by kernel_rfl) ?_
            exact Jm {fz := [], gr := 0, ad := [], live := [0, 1, 6, 82], src := []} (by kernel_rfl) (by kernel_rfl) (j3_ok hL2 H)
  · refine C0 hb5 (by kernel_rfl) ?_
    obtain ⟨y33, e35, H⟩ := of_bind H
    obtain ⟨y34, e36, H⟩ := of_bind H
    refine Rg V_ok 1 [(0, hr f_agent_New.S y33), (1, hr f_agent_Restart.S y34), (2, hb 0)] (ac (f_agent_New.rl e35) (ac (f_agent_Restart.rl e36) az)) (by kernel_rfl) ?_
    obtain ⟨y37, e40, H⟩ := of_bind H
    obtain ⟨y38, e41, H⟩ := of_bind H
    obtain ⟨y39, e42, H⟩ := of_bind H
    refine Rg V_ok 1 [(2, hr f_sess_New.S y37), (5, hr f_plan_Sync.S y38), (6, hr f_plan_Push.S y39), (7, hb 1)] (ac (f_sess_New.rl e40) (ac (f_plan_Sync.rl e41) (ac (f_plan_Push.rl e42) az))) (by kernel_rfl) ?_
    refine Rg V_ok 0 [] az (by kernel_rfl) ?_
    exact LP k (Jm {fz := [], gr := 0, ad := [], live := [0, 1, 9, 10, 11], src := [some 0, some 1]} (by kernel_rfl) (by kernel_rfl) (l6_ok k k p1 p2 0 y34.1 y39.1 H))
noncomputable def l2 (k : Nat) : Nat → List T814c.T → Int → Int → Option R
  | 0, _, _, _ => none
  | m + 1, p1, p2, p3 => b2 (l2 k m) k p1 p2 p3
theorem l2_ok {r} (k : Nat) : ∀ (m2 : Nat) (p1 : List T814c.T) (p2 : Int) (p3 : Int), l2 k m2 p1 p2 p3 = some r → Gw P 0 (Q r) (Pb c0 87 [] m2) (s2 p1 p2 p3)
  | 0, _, _, _, H => by cases H
  | m2 + 1, p1, p2, p3, H => SU (by kernel_rfl) (b2_ok (l2_ok k m2) H)
noncomputable def j1 (k : Nat) (p1 : List T814c.T) (p2 : Int) (p3 : Bool) (p4 : Bool) : Option R :=
  if p4 = true then
  some (p3, ())
else
  l2 k k p1 p2 0
theorem j1_ok {r} {k p1 p2 p3 p4} (H : j1 k p1 p2 p3 p4 = some r) : Gw P 0 (Q r) (Px c0 27 []) (s1 p1 p2 p3 p4) := by
  unfold j1 at H
  rcases of_ite H with ⟨hb4, H⟩ | ⟨hb4, H⟩
  · refine C1 hb4 (by kernel_rfl) ?_
    refine Rg V_ok 0 [] az (by kernel_rfl) ?_
    exact Lf (Eq.trans (by kernel_rfl) H)
  · refine C0 hb4 (by kernel_rfl) ?_
    refine Rg V_ok 0 [] az (by kernel_rfl) ?_
    exact LP k (Jm {fz := [], gr := 0, ad := [], live := [0, 1, 6], src := []} (by kernel_rfl) (by kernel_rfl) (l2_ok k k p1 p2 0 H))
noncomputable def f (k : Nat) (a1 : List T814c.T) (a2 : Int) : Option R :=
  (f_law20_awake.f k).bind fun y1 =>
    if (!y1.1) = true then
      j1 k a1 a2 y1.1 true
    else
      if (decide ((a1.length : Int) > (6 : Int))) = true then
        j1 k a1 a2 y1.1 true
      else
        if (decide (a2 < (1 : Int))) = true then
          j1 k a1 a2 y1.1 true
        else
          j1 k a1 a2 y1.1 (decide (a2 > (4095 : Int)))
noncomputable def S : Spec := ⟨ps, rs, .any, none, fun x r => ∃ k, f k x.1 x.2.1 = some r⟩
theorem rl {k a1 a2 r} (e : f k a1 a2 = some r) : S.rel (a1, a2, ()) r := ⟨k, e⟩
theorem f_ok {r k a1 a2} (H : f k a1 a2 = some r) : Gw P 0 (Q r) (Px c0 1 []) (⟨235, [(0, .cv (.one (.sl T814c a1 .any))), (1, .cv (.one (.int .i64 a2)))], []⟩) := by
  unfold f at H
  refine Rg V_ok 0 [] az (by kernel_rfl) ?_
  obtain ⟨y1, e2, H⟩ := of_bind H
  refine Rg V_ok 0 [(0, hr f_law20_awake.S y1)] (ac (f_law20_awake.rl e2) az) (by kernel_rfl) ?_
  rcases of_ite H with ⟨hb3, H⟩ | ⟨hb3, H⟩
  · refine Rg V_ok 0 [(1, {bv := some true})] (ac hb3 az) (by kernel_rfl) ?_
    exact Jm {fz := [], gr := 0, ad := [], live := [0, 1, 5, 34], src := []} (by kernel_rfl) (by kernel_rfl) (j1_ok H)
  · rcases of_ite H with ⟨hb70, H⟩ | ⟨hb70, H⟩
    · refine Rg V_ok 0 [(1, {bv := some false}), (6, {bv := some true})] (ac hb3 (ac hb70 az)) (by kernel_rfl) ?_
      exact Jm {fz := [], gr := 0, ad := [], live := [0, 1, 5, 34], src := []} (by kernel_rfl) (by kernel_rfl) (j1_ok H)
    · rcases of_ite H with ⟨hb71, H⟩ | ⟨hb71, H⟩
      · refine Rg V_ok 0 [(1, {bv := some false}), (6, {bv := some false}), (10, {bv := some true})] (ac hb3 (ac hb70 (ac hb71 az))) (by kernel_rfl) ?_
        exact Jm {fz := [], gr := 0, ad := [], live := [0, 1, 5, 34], src := []} (by kernel_rfl) (by kernel_rfl) (j1_ok H)
      · refine Rg V_ok 0 [(1, {bv := some false}), (6, {bv := some false}), (10, {bv := some false})] (ac hb3 (ac hb70 (ac hb71 az))) (by kernel_rfl) ?_
        exact Jm {fz := [], gr := 0, ad := [], live := [0, 1, 5, 34], src := []} (by kernel_rfl) (by kernel_rfl) (j1_ok H)
theorem fits : Fits P 6 S := fits_of V_ok Go.Proofs.Tryd.func6 (by kernel_rfl) (by decide) (by decide) rfl (fun x r ⟨k, H⟩ => of_G (f_ok H))
end f_law20_PlanSyncs
end Go.Proofs.YthfdkmbijjkmaaaDoor.V
