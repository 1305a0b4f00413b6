/- Functions of the program, as Lean functions, and that the code answers so. Printed by vgen.py. -/
import Derived.Test.YtajddhechcneoaaVF1
namespace Go.Proofs.Ytajddhechcneoaa.V
open Go Go.RowKit
set_option linter.unusedVariables false
set_option linter.unusedSimpArgs false
set_option maxRecDepth 100000
set_option maxHeartbeats 4000000
/-! ### function 88, cmp.Compare[int] -/
namespace f_cmp_Compare_int
noncomputable def c0 : Code := (Go.Proofs.Try.f88.body).getD .skip
abbrev ps : Sg := [(false, (.int .i64)), (false, (.int .i64))]
abbrev rs : Sg := [(false, (.int .i64))]
noncomputable def V : Env := { tt := tt, Γ := slk [(98, f_cmp_isNaN_int.S)] }
theorem V_ok : EnvOk P V := { ck := tt_ck, fits := slk_cons f_cmp_isNaN_int.fits (slk_nil), mixed := mixed }
abbrev R := Tup rs
noncomputable abbrev Q (r : R) : Exit → St → Prop := Qr tt Go.Proofs.Try.f88.results ⟨ps, rs, .any, none, fun _ _ => True⟩ r
noncomputable def f (k : Nat) (a1 a2 : Int) : Option R :=
  (f_cmp_isNaN_int.f k a1).bind fun y1 =>
    (f_cmp_isNaN_int.f k a2).bind fun y3 =>
      if y1.1 = true then
        if y3.1 = true then
          some ((0 : Int), ())
        else
          some ((-1 : Int), ())
      else
        if y3.1 = true then
          some ((1 : Int), ())
        else
          if (decide (a1 < a2)) = true then
            some ((-1 : Int), ())
          else
            if (decide (a1 > a2)) = true then
              some ((1 : Int), ())
            else
              some ((0 : Int), ())
noncomputable def S : Spec := ⟨ps, rs, .any, none, fun x r => ∃ k, f k x.1 x.2.1 = some r⟩
theorem rl {k a1 a2 r} (e : f k a1 a2 = some r) : S.rel (a1, a2, ()) r := ⟨k, e⟩
theorem f_ok {r k a1 a2} (H : f k a1 a2 = some r) : Gw P 0 (Q r) (Px c0 1 []) (⟨20, [(0, .cv (.one (.i a1))), (1, .cv (.one (.i a2)))], []⟩) := by
  unfold f at H
  refine Rg V_ok 0 [] az ?_
  obtain ⟨y1, e2, H⟩ := of_bind H
  refine Rg V_ok 0 [(1, hr f_cmp_isNaN_int.S y1)] (ac (f_cmp_isNaN_int.rl e2) az) ?_
  obtain ⟨y3, e4, H⟩ := of_bind H
  refine Rg V_ok 0 [(1, hr f_cmp_isNaN_int.S y3)] (ac (f_cmp_isNaN_int.rl e4) az) ?_
  refine Rg V_ok 0 [] az ?_
  rcases of_ite H with ⟨hb5, H⟩ | ⟨hb5, H⟩
  · refine C1 hb5 ?_
    refine Rg V_ok 0 [] az ?_
    rcases of_ite H with ⟨hb6, H⟩ | ⟨hb6, H⟩
    · refine C1 hb6 ?_
      refine Rg V_ok 0 [] az ?_
      exact Lf (Eq.trans (by kernel_rfl) H)
    · refine C0 hb6 ?_
      refine Rg V_ok 0 [] az ?_
      exact Lf (Eq.trans (by kernel_rfl) H)
  · refine C0 hb5 ?_
    refine Rg V_ok 0 [] az ?_
    rcases of_ite H with ⟨hb7, H⟩ | ⟨hb7, H⟩
    · refine C1 hb7 ?_
      refine Rg V_ok 0 [] az ?_
      exact Lf (Eq.trans (by kernel_rfl) H)
    · refine C0 hb7 ?_
      refine Rg V_ok 0 [] az ?_
      rcases of_ite H with ⟨hb8, H⟩ | ⟨hb8, H⟩
      · refine C1 hb8 ?_
        refine Rg V_ok 0 [] az ?_
        exact Lf (Eq.trans (by kernel_rfl) H)
      · refine C0 hb8 ?_
        refine Rg V_ok 0 [] az ?_
        rcases of_ite H with ⟨hb9, H⟩ | ⟨hb9, H⟩
        · refine C1 hb9 ?_
          refine Rg V_ok 0 [] az ?_
          exact Lf (Eq.trans (by kernel_rfl) H)
        · refine C0 hb9 ?_
          refine Rg V_ok 0 [] az ?_
          exact Lf (Eq.trans (by kernel_rfl) H)
theorem fits : Fits P 88 S := fits_of V_ok Go.Proofs.Try.func88 (by kernel_rfl) (by decide) (by decide) rfl (fun x r ⟨k, H⟩ => of_G (f_ok H))
end f_cmp_Compare_int
/-! ### function 87, cmp.Or[int] -/
namespace f_cmp_Or_int
noncomputable def c0 : Code := (Go.Proofs.Try.f87.body).getD .skip
abbrev ps : Sg := [(false, (.slice (.int .i64)))]
abbrev rs : Sg := [(false, (.int .i64))]
noncomputable def V : Env := { tt := tt, Γ := slk [] }
theorem V_ok : EnvOk P V := { ck := tt_ck, fits := slk_nil, mixed := mixed }
abbrev R := Tup rs
noncomputable abbrev Q (r : R) : Exit → St → Prop := Qr tt Go.Proofs.Try.f87.results ⟨ps, rs, .any, none, fun _ _ => True⟩ r
noncomputable def s1 (p1 : Int) (p2 : List Int) (p3 p4 : Int) : St := ⟨18, [(3, .cv (.one (.i p1))), (6, .cv (.one (.sl (.int .i64) p2 .any))), (7, .cv (.one (.i p3))), (8, .cv (.one (.i p4)))], []⟩
noncomputable def b1 (L1 : Int → List Int → Int → Int → Option R) (k : Nat) (p1 : Int) (p2 : List Int) (p3 p4 : Int) : Option R :=
  if (decide (p4 < p3)) = true then
  if 0 ≤ p4 then
    if p4 < (p2.length : Int) then
      if ((att (.int .i64) p2 p4) != p1) = true then
        some ((att (.int .i64) p2 p4), ())
      else
        L1 p1 p2 p3 (IntKind.i64.wrap (p4 + 1))
    else none
  else none
else
  some (p1, ())
theorem b1_ok {r} {L1 : Int → List Int → Int → Int → Option R} {m1 : Nat} (hL1 : ∀ p1 p2 p3 p4, L1 p1 p2 p3 p4 = some r → Gw P 0 (Q r) (Pb c0 43 [] m1) (s1 p1 p2 p3 p4)) {k p1 p2 p3 p4} (H : b1 L1 k p1 p2 p3 p4 = some r) : Gw P 0 (Q r) (Px c0 75 [m1]) (s1 p1 p2 p3 p4) := by
  unfold b1 at H
  refine Rg V_ok 0 [] az ?_
  rcases of_ite H with ⟨hb1, H⟩ | ⟨hb1, H⟩
  · refine C1 hb1 ?_
    obtain ⟨n2, H⟩ := of_if H
    obtain ⟨n3, H⟩ := of_if H
    refine Rg V_ok 0 [] (ac n2 (ac n3 az)) ?_
    refine Rg V_ok 0 [] az ?_
    rcases of_ite H with ⟨hb4, H⟩ | ⟨hb4, H⟩
    · refine C1 hb4 ?_
      refine Rg V_ok 0 [] az ?_
      exact Lf (Eq.trans (by kernel_rfl) H)
    · refine C0 hb4 ?_
      refine Rg V_ok 0 [] az ?_
      exact Jm (tn [3, 6, 7, 8] 0) (hL1 p1 p2 p3 (IntKind.i64.wrap (p4 + 1)) H)
  · refine C0 hb1 ?_
    refine Rg V_ok 0 [] az ?_
    exact Lf (Eq.trans (by kernel_rfl) H)
noncomputable def l1 (k : Nat) : Nat → Int → List Int → Int → Int → Option R
  | 0, _, _, _, _ => none
  | m + 1, p1, p2, p3, p4 => b1 (l1 k m) k p1 p2 p3 p4
theorem l1_ok {r} (k : Nat) : ∀ (m1 : Nat) (p1 : Int) (p2 : List Int) (p3 : Int) (p4 : Int), l1 k m1 p1 p2 p3 p4 = some r → Gw P 0 (Q r) (Pb c0 43 [] m1) (s1 p1 p2 p3 p4)
  | 0, _, _, _, _, H => by cases H
  | m1 + 1, p1, p2, p3, p4, H => SU (by kernel_rfl) (b1_ok (l1_ok k m1) H)
noncomputable def f (k : Nat) (a1 : List Int) : Option R :=
  l1 k k 0 a1 (a1.length : Int) 0
noncomputable def S : Spec := ⟨ps, rs, .any, none, fun x r => ∃ k, f k x.1 = some r⟩
theorem rl {k a1 r} (e : f k a1 = some r) : S.rel (a1, ()) r := ⟨k, e⟩
theorem f_ok {r k a1} (H : f k a1 = some r) : Gw P 0 (Q r) (Px c0 1 []) (⟨18, [(0, .cv (.one (.sl (.int .i64) a1 .any)))], []⟩) := by
  unfold f at H
  refine Rg V_ok 0 [] az ?_
  refine Rg V_ok 0 [] az ?_
  refine Rg V_ok 0 [] az ?_
  exact LP k (Jm (tn [3, 6, 7, 8] 0) (l1_ok k k 0 a1 (a1.length : Int) 0 H))
theorem fits : Fits P 87 S := fits_of V_ok Go.Proofs.Try.func87 (by kernel_rfl) (by decide) (by decide) rfl (fun x r ⟨k, H⟩ => of_G (f_ok H))
end f_cmp_Or_int
end Go.Proofs.Ytajddhechcneoaa.V
