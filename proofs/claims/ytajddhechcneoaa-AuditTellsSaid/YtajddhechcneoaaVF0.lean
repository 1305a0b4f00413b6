/- Functions of the program, as Lean functions, and that the code answers so. Printed by vgen.py. -/
import Derived.Test.YtajddhechcneoaaVBase
namespace Go.Proofs.Ytajddhechcneoaa.V
open Go Go.RowKit
set_option linter.unusedVariables false
set_option linter.unusedSimpArgs false
set_option maxRecDepth 100000
set_option maxHeartbeats 4000000
/-! ### function 18, wayfinder/wayfinderlaw13.Two -/
namespace f_law13_Two
noncomputable def c0 : Code := (Go.Proofs.Try.f18.body).getD .skip
abbrev ps : Sg := []
abbrev rs : Sg := [(true, T5477), (false, (.slice (.slice T1383)))]
noncomputable def V : Env := { tt := tt, Γ := slk [] }
theorem V_ok : EnvOk P V := { ck := tt_ck, fits := slk_nil, mixed := mixed }
abbrev R := Tup rs
noncomputable abbrev Q (r : R) : Exit → St → Prop := Qr tt Go.Proofs.Try.f18.results ⟨ps, rs, .any, none, fun _ _ => True⟩ r
noncomputable def f (k : Nat) : Option R :=
  some ((2, (2, [(0, (1, (1, 0)))])), ([[((0, 0), (-1, (0, (1, 1))))], [((0, 0), (-1, (0, (1, 1))))]], ()))
noncomputable def S : Spec := ⟨ps, rs, .any, none, fun x r => ∃ k, f k = some r⟩
theorem rl {k r} (e : f k = some r) : S.rel (()) r := ⟨k, e⟩
theorem f_ok {r k} (H : f k = some r) : Gw P 0 (Q r) (Px c0 1 []) (⟨12, [], []⟩) := by
  unfold f at H
  refine Rg V_ok 1 [(0, hb 0)] az ?_
  refine Rg V_ok 0 [] az ?_
  refine Rg V_ok 0 [] az ?_
  exact Lf (Eq.trans (by kernel_rfl) H)
theorem fits : Fits P 18 S := fits_of V_ok Go.Proofs.Try.func18 (by kernel_rfl) (by decide) (by decide) rfl (fun x r ⟨k, H⟩ => of_G (f_ok H))
end f_law13_Two
/-! ### function 72, slices.Clone[[]wayfinder/api.Rule,wayfinder/api.Rule] -/
namespace f_slices_Clone_Rule
noncomputable def c0 : Code := (Go.Proofs.Try.f72.body).getD .skip
abbrev ps : Sg := [(false, (.slice T1383))]
abbrev rs : Sg := [(false, (.slice T1383))]
noncomputable def V : Env := { tt := tt, Γ := slk [] }
theorem V_ok : EnvOk P V := { ck := tt_ck, fits := slk_nil, mixed := mixed }
abbrev R := Tup rs
noncomputable abbrev Q (r : R) : Exit → St → Prop := Qr tt Go.Proofs.Try.f72.results ⟨ps, rs, .any, none, fun _ _ => True⟩ r
noncomputable def f (k : Nat) (a1 : List T1383.T) : Option R :=
  if (0 + a1.length) * 48 ≤ 140737488355328 then
    if 0 = 0 ∨ 0 < a1.length then
      some (([] ++ a1), ())
    else none
  else none
noncomputable def S : Spec := ⟨ps, rs, .any, none, fun x r => ∃ k, f k x.1 = some r⟩
theorem rl {k a1 r} (e : f k a1 = some r) : S.rel (a1, ()) r := ⟨k, e⟩
theorem f_ok {r k a1} (H : f k a1 = some r) : Gw P 0 (Q r) (Px c0 1 []) (⟨8, [(0, .cv (.one (.sl T1383 a1 .any)))], []⟩) := by
  unfold f at H
  refine Rg V_ok 0 [] az ?_
  refine NL (t := 0) (e := T1383) (xs := a1) (by kernel_rfl) (by kernel_rfl) (fun hx1 => ?_) ?_
  · subst hx1
    replace H := Eq.trans (by kernel_rfl : (some ([], ()) : Option R) = _) H
    refine Rg V_ok 0 [] az ?_
    refine C1 rfl ?_
    refine Rg V_ok 0 [] az ?_
    exact Lf (Eq.trans (by kernel_rfl) H)
  · refine Rg V_ok 0 [] az ?_
    refine C0 rfl ?_
    obtain ⟨n2, H⟩ := of_if H
    obtain ⟨n3, H⟩ := of_if H
    refine Rg V_ok 1 [(2, hb 0)] (ac n2 (ac n3 az)) ?_
    exact Lf (Eq.trans (by kernel_rfl) H)
theorem fits : Fits P 72 S := fits_of V_ok Go.Proofs.Try.func72 (by kernel_rfl) (by decide) (by decide) rfl (fun x r ⟨k, H⟩ => of_G (f_ok H))
end f_slices_Clone_Rule
/-! ### function 54, wayfinder/conf.At -/
namespace f_conf_At
noncomputable def c0 : Code := (Go.Proofs.Try.f54.body).getD .skip
abbrev ps : Sg := [(false, (.slice (.slice T1383))), (false, (.int .i64))]
abbrev rs : Sg := [(false, (.slice T1383))]
noncomputable def V : Env := { tt := tt, Γ := slk [(72, f_slices_Clone_Rule.S)] }
theorem V_ok : EnvOk P V := { ck := tt_ck, fits := slk_cons f_slices_Clone_Rule.fits (slk_nil), mixed := mixed }
abbrev R := Tup rs
noncomputable abbrev Q (r : R) : Exit → St → Prop := Qr tt Go.Proofs.Try.f54.results ⟨ps, rs, .any, none, fun _ _ => True⟩ r
noncomputable def s1 (a1 : List (List T1383.T)) (a2 : Int) (p3 : Bool) : St := ⟨18, [(0, .cv (.one (.sl (.slice T1383) a1 .any))), (1, .cv (.one (.i a2))), (12, .cv (.one (.bool p3)))], []⟩
noncomputable def j1 (a1 : List (List T1383.T)) (a2 : Int) (k : Nat) (p3 : Bool) : Option R :=
  if p3 = true then
  some ([], ())
else
  if 0 ≤ a2 then
    if a2 < (a1.length : Int) then
      (f_slices_Clone_Rule.f k (att (.slice T1383) a1 a2)).bind fun y3 =>
        some (y3.1, ())
    else none
  else none
theorem j1_ok {r a1 a2} {k p3} (H : j1 a1 a2 k p3 = some r) : Gw P 0 (Q r) (Px c0 13 []) (s1 a1 a2 p3) := by
  unfold j1 at H
  rcases of_ite H with ⟨hb2, H⟩ | ⟨hb2, H⟩
  · refine C1 hb2 ?_
    refine Rg V_ok 0 [] az ?_
    exact Lf (Eq.trans (by kernel_rfl) H)
  · refine C0 hb2 ?_
    obtain ⟨n4, H⟩ := of_if H
    obtain ⟨n5, H⟩ := of_if H
    obtain ⟨y3, e6, H⟩ := of_bind H
    refine Rg V_ok 0 [(4, hr f_slices_Clone_Rule.S y3)] (ac n4 (ac n5 (ac (f_slices_Clone_Rule.rl e6) az))) ?_
    exact Lf (Eq.trans (by kernel_rfl) H)
noncomputable def f (k : Nat) (a1 : List (List T1383.T)) (a2 : Int) : Option R :=
  if (decide (a2 < (0 : Int))) = true then
    j1 a1 a2 k true
  else
    j1 a1 a2 k (decide (a2 ≥ (a1.length : Int)))
noncomputable def S : Spec := ⟨ps, rs, .any, none, fun x r => ∃ k, f k x.1 x.2.1 = some r⟩
theorem rl {k a1 a2 r} (e : f k a1 a2 = some r) : S.rel (a1, a2, ()) r := ⟨k, e⟩
theorem f_ok {r k a1 a2} (H : f k a1 a2 = some r) : Gw P 0 (Q r) (Px c0 1 []) (⟨18, [(0, .cv (.one (.sl (.slice T1383) a1 .any))), (1, .cv (.one (.i a2)))], []⟩) := by
  unfold f at H
  refine Rg V_ok 0 [] az ?_
  rcases of_ite H with ⟨hb1, H⟩ | ⟨hb1, H⟩
  · refine Rg V_ok 0 [(1, {bv := some true})] (ac hb1 az) ?_
    exact Jm (tn [0, 1, 12] 0) (j1_ok H)
  · refine Rg V_ok 0 [(1, {bv := some false})] (ac hb1 az) ?_
    exact Jm (tn [0, 1, 12] 0) (j1_ok H)
theorem fits : Fits P 54 S := fits_of V_ok Go.Proofs.Try.func54 (by kernel_rfl) (by decide) (by decide) rfl (fun x r ⟨k, H⟩ => of_G (f_ok H))
end f_conf_At
/-! ### function 103, wayfinder/bits.bound -/
namespace f_bits_bound
noncomputable def c0 : Code := (Go.Proofs.Try.f103.body).getD .skip
abbrev ps : Sg := [(false, (.int .i64))]
abbrev rs : Sg := [(false, (.int .i64))]
noncomputable def V : Env := { tt := tt, Γ := slk [] }
theorem V_ok : EnvOk P V := { ck := tt_ck, fits := slk_nil, mixed := mixed }
abbrev R := Tup rs
noncomputable abbrev Q (r : R) : Exit → St → Prop := Qr tt Go.Proofs.Try.f103.results ⟨ps, rs, .any, none, fun _ _ => True⟩ r
noncomputable def f (k : Nat) (a1 : Int) : Option R :=
  some ((if 32 < (if 0 > a1 then 0 else a1) then 32 else (if 0 > a1 then 0 else a1)), ())
noncomputable def S : Spec := ⟨ps, rs, .any, none, fun x r => ∃ k, f k x.1 = some r⟩
theorem rl {k a1 r} (e : f k a1 = some r) : S.rel (a1, ()) r := ⟨k, e⟩
theorem f_ok {r k a1} (H : f k a1 = some r) : Gw P 0 (Q r) (Px c0 1 []) (⟨6, [(0, .cv (.one (.i a1)))], []⟩) := by
  unfold f at H
  refine Rg V_ok 0 [] az ?_
  refine Rg V_ok 0 [] az ?_
  exact Lf (Eq.trans (by kernel_rfl) H)
theorem fits : Fits P 103 S := fits_of V_ok Go.Proofs.Try.func103 (by kernel_rfl) (by decide) (by decide) rfl (fun x r ⟨k, H⟩ => of_G (f_ok H))
end f_bits_bound
/-! ### function 99, wayfinder/bits.Mask -/
namespace f_bits_Mask
noncomputable def c0 : Code := (Go.Proofs.Try.f99.body).getD .skip
abbrev ps : Sg := [(false, (.int .i64))]
abbrev rs : Sg := [(false, (.int .i64))]
noncomputable def V : Env := { tt := tt, Γ := slk [(103, f_bits_bound.S)] }
theorem V_ok : EnvOk P V := { ck := tt_ck, fits := slk_cons f_bits_bound.fits (slk_nil), mixed := mixed }
abbrev R := Tup rs
noncomputable abbrev Q (r : R) : Exit → St → Prop := Qr tt Go.Proofs.Try.f99.results ⟨ps, rs, .any, none, fun _ _ => True⟩ r
noncomputable def f (k : Nat) (a1 : Int) : Option R :=
  (f_bits_bound.f k a1).bind fun y1 =>
    if 0 ≤ (IntKind.i64.wrap (32 - y1.1)) then
      some ((IntKind.i64.wrap (IntKind.u32.wrap (IntKind.u64.wrap (4294967295 * (2 ^ (min (IntKind.i64.wrap (32 - y1.1)).toNat (IntKind.u64.bits))))))), ())
    else none
noncomputable def S : Spec := ⟨ps, rs, .any, none, fun x r => ∃ k, f k x.1 = some r⟩
theorem rl {k a1 r} (e : f k a1 = some r) : S.rel (a1, ()) r := ⟨k, e⟩
theorem f_ok {r k a1} (H : f k a1 = some r) : Gw P 0 (Q r) (Px c0 1 []) (⟨11, [(0, .cv (.one (.i a1)))], []⟩) := by
  unfold f at H
  refine Rg V_ok 0 [] az ?_
  obtain ⟨y1, e2, H⟩ := of_bind H
  obtain ⟨n3, H⟩ := of_if H
  refine Rg V_ok 0 [(1, hr f_bits_bound.S y1)] (ac (f_bits_bound.rl e2) (ac n3 az)) ?_
  refine Rg V_ok 0 [] az ?_
  exact Lf (Eq.trans (by kernel_rfl) H)
theorem fits : Fits P 99 S := fits_of V_ok Go.Proofs.Try.func99 (by kernel_rfl) (by decide) (by decide) rfl (fun x r ⟨k, H⟩ => of_G (f_ok H))
end f_bits_Mask
/-! ### function 95, wayfinder/bits.Cut -/
namespace f_bits_Cut
noncomputable def c0 : Code := (Go.Proofs.Try.f95.body).getD .skip
abbrev ps : Sg := [(false, (.int .i64)), (false, (.int .i64))]
abbrev rs : Sg := [(true, T713d)]
noncomputable def V : Env := { tt := tt, Γ := slk [(99, f_bits_Mask.S), (103, f_bits_bound.S)] }
theorem V_ok : EnvOk P V := { ck := tt_ck, fits := slk_cons f_bits_Mask.fits (slk_cons f_bits_bound.fits (slk_nil)), mixed := mixed }
abbrev R := Tup rs
noncomputable abbrev Q (r : R) : Exit → St → Prop := Qr tt Go.Proofs.Try.f95.results ⟨ps, rs, .any, none, fun _ _ => True⟩ r
noncomputable def f (k : Nat) (a1 a2 : Int) : Option R :=
  (f_bits_Mask.f k a2).bind fun y1 =>
    (f_bits_bound.f k a2).bind fun y2 =>
      some (((IntKind.i64.wrap (((BitVec.ofInt IntKind.i64.bits a1 &&& BitVec.ofInt IntKind.i64.bits y1.1).toNat : Int))), y2.1), ())
noncomputable def S : Spec := ⟨ps, rs, .any, none, fun x r => ∃ k, f k x.1 x.2.1 = some r⟩
theorem rl {k a1 a2 r} (e : f k a1 a2 = some r) : S.rel (a1, a2, ()) r := ⟨k, e⟩
theorem f_ok {r k a1 a2} (H : f k a1 a2 = some r) : Gw P 0 (Q r) (Px c0 1 []) (⟨12, [(0, .cv (.one (.i a1))), (1, .cv (.one (.i a2)))], []⟩) := by
  unfold f at H
  refine Rg V_ok 1 [(0, hb 0)] az ?_
  obtain ⟨y1, e3, H⟩ := of_bind H
  obtain ⟨y2, e4, H⟩ := of_bind H
  refine Rg V_ok 0 [(2, hr f_bits_Mask.S y1), (5, hr f_bits_bound.S y2)] (ac (f_bits_Mask.rl e3) (ac (f_bits_bound.rl e4) az)) ?_
  exact Lf (Eq.trans (by kernel_rfl) H)
theorem fits : Fits P 95 S := fits_of V_ok Go.Proofs.Try.func95 (by kernel_rfl) (by decide) (by decide) rfl (fun x r ⟨k, H⟩ => of_G (f_ok H))
end f_bits_Cut
/-! ### function 83, wayfinder/bits.Has -/
namespace f_bits_Has
noncomputable def c0 : Code := (Go.Proofs.Try.f83.body).getD .skip
abbrev ps : Sg := [(true, T713d), (false, (.int .i64))]
abbrev rs : Sg := [(false, .bool)]
noncomputable def V : Env := { tt := tt, Γ := slk [(95, f_bits_Cut.S)] }
theorem V_ok : EnvOk P V := { ck := tt_ck, fits := slk_cons f_bits_Cut.fits (slk_nil), mixed := mixed }
abbrev R := Tup rs
noncomputable abbrev Q (r : R) : Exit → St → Prop := Qr tt Go.Proofs.Try.f83.results ⟨ps, rs, .any, none, fun _ _ => True⟩ r
noncomputable def f (k : Nat) (a1 : T713d.T) (a2 : Int) : Option R :=
  (f_bits_Cut.f k a2 a1.2).bind fun y1 =>
    some (((y1.1.1 == a1.1) && ((y1.1.2 == a1.2) && true)), ())
noncomputable def S : Spec := ⟨ps, rs, .any, none, fun x r => ∃ k, f k x.1 x.2.1 = some r⟩
theorem rl {k a1 a2 r} (e : f k a1 a2 = some r) : S.rel (a1, a2, ()) r := ⟨k, e⟩
theorem f_ok {r k a1 a2} (H : f k a1 a2 = some r) : Gw P 0 (Q r) (Px c0 1 []) (⟨11, [(0, .cv (.agg [.i a1.1, .i a1.2])), (1, .cv (.one (.i a2)))], []⟩) := by
  unfold f at H
  refine Rg V_ok 1 [(0, hb 0)] az ?_
  obtain ⟨y1, e2, H⟩ := of_bind H
  refine Rg V_ok 0 [(3, hr f_bits_Cut.S y1)] (ac (f_bits_Cut.rl e2) az) ?_
  exact Lf (Eq.trans (by kernel_rfl) H)
theorem fits : Fits P 83 S := fits_of V_ok Go.Proofs.Try.func83 (by kernel_rfl) (by decide) (by decide) rfl (fun x r ⟨k, H⟩ => of_G (f_ok H))
end f_bits_Has
/-! ### function 73, wayfinder/rule.Fits -/
namespace f_rule_Fits
noncomputable def c0 : Code := (Go.Proofs.Try.f73.body).getD .skip
abbrev ps : Sg := [(true, T1383), (false, (.int .i64)), (false, (.int .i64))]
abbrev rs : Sg := [(false, .bool)]
noncomputable def V : Env := { tt := tt, Γ := slk [(83, f_bits_Has.S)] }
theorem V_ok : EnvOk P V := { ck := tt_ck, fits := slk_cons f_bits_Has.fits (slk_nil), mixed := mixed }
abbrev R := Tup rs
noncomputable abbrev Q (r : R) : Exit → St → Prop := Qr tt Go.Proofs.Try.f73.results ⟨ps, rs, .any, none, fun _ _ => True⟩ r
noncomputable def f (k : Nat) (a1 : T1383.T) (a2 a3 : Int) : Option R :=
  (f_bits_Has.f k a1.1 a3).bind fun y1 =>
    if y1.1 = true then
      if (a1.2.1 == (-1 : Int)) = true then
        some (true, ())
      else
        some ((a1.2.1 == a2), ())
    else
      some (false, ())
noncomputable def S : Spec := ⟨ps, rs, .any, none, fun x r => ∃ k, f k x.1 x.2.1 x.2.2.1 = some r⟩
theorem rl {k a1 a2 a3 r} (e : f k a1 a2 a3 = some r) : S.rel (a1, a2, a3, ()) r := ⟨k, e⟩
theorem f_ok {r k a1 a2 a3} (H : f k a1 a2 a3 = some r) : Gw P 0 (Q r) (Px c0 1 []) (⟨22, [(0, .cv (.agg (encC .any T1383 a1))), (1, .cv (.one (.i a2))), (2, .cv (.one (.i a3)))], []⟩) := by
  unfold f at H
  refine Rg V_ok 1 [(0, hb 0)] az ?_
  obtain ⟨y1, e2, H⟩ := of_bind H
  rcases of_ite H with ⟨hb3, H⟩ | ⟨hb3, H⟩
  · rcases of_ite H with ⟨hb4, H⟩ | ⟨hb4, H⟩
    · refine Rg V_ok 0 [(3, {res := some ⟨f_bits_Has.S.rs, y1⟩, bv := some true}), (7, {bv := some true})] (ac (f_bits_Has.rl e2) (ac hb3 (ac hb4 az))) ?_
      exact Lf (Eq.trans (by kernel_rfl) H)
    · refine Rg V_ok 0 [(3, {res := some ⟨f_bits_Has.S.rs, y1⟩, bv := some true}), (7, {bv := some false})] (ac (f_bits_Has.rl e2) (ac hb3 (ac hb4 az))) ?_
      exact Lf (Eq.trans (by kernel_rfl) H)
  · refine Rg V_ok 0 [(3, {res := some ⟨f_bits_Has.S.rs, y1⟩, bv := some false})] (ac (f_bits_Has.rl e2) (ac hb3 az)) ?_
    exact Lf (Eq.trans (by kernel_rfl) H)
theorem fits : Fits P 73 S := fits_of V_ok Go.Proofs.Try.func73 (by kernel_rfl) (by decide) (by decide) rfl (fun x r ⟨k, H⟩ => of_G (f_ok H))
end f_rule_Fits
/-! ### function 84, wayfinder/rule.greater -/
namespace f_rule_greater
noncomputable def c0 : Code := (Go.Proofs.Try.f84.body).getD .skip
abbrev ps : Sg := [(false, (.slice T713d))]
abbrev rs : Sg := [(false, .bool)]
noncomputable def V : Env := { tt := tt, Γ := slk [] }
theorem V_ok : EnvOk P V := { ck := tt_ck, fits := slk_nil, mixed := mixed }
abbrev R := Tup rs
noncomputable abbrev Q (r : R) : Exit → St → Prop := Qr tt Go.Proofs.Try.f84.results ⟨ps, rs, .any, none, fun _ _ => True⟩ r
noncomputable def s1 (p1 : List T713d.T) (p2 p3 : Int) : St := ⟨22, [(5, .cv (.one (.sl T713d p1 .any))), (6, .cv (.one (.i p2))), (7, .cv (.one (.i p3)))], []⟩
noncomputable def b1 (L1 : List T713d.T → Int → Int → Option R) (k : Nat) (p1 : List T713d.T) (p2 p3 : Int) : Option R :=
  if (decide (p3 < p2)) = true then
  if 0 ≤ p3 then
    if p3 < (p1.length : Int) then
      if (((att T713d p1 p3).1) != ((att T713d p1 p3).2)) = true then
        some ((decide (((att T713d p1 p3).1) > ((att T713d p1 p3).2))), ())
      else
        L1 p1 p2 (IntKind.i64.wrap (p3 + 1))
    else none
  else none
else
  some (false, ())
theorem b1_ok {r} {L1 : List T713d.T → Int → Int → Option R} {m1 : Nat} (hL1 : ∀ p1 p2 p3, L1 p1 p2 p3 = some r → Gw P 0 (Q r) (Pb c0 21 [] m1) (s1 p1 p2 p3)) {k p1 p2 p3} (H : b1 L1 k p1 p2 p3 = some r) : Gw P 0 (Q r) (Px c0 37 [m1]) (s1 p1 p2 p3) := by
  unfold b1 at H
  refine Rg V_ok 0 [] az ?_
  rcases of_ite H with ⟨hb1, H⟩ | ⟨hb1, H⟩
  · refine C1 hb1 ?_
    obtain ⟨n2, H⟩ := of_if H
    obtain ⟨n3, H⟩ := of_if H
    refine Rg V_ok 1 [(2, hb 0)] (ac n2 (ac n3 az)) ?_
    refine Rg V_ok 0 [] (ac (show 0 ≤ (0 : Int) by decide) (ac (show (0 : Int) < (2 : Int) by decide) (ac (show 0 ≤ (1 : Int) by decide) (ac (show (1 : Int) < (2 : Int) by decide) az)))) ?_
    rcases of_ite H with ⟨hb4, H⟩ | ⟨hb4, H⟩
    · refine C1 hb4 ?_
      refine Rg V_ok 0 [] (ac (show 0 ≤ (0 : Int) by decide) (ac (show (0 : Int) < (2 : Int) by decide) (ac (show 0 ≤ (1 : Int) by decide) (ac (show (1 : Int) < (2 : Int) by decide) az)))) ?_
      exact Lf (Eq.trans (by kernel_rfl) H)
    · refine C0 hb4 ?_
      refine Rg V_ok 0 [] az ?_
      exact Jm (tn [5, 6, 7] 0) (hL1 p1 p2 (IntKind.i64.wrap (p3 + 1)) H)
  · refine C0 hb1 ?_
    refine Rg V_ok 0 [] az ?_
    exact Lf (Eq.trans (by kernel_rfl) H)
noncomputable def l1 (k : Nat) : Nat → List T713d.T → Int → Int → Option R
  | 0, _, _, _ => none
  | m + 1, p1, p2, p3 => b1 (l1 k m) k p1 p2 p3
theorem l1_ok {r} (k : Nat) : ∀ (m1 : Nat) (p1 : List T713d.T) (p2 : Int) (p3 : Int), l1 k m1 p1 p2 p3 = some r → Gw P 0 (Q r) (Pb c0 21 [] m1) (s1 p1 p2 p3)
  | 0, _, _, _, H => by cases H
  | m1 + 1, p1, p2, p3, H => SU (by kernel_rfl) (b1_ok (l1_ok k m1) H)
noncomputable def f (k : Nat) (a1 : List T713d.T) : Option R :=
  l1 k k a1 (a1.length : Int) 0
noncomputable def S : Spec := ⟨ps, rs, .any, none, fun x r => ∃ k, f k x.1 = some r⟩
theorem rl {k a1 r} (e : f k a1 = some r) : S.rel (a1, ()) r := ⟨k, e⟩
theorem f_ok {r k a1} (H : f k a1 = some r) : Gw P 0 (Q r) (Px c0 1 []) (⟨22, [(0, .cv (.one (.sl T713d a1 .any)))], []⟩) := by
  unfold f at H
  refine Rg V_ok 0 [] az ?_
  refine Rg V_ok 0 [] az ?_
  exact LP k (Jm (tn [5, 6, 7] 0) (l1_ok k k a1 (a1.length : Int) 0 H))
theorem fits : Fits P 84 S := fits_of V_ok Go.Proofs.Try.func84 (by kernel_rfl) (by decide) (by decide) rfl (fun x r ⟨k, H⟩ => of_G (f_ok H))
end f_rule_greater
/-! ### function 74, wayfinder/rule.Ahead -/
namespace f_rule_Ahead
noncomputable def c0 : Code := (Go.Proofs.Try.f74.body).getD .skip
abbrev ps : Sg := [(true, T1383), (true, T1383)]
abbrev rs : Sg := [(false, .bool)]
noncomputable def V : Env := { tt := tt, Γ := slk [(84, f_rule_greater.S)] }
theorem V_ok : EnvOk P V := { ck := tt_ck, fits := slk_cons f_rule_greater.fits (slk_nil), mixed := mixed }
abbrev R := Tup rs
noncomputable abbrev Q (r : R) : Exit → St → Prop := Qr tt Go.Proofs.Try.f74.results ⟨ps, rs, .any, none, fun _ _ => True⟩ r
noncomputable def f (k : Nat) (a1 a2 : T1383.T) : Option R :=
  (f_rule_greater.f k [(a1.1.2, a2.1.2), (a1.2.2.1, a2.2.2.1), (a1.2.1, a2.2.1)]).bind fun y1 =>
    some (y1.1, ())
noncomputable def S : Spec := ⟨ps, rs, .any, none, fun x r => ∃ k, f k x.1 x.2.1 = some r⟩
theorem rl {k a1 a2 r} (e : f k a1 a2 = some r) : S.rel (a1, a2, ()) r := ⟨k, e⟩
theorem f_ok {r k a1 a2} (H : f k a1 a2 = some r) : Gw P 0 (Q r) (Px c0 1 []) (⟨24, [(0, .cv (.agg (encC .any T1383 a1))), (1, .cv (.agg (encC .any T1383 a2)))], []⟩) := by
  unfold f at H
  refine Rg V_ok 2 [(0, hb 0), (1, hb 1)] az ?_
  obtain ⟨y1, e2, H⟩ := of_bind H
  refine Rg V_ok 0 [(18, hr f_rule_greater.S y1)] (ac (f_rule_greater.rl e2) az) ?_
  exact Lf (Eq.trans (by kernel_rfl) H)
theorem fits : Fits P 74 S := fits_of V_ok Go.Proofs.Try.func74 (by kernel_rfl) (by decide) (by decide) rfl (fun x r ⟨k, H⟩ => of_G (f_ok H))
end f_rule_Ahead
/-! ### function 55, wayfinder/pick.First -/
namespace f_pick_First
noncomputable def c0 : Code := (Go.Proofs.Try.f55.body).getD .skip
abbrev ps : Sg := [(false, (.slice T1383)), (false, (.int .i64)), (false, (.int .i64))]
abbrev rs : Sg := [(false, (.int .i64))]
noncomputable def V : Env := { tt := tt, Γ := slk [(73, f_rule_Fits.S), (74, f_rule_Ahead.S)] }
theorem V_ok : EnvOk P V := { ck := tt_ck, fits := slk_cons f_rule_Fits.fits (slk_cons f_rule_Ahead.fits (slk_nil)), mixed := mixed }
abbrev R := Tup rs
noncomputable abbrev Q (r : R) : Exit → St → Prop := Qr tt Go.Proofs.Try.f55.results ⟨ps, rs, .any, none, fun _ _ => True⟩ r
noncomputable def s1 (p1 : List T1383.T) (p2 p3 p4 : Int) (p5 : List T1383.T) (p6 p7 : Int) : St := ⟨36, [(0, .cv (.one (.sl T1383 p1 .any))), (1, .cv (.one (.i p2))), (2, .cv (.one (.i p3))), (7, .cv (.one (.i p4))), (10, .cv (.one (.sl T1383 p5 .any))), (11, .cv (.one (.i p6))), (12, .cv (.one (.i p7)))], []⟩
noncomputable def s2 (p1 : List T1383.T) (p2 p3 p4 p5 : Int) (p6 : List T1383.T) (p7 p8 : Int) (p9 : Bool) : St := ⟨36, [(0, .cv (.one (.sl T1383 p1 .any))), (1, .cv (.one (.i p2))), (2, .cv (.one (.i p3))), (7, .cv (.one (.i p4))), (8, .cv (.one (.i p5))), (10, .cv (.one (.sl T1383 p6 .any))), (11, .cv (.one (.i p7))), (12, .cv (.one (.i p8))), (32, .cv (.one (.bool p9)))], []⟩
noncomputable def s3 (p1 : List T1383.T) (p2 p3 p4 : Int) (p5 : List T1383.T) (p6 p7 : Int) : St := ⟨36, [(0, .cv (.one (.sl T1383 p1 .any))), (1, .cv (.one (.i p2))), (2, .cv (.one (.i p3))), (7, .cv (.one (.i p4))), (10, .cv (.one (.sl T1383 p5 .any))), (11, .cv (.one (.i p6))), (12, .cv (.one (.i p7)))], []⟩
noncomputable def j3 (L1 : List T1383.T → Int → Int → Int → List T1383.T → Int → Int → Option R) (k : Nat) (p1 : List T1383.T) (p2 p3 p4 : Int) (p5 : List T1383.T) (p6 p7 : Int) : Option R :=
  L1 p1 p2 p3 p4 p5 p6 (IntKind.i64.wrap (p7 + 1))
theorem j3_ok {r} {L1 : List T1383.T → Int → Int → Int → List T1383.T → Int → Int → Option R} {m1 : Nat} (hL1 : ∀ p1 p2 p3 p4 p5 p6 p7, L1 p1 p2 p3 p4 p5 p6 p7 = some r → Gw P 0 (Q r) (Pb c0 43 [] m1) (s1 p1 p2 p3 p4 p5 p6 p7)) {k p1 p2 p3 p4 p5 p6 p7} (H : j3 L1 k p1 p2 p3 p4 p5 p6 p7 = some r) : Gw P 0 (Q r) (Px c0 971 [m1]) (s3 p1 p2 p3 p4 p5 p6 p7) := by
  unfold j3 at H
  refine Rg V_ok 0 [] az ?_
  exact Jm (tn [0, 1, 2, 7, 10, 11, 12] 0) (hL1 p1 p2 p3 p4 p5 p6 (IntKind.i64.wrap (p7 + 1)) H)
noncomputable def j2 (L1 : List T1383.T → Int → Int → Int → List T1383.T → Int → Int → Option R) (k : Nat) (p1 : List T1383.T) (p2 p3 p4 p5 : Int) (p6 : List T1383.T) (p7 p8 : Int) (p9 : Bool) : Option R :=
  if p9 = true then
  j3 L1 k p1 p2 p3 p5 p6 p7 p8
else
  j3 L1 k p1 p2 p3 p4 p6 p7 p8
theorem j2_ok {r} {L1 : List T1383.T → Int → Int → Int → List T1383.T → Int → Int → Option R} {m1 : Nat} (hL1 : ∀ p1 p2 p3 p4 p5 p6 p7, L1 p1 p2 p3 p4 p5 p6 p7 = some r → Gw P 0 (Q r) (Pb c0 43 [] m1) (s1 p1 p2 p3 p4 p5 p6 p7)) {k p1 p2 p3 p4 p5 p6 p7 p8 p9} (H : j2 L1 k p1 p2 p3 p4 p5 p6 p7 p8 p9 = some r) : Gw P 0 (Q r) (Px c0 7371 [m1]) (s2 p1 p2 p3 p4 p5 p6 p7 p8 p9) := by
  unfold j2 at H
  rcases of_ite H with ⟨hb9, H⟩ | ⟨hb9, H⟩
  · refine C1 hb9 ?_
    refine Rg V_ok 0 [] az ?_
    exact Jm (tn [0, 1, 2, 7, 10, 11, 12] 0) (j3_ok hL1 H)
  · refine C0 hb9 ?_
    exact Jm (tn [0, 1, 2, 7, 10, 11, 12] 0) (j3_ok hL1 H)
noncomputable def b1 (L1 : List T1383.T → Int → Int → Int → List T1383.T → Int → Int → Option R) (k : Nat) (p1 : List T1383.T) (p2 p3 p4 : Int) (p5 : List T1383.T) (p6 p7 : Int) : Option R :=
  if (decide (p7 < p6)) = true then
  if 0 ≤ p7 then
    if p7 < (p5.length : Int) then
      (f_rule_Fits.f k (att T1383 p5 p7) p2 p3).bind fun y4 =>
        if y4.1 = true then
          if (decide (p4 < (0 : Int))) = true then
            j2 L1 k p1 p2 p3 p4 p7 p5 p6 p7 true
          else
            if 0 ≤ p4 then
              if p4 < (p1.length : Int) then
                (f_rule_Ahead.f k (att T1383 p5 p7) (att T1383 p1 p4)).bind fun y5 =>
                  j2 L1 k p1 p2 p3 p4 p7 p5 p6 p7 y5.1
              else none
            else none
        else
          j2 L1 k p1 p2 p3 p4 p7 p5 p6 p7 false
    else none
  else none
else
  some (p4, ())
theorem b1_ok {r} {L1 : List T1383.T → Int → Int → Int → List T1383.T → Int → Int → Option R} {m1 : Nat} (hL1 : ∀ p1 p2 p3 p4 p5 p6 p7, L1 p1 p2 p3 p4 p5 p6 p7 = some r → Gw P 0 (Q r) (Pb c0 43 [] m1) (s1 p1 p2 p3 p4 p5 p6 p7)) {k p1 p2 p3 p4 p5 p6 p7} (H : b1 L1 k p1 p2 p3 p4 p5 p6 p7 = some r) : Gw P 0 (Q r) (Px c0 75 [m1]) (s1 p1 p2 p3 p4 p5 p6 p7) := by
  unfold b1 at H
  refine Rg V_ok 0 [] az ?_
  rcases of_ite H with ⟨hb1, H⟩ | ⟨hb1, H⟩
  · refine C1 hb1 ?_
    obtain ⟨n2, H⟩ := of_if H
    obtain ⟨n3, H⟩ := of_if H
    refine Rg V_ok 1 [(3, hb 0)] (ac n2 (ac n3 az)) ?_
    obtain ⟨y4, e6, H⟩ := of_bind H
    rcases of_ite H with ⟨hb7, H⟩ | ⟨hb7, H⟩
    · rcases of_ite H with ⟨hb8, H⟩ | ⟨hb8, H⟩
      · refine Rg V_ok 0 [(3, {res := some ⟨f_rule_Fits.S.rs, y4⟩, bv := some true}), (6, {bv := some true})] (ac (f_rule_Fits.rl e6) (ac hb7 (ac hb8 az))) ?_
        exact Jm (tn [0, 1, 2, 7, 8, 10, 11, 12, 32] 0) (j2_ok hL1 H)
      · obtain ⟨n10, H⟩ := of_if H
        obtain ⟨n11, H⟩ := of_if H
        obtain ⟨y5, e12, H⟩ := of_bind H
        refine Rg V_ok 0 [(3, {res := some ⟨f_rule_Fits.S.rs, y4⟩, bv := some true}), (6, {bv := some false}), (13, hr f_rule_Ahead.S y5)] (ac (f_rule_Fits.rl e6) (ac hb7 (ac hb8 (ac n10 (ac n11 (ac (f_rule_Ahead.rl e12) az)))))) ?_
        exact Jm (tn [0, 1, 2, 7, 8, 10, 11, 12, 32] 0) (j2_ok hL1 H)
    · refine Rg V_ok 0 [(3, {res := some ⟨f_rule_Fits.S.rs, y4⟩, bv := some false})] (ac (f_rule_Fits.rl e6) (ac hb7 az)) ?_
      exact Jm (tn [0, 1, 2, 7, 8, 10, 11, 12, 32] 0) (j2_ok hL1 H)
  · refine C0 hb1 ?_
    refine Rg V_ok 0 [] az ?_
    exact Lf (Eq.trans (by kernel_rfl) H)
noncomputable def l1 (k : Nat) : Nat → List T1383.T → Int → Int → Int → List T1383.T → Int → Int → Option R
  | 0, _, _, _, _, _, _, _ => none
  | m + 1, p1, p2, p3, p4, p5, p6, p7 => b1 (l1 k m) k p1 p2 p3 p4 p5 p6 p7
theorem l1_ok {r} (k : Nat) : ∀ (m1 : Nat) (p1 : List T1383.T) (p2 p3 p4 : Int) (p5 : List T1383.T) (p6 : Int) (p7 : Int), l1 k m1 p1 p2 p3 p4 p5 p6 p7 = some r → Gw P 0 (Q r) (Pb c0 43 [] m1) (s1 p1 p2 p3 p4 p5 p6 p7)
  | 0, _, _, _, _, _, _, _, H => by cases H
  | m1 + 1, p1, p2, p3, p4, p5, p6, p7, H => SU (by kernel_rfl) (b1_ok (l1_ok k m1) H)
noncomputable def f (k : Nat) (a1 : List T1383.T) (a2 a3 : Int) : Option R :=
  l1 k k a1 a2 a3 (-1) a1 (a1.length : Int) 0
noncomputable def S : Spec := ⟨ps, rs, .any, none, fun x r => ∃ k, f k x.1 x.2.1 x.2.2.1 = some r⟩
theorem rl {k a1 a2 a3 r} (e : f k a1 a2 a3 = some r) : S.rel (a1, a2, a3, ()) r := ⟨k, e⟩
theorem f_ok {r k a1 a2 a3} (H : f k a1 a2 a3 = some r) : Gw P 0 (Q r) (Px c0 1 []) (⟨36, [(0, .cv (.one (.sl T1383 a1 .any))), (1, .cv (.one (.i a2))), (2, .cv (.one (.i a3)))], []⟩) := by
  unfold f at H
  refine Rg V_ok 0 [] az ?_
  refine Rg V_ok 0 [] az ?_
  refine Rg V_ok 0 [] az ?_
  exact LP k (Jm (tn [0, 1, 2, 7, 10, 11, 12] 0) (l1_ok k k a1 a2 a3 (-1) a1 (a1.length : Int) 0 H))
theorem fits : Fits P 55 S := fits_of V_ok Go.Proofs.Try.func55 (by kernel_rfl) (by decide) (by decide) rfl (fun x r ⟨k, H⟩ => of_G (f_ok H))
end f_pick_First
/-! ### function 66, wayfinder/topo.both -/
namespace f_topo_both
noncomputable def c0 : Code := (Go.Proofs.Try.f66.body).getD .skip
abbrev ps : Sg := [(true, Td285)]
abbrev rs : Sg := [(true, T713d), (true, T713d)]
noncomputable def V : Env := { tt := tt, Γ := slk [] }
theorem V_ok : EnvOk P V := { ck := tt_ck, fits := slk_nil, mixed := mixed }
abbrev R := Tup rs
noncomputable abbrev Q (r : R) : Exit → St → Prop := Qr tt Go.Proofs.Try.f66.results ⟨ps, rs, .any, none, fun _ _ => True⟩ r
noncomputable def f (k : Nat) (a1 : Td285.T) : Option R :=
  some ((a1.1, a1.2.1), (a1.2.2, ()))
noncomputable def S : Spec := ⟨ps, rs, .any, none, fun x r => ∃ k, f k x.1 = some r⟩
theorem rl {k a1 r} (e : f k a1 = some r) : S.rel (a1, ()) r := ⟨k, e⟩
theorem f_ok {r k a1} (H : f k a1 = some r) : Gw P 0 (Q r) (Px c0 1 []) (⟨14, [(0, .cv (.agg (encC .any Td285 a1)))], []⟩) := by
  unfold f at H
  refine Rg V_ok 3 [(0, hb 0), (1, hb 1), (2, hb 2)] az ?_
  refine Rg V_ok 0 [] az ?_
  exact Lf (Eq.trans (by kernel_rfl) H)
theorem fits : Fits P 66 S := fits_of V_ok Go.Proofs.Try.func66 (by kernel_rfl) (by decide) (by decide) rfl (fun x r ⟨k, H⟩ => of_G (f_ok H))
end f_topo_both
/-! ### function 49, (wayfinder/topo.end).is -/
namespace f_topo_end_is
noncomputable def c0 : Code := (Go.Proofs.Try.f49.body).getD .skip
abbrev ps : Sg := [(true, T713d), (true, T5477)]
abbrev rs : Sg := [(false, .bool)]
noncomputable def V : Env := { tt := tt, Γ := slk [] }
theorem V_ok : EnvOk P V := { ck := tt_ck, fits := slk_nil, mixed := mixed }
abbrev R := Tup rs
noncomputable abbrev Q (r : R) : Exit → St → Prop := Qr tt Go.Proofs.Try.f49.results ⟨ps, rs, .any, none, fun _ _ => True⟩ r
noncomputable def f (k : Nat) (a1 : T713d.T) (a2 : T5477.T) : Option R :=
  if (decide (a1.1 ≥ (0 : Int))) = true then
    if (decide (a1.1 < a2.1)) = true then
      if (decide (a1.2 ≥ (0 : Int))) = true then
        some ((decide (a1.2 < a2.2.1)), ())
      else
        some (false, ())
    else
      some (false, ())
  else
    some (false, ())
noncomputable def S : Spec := ⟨ps, rs, .any, none, fun x r => ∃ k, f k x.1 x.2.1 = some r⟩
theorem rl {k a1 a2 r} (e : f k a1 a2 = some r) : S.rel (a1, a2, ()) r := ⟨k, e⟩
theorem f_ok {r k a1 a2} (H : f k a1 a2 = some r) : Gw P 0 (Q r) (Px c0 1 []) (⟨27, [(0, .cv (.agg [.i a1.1, .i a1.2])), (1, .cv (.agg (encC .any T5477 a2)))], []⟩) := by
  unfold f at H
  refine Rg V_ok 2 [(0, hb 0), (1, hb 1)] az ?_
  rcases of_ite H with ⟨hb1, H⟩ | ⟨hb1, H⟩
  · rcases of_ite H with ⟨hb2, H⟩ | ⟨hb2, H⟩
    · rcases of_ite H with ⟨hb3, H⟩ | ⟨hb3, H⟩
      · refine Rg V_ok 0 [(2, {bv := some true}), (9, {bv := some true}), (14, {bv := some true})] (ac (show 0 ≤ (0 : Int) by decide) (ac (show (0 : Int) < (2 : Int) by decide) (ac hb1 (ac (show 0 ≤ (0 : Int) by decide) (ac (show (0 : Int) < (2 : Int) by decide) (ac hb2 (ac (show 0 ≤ (1 : Int) by decide) (ac (show (1 : Int) < (2 : Int) by decide) (ac hb3 (ac (show 0 ≤ (1 : Int) by decide) (ac (show (1 : Int) < (2 : Int) by decide) az))))))))))) ?_
        exact Lf (Eq.trans (by kernel_rfl) H)
      · refine Rg V_ok 0 [(2, {bv := some true}), (9, {bv := some true}), (14, {bv := some false})] (ac (show 0 ≤ (0 : Int) by decide) (ac (show (0 : Int) < (2 : Int) by decide) (ac hb1 (ac (show 0 ≤ (0 : Int) by decide) (ac (show (0 : Int) < (2 : Int) by decide) (ac hb2 (ac (show 0 ≤ (1 : Int) by decide) (ac (show (1 : Int) < (2 : Int) by decide) (ac hb3 az))))))))) ?_
        exact Lf (Eq.trans (by kernel_rfl) H)
    · refine Rg V_ok 0 [(2, {bv := some true}), (9, {bv := some false})] (ac (show 0 ≤ (0 : Int) by decide) (ac (show (0 : Int) < (2 : Int) by decide) (ac hb1 (ac (show 0 ≤ (0 : Int) by decide) (ac (show (0 : Int) < (2 : Int) by decide) (ac hb2 az)))))) ?_
      exact Lf (Eq.trans (by kernel_rfl) H)
  · refine Rg V_ok 0 [(2, {bv := some false})] (ac (show 0 ≤ (0 : Int) by decide) (ac (show (0 : Int) < (2 : Int) by decide) (ac hb1 az))) ?_
    exact Lf (Eq.trans (by kernel_rfl) H)
theorem fits : Fits P 49 S := fits_of V_ok Go.Proofs.Try.func49 (by kernel_rfl) (by decide) (by decide) rfl (fun x r ⟨k, H⟩ => of_G (f_ok H))
end f_topo_end_is
/-! ### function 48, wayfinder/topo.joined, where it is called -/
namespace i_topo_joined_042
noncomputable def c0 : Code := (Go.Proofs.Try.f48.body).getD .skip
noncomputable def V : Env := { tt := tt, Γ := slk [(66, f_topo_both.S)] }
theorem V_ok : EnvOk P V := { ck := tt_ck, fits := slk_cons f_topo_both.fits (slk_nil), mixed := mixed }
abbrev R := (List (T713d.T × T713d.T)) × Unit
noncomputable def s0 (x1 x2 : T5477.T) (x3 : T713d.T) : St := ⟨49, [(0, .cv (.agg (encC .any T5477 x1)))], [(.box 3, (encC .any T5477 x2)), (.box 2, [.i x3.1, .i x3.2])]⟩
noncomputable def out (x2 : T5477.T) (x3 : T713d.T) (r : R) : St := ⟨49, [(2, .cv (.one (.mp 2)))], [(.box 3, (encC .any T5477 x2)), (.box 2, [.i x3.1, .i x3.2]), (.dm true T713d T713d r.1, [])]⟩
abbrev Q (x2 : T5477.T) (x3 : T713d.T) (r : R) := CallQ 2 (out x2 x3 r)
noncomputable def s1 (x2 : T5477.T) (x3 : T713d.T) (p1 : List Td285.T) (p2 p3 : Int) (p6 : List (T713d.T × T713d.T)) : St := ⟨49, [(3, .cv (.one (.mp 2))), (14, .cv (.one (.sl Td285 p1 .any))), (15, .cv (.one (.i p2))), (16, .cv (.one (.i p3)))], [(.box 3, (encC .any T5477 x2)), (.box 2, [.i x3.1, .i x3.2]), (.dm true T713d T713d p6, [])]⟩
noncomputable def s3 (x2 : T5477.T) (x3 : T713d.T) (p1 : List Td285.T) (p2 p3 : Int) (p6 : List (T713d.T × T713d.T)) (p7 p8 : T713d.T) : St := ⟨49, [(3, .cv (.one (.mp 2))), (6, .cv (.one (.ptr 3 0))), (7, .cv (.one (.ptr 4 0))), (14, .cv (.one (.sl Td285 p1 .any))), (15, .cv (.one (.i p2))), (16, .cv (.one (.i p3)))], [(.box 3, (encC .any T5477 x2)), (.box 2, [.i x3.1, .i x3.2]), (.dm true T713d T713d p6, []), (.box 2, [.i p7.1, .i p7.2]), (.box 2, [.i p8.1, .i p8.2])]⟩
noncomputable def s2 (x2 : T5477.T) (x3 : T713d.T) (p1 : List Td285.T) (p2 p3 : Int) (p6 : List (T713d.T × T713d.T)) : St := ⟨49, [(3, .cv (.one (.mp 2))), (14, .cv (.one (.sl Td285 p1 .any))), (15, .cv (.one (.i p2))), (16, .cv (.one (.i p3)))], [(.box 3, (encC .any T5477 x2)), (.box 2, [.i x3.1, .i x3.2]), (.dm true T713d T713d p6, [])]⟩
noncomputable def j2 (x2 : T5477.T) (x3 : T713d.T) (L1 : List Td285.T → Int → Int → List (T713d.T × T713d.T) → Option R) (k : Nat) (p1 : List Td285.T) (p2 p3 : Int) (p6 : List (T713d.T × T713d.T)) : Option R :=
  L1 p1 p2 (IntKind.i64.wrap (p3 + 1)) p6
theorem j2_ok {r x2 x3} {L1 : List Td285.T → Int → Int → List (T713d.T × T713d.T) → Option R} {m1 : Nat} (hL1 : ∀ p1 p2 p3 p6, L1 p1 p2 p3 p6 = some r → Gw P 2 (Q x2 x3 r) (Pb c0 43 [] m1) (s1 x2 x3 p1 p2 p3 p6)) {k p1 p2 p3 p6} (H : j2 x2 x3 L1 k p1 p2 p3 p6 = some r) : Gw P 2 (Q x2 x3 r) (Px c0 971 [m1]) (s2 x2 x3 p1 p2 p3 p6) := by
  unfold j2 at H
  refine Rg V_ok 0 [] az ?_
  exact Jm (tn [3, 14, 15, 16] 3) (hL1 p1 p2 (IntKind.i64.wrap (p3 + 1)) p6 H)
noncomputable def j3 (x2 : T5477.T) (x3 : T713d.T) (L1 : List Td285.T → Int → Int → List (T713d.T × T713d.T) → Option R) (k : Nat) (p1 : List Td285.T) (p2 p3 : Int) (p6 : List (T713d.T × T713d.T)) (p7 p8 : T713d.T) : Option R :=
  if (!(dmHas (V := T713d) T713d p6 p8)) = true then
  j2 x2 x3 L1 k p1 p2 p3 (dmPut (V := T713d) T713d p6 p8 p7)
else
  j2 x2 x3 L1 k p1 p2 p3 p6
theorem j3_ok {r x2 x3} {L1 : List Td285.T → Int → Int → List (T713d.T × T713d.T) → Option R} {m1 : Nat} (hL1 : ∀ p1 p2 p3 p6, L1 p1 p2 p3 p6 = some r → Gw P 2 (Q x2 x3 r) (Pb c0 43 [] m1) (s1 x2 x3 p1 p2 p3 p6)) {k p1 p2 p3 p6 p7 p8} (H : j3 x2 x3 L1 k p1 p2 p3 p6 p7 p8 = some r) : Gw P 2 (Q x2 x3 r) (Px c0 15563 [m1]) (s3 x2 x3 p1 p2 p3 p6 p7 p8) := by
  unfold j3 at H
  refine Rg V_ok 1 [(6, hb 5)] az ?_
  refine Rg V_ok 0 [] az ?_
  rcases of_ite H with ⟨hb7, H⟩ | ⟨hb7, H⟩
  · refine C1 hb7 ?_
    refine Rg V_ok 0 [] az ?_
    exact Jm (tn [3, 14, 15, 16] 3) (j2_ok hL1 H)
  · refine C0 hb7 ?_
    exact Jm (tn [3, 14, 15, 16] 3) (j2_ok hL1 H)
noncomputable def b1 (x2 : T5477.T) (x3 : T713d.T) (L1 : List Td285.T → Int → Int → List (T713d.T × T713d.T) → Option R) (k : Nat) (p1 : List Td285.T) (p2 p3 : Int) (p6 : List (T713d.T × T713d.T)) : Option R :=
  if (decide (p3 < p2)) = true then
  if 0 ≤ p3 then
    if p3 < (p1.length : Int) then
      (f_topo_both.f k (att Td285 p1 p3)).bind fun y4 =>
        if (!(dmHas (V := T713d) T713d p6 y4.1)) = true then
          j3 x2 x3 L1 k p1 p2 p3 (dmPut (V := T713d) T713d p6 y4.1 y4.2.1) y4.1 y4.2.1
        else
          j3 x2 x3 L1 k p1 p2 p3 p6 y4.1 y4.2.1
    else none
  else none
else
  some (p6, ())
theorem b1_ok {r x2 x3} {L1 : List Td285.T → Int → Int → List (T713d.T × T713d.T) → Option R} {m1 : Nat} (hL1 : ∀ p1 p2 p3 p6, L1 p1 p2 p3 p6 = some r → Gw P 2 (Q x2 x3 r) (Pb c0 43 [] m1) (s1 x2 x3 p1 p2 p3 p6)) {k p1 p2 p3 p6} (H : b1 x2 x3 L1 k p1 p2 p3 p6 = some r) : Gw P 2 (Q x2 x3 r) (Px c0 75 [m1]) (s1 x2 x3 p1 p2 p3 p6) := by
  unfold b1 at H
  refine Rg V_ok 0 [] az ?_
  rcases of_ite H with ⟨hb1, H⟩ | ⟨hb1, H⟩
  · refine C1 hb1 ?_
    obtain ⟨n2, H⟩ := of_if H
    obtain ⟨n3, H⟩ := of_if H
    refine Rg V_ok 1 [(2, hb 3)] (ac n2 (ac n3 az)) ?_
    obtain ⟨y4, e5, H⟩ := of_bind H
    refine Rg V_ok 2 [(1, hr f_topo_both.S y4), (5, hb 4), (6, hb 5)] (ac (f_topo_both.rl e5) az) ?_
    refine Rg V_ok 1 [(6, hb 6)] az ?_
    refine Rg V_ok 0 [] az ?_
    rcases of_ite H with ⟨hb6, H⟩ | ⟨hb6, H⟩
    · refine C1 hb6 ?_
      refine Rg V_ok 0 [] az ?_
      exact Jm (tl [3, 6, 7, 14, 15, 16] [0, 1, 2, 4, 5]) (j3_ok hL1 H)
    · refine C0 hb6 ?_
      exact Jm (tl [3, 6, 7, 14, 15, 16] [0, 1, 2, 4, 5]) (j3_ok hL1 H)
  · refine C0 hb1 ?_
    refine Rg V_ok 0 [] az ?_
    obtain rfl := Option.some.inj H
    exact Lq (tn [2] 3)
noncomputable def l1 (x2 : T5477.T) (x3 : T713d.T) (k : Nat) : Nat → List Td285.T → Int → Int → List (T713d.T × T713d.T) → Option R
  | 0, _, _, _, _ => none
  | m + 1, p1, p2, p3, p6 => b1 x2 x3 (l1 x2 x3 k m) k p1 p2 p3 p6
theorem l1_ok {r x2 x3} (k : Nat) : ∀ (m1 : Nat) (p1 : List Td285.T) (p2 p3 : Int) (p6 : List (T713d.T × T713d.T)), l1 x2 x3 k m1 p1 p2 p3 p6 = some r → Gw P 2 (Q x2 x3 r) (Pb c0 43 [] m1) (s1 x2 x3 p1 p2 p3 p6)
  | 0, _, _, _, _, H => by cases H
  | m1 + 1, p1, p2, p3, p6, H => SU (by kernel_rfl) (b1_ok (l1_ok k m1) H)
noncomputable def f (k : Nat) (x1 x2 : T5477.T) (x3 : T713d.T) : Option R :=
  l1 x2 x3 k k x1.2.2 (x1.2.2.length : Int) 0 []
theorem f_ok {r k x1 x2 x3} (H : f k x1 x2 x3 = some r) : Gw P 2 (Q x2 x3 r) (Px c0 1 []) (s0 x1 x2 x3) := by
  unfold f at H
  refine Rg V_ok 1 [(0, hb 2)] az ?_
  refine Rg V_ok 1 [(0, hb 3)] az ?_
  refine Rg V_ok 0 [] az ?_
  exact LP k (Jm (tl [3, 14, 15, 16] [0, 1, 3]) (l1_ok k k x1.2.2 (x1.2.2.length : Int) 0 [] H))
theorem ok {r k x1 x2 x3} (H : f k x1 x2 x3 = some r) : W P 2 c0 (s0 x1 x2 x3) (CallQ 2 (out x2 x3 r)) := of_G (f_ok H)
theorem at_ : FnAt P 48 49 c0 Go.Proofs.Try.f48.results := fnAt Go.Proofs.Try.func48 (by kernel_rfl) (by decide) (by kernel_rfl) (by kernel_rfl)
end i_topo_joined_042
/-! ### function 48, wayfinder/topo.joined, where it is called -/
namespace i_topo_joined_2f5
noncomputable def c0 : Code := (Go.Proofs.Try.f48.body).getD .skip
noncomputable def V : Env := { tt := tt, Γ := slk [(66, f_topo_both.S)] }
theorem V_ok : EnvOk P V := { ck := tt_ck, fits := slk_cons f_topo_both.fits (slk_nil), mixed := mixed }
abbrev R := (List (T713d.T × T713d.T)) × Unit
noncomputable def s0 (x1 x2 : T5477.T) (x3 x4 : T713d.T) : St := ⟨49, [(0, .cv (.agg (encC .any T5477 x1)))], [(.box 3, (encC .any T5477 x2)), (.box 2, [.i x3.1, .i x3.2]), (.box 2, [.i x4.1, .i x4.2])]⟩
noncomputable def out (x2 : T5477.T) (x3 x4 : T713d.T) (r : R) : St := ⟨49, [(2, .cv (.one (.mp 3)))], [(.box 3, (encC .any T5477 x2)), (.box 2, [.i x3.1, .i x3.2]), (.box 2, [.i x4.1, .i x4.2]), (.dm true T713d T713d r.1, [])]⟩
abbrev Q (x2 : T5477.T) (x3 x4 : T713d.T) (r : R) := CallQ 3 (out x2 x3 x4 r)
noncomputable def s1 (x2 : T5477.T) (x3 x4 : T713d.T) (p1 : List Td285.T) (p2 p3 : Int) (p7 : List (T713d.T × T713d.T)) : St := ⟨49, [(3, .cv (.one (.mp 3))), (14, .cv (.one (.sl Td285 p1 .any))), (15, .cv (.one (.i p2))), (16, .cv (.one (.i p3)))], [(.box 3, (encC .any T5477 x2)), (.box 2, [.i x3.1, .i x3.2]), (.box 2, [.i x4.1, .i x4.2]), (.dm true T713d T713d p7, [])]⟩
noncomputable def s3 (x2 : T5477.T) (x3 x4 : T713d.T) (p1 : List Td285.T) (p2 p3 : Int) (p7 : List (T713d.T × T713d.T)) (p8 p9 : T713d.T) : St := ⟨49, [(3, .cv (.one (.mp 3))), (6, .cv (.one (.ptr 4 0))), (7, .cv (.one (.ptr 5 0))), (14, .cv (.one (.sl Td285 p1 .any))), (15, .cv (.one (.i p2))), (16, .cv (.one (.i p3)))], [(.box 3, (encC .any T5477 x2)), (.box 2, [.i x3.1, .i x3.2]), (.box 2, [.i x4.1, .i x4.2]), (.dm true T713d T713d p7, []), (.box 2, [.i p8.1, .i p8.2]), (.box 2, [.i p9.1, .i p9.2])]⟩
noncomputable def s2 (x2 : T5477.T) (x3 x4 : T713d.T) (p1 : List Td285.T) (p2 p3 : Int) (p7 : List (T713d.T × T713d.T)) : St := ⟨49, [(3, .cv (.one (.mp 3))), (14, .cv (.one (.sl Td285 p1 .any))), (15, .cv (.one (.i p2))), (16, .cv (.one (.i p3)))], [(.box 3, (encC .any T5477 x2)), (.box 2, [.i x3.1, .i x3.2]), (.box 2, [.i x4.1, .i x4.2]), (.dm true T713d T713d p7, [])]⟩
noncomputable def j2 (x2 : T5477.T) (x3 x4 : T713d.T) (L1 : List Td285.T → Int → Int → List (T713d.T × T713d.T) → Option R) (k : Nat) (p1 : List Td285.T) (p2 p3 : Int) (p7 : List (T713d.T × T713d.T)) : Option R :=
  L1 p1 p2 (IntKind.i64.wrap (p3 + 1)) p7
theorem j2_ok {r x2 x3 x4} {L1 : List Td285.T → Int → Int → List (T713d.T × T713d.T) → Option R} {m1 : Nat} (hL1 : ∀ p1 p2 p3 p7, L1 p1 p2 p3 p7 = some r → Gw P 3 (Q x2 x3 x4 r) (Pb c0 43 [] m1) (s1 x2 x3 x4 p1 p2 p3 p7)) {k p1 p2 p3 p7} (H : j2 x2 x3 x4 L1 k p1 p2 p3 p7 = some r) : Gw P 3 (Q x2 x3 x4 r) (Px c0 971 [m1]) (s2 x2 x3 x4 p1 p2 p3 p7) := by
  unfold j2 at H
  refine Rg V_ok 0 [] az ?_
  exact Jm (tn [3, 14, 15, 16] 4) (hL1 p1 p2 (IntKind.i64.wrap (p3 + 1)) p7 H)
noncomputable def j3 (x2 : T5477.T) (x3 x4 : T713d.T) (L1 : List Td285.T → Int → Int → List (T713d.T × T713d.T) → Option R) (k : Nat) (p1 : List Td285.T) (p2 p3 : Int) (p7 : List (T713d.T × T713d.T)) (p8 p9 : T713d.T) : Option R :=
  if (!(dmHas (V := T713d) T713d p7 p9)) = true then
  j2 x2 x3 x4 L1 k p1 p2 p3 (dmPut (V := T713d) T713d p7 p9 p8)
else
  j2 x2 x3 x4 L1 k p1 p2 p3 p7
theorem j3_ok {r x2 x3 x4} {L1 : List Td285.T → Int → Int → List (T713d.T × T713d.T) → Option R} {m1 : Nat} (hL1 : ∀ p1 p2 p3 p7, L1 p1 p2 p3 p7 = some r → Gw P 3 (Q x2 x3 x4 r) (Pb c0 43 [] m1) (s1 x2 x3 x4 p1 p2 p3 p7)) {k p1 p2 p3 p7 p8 p9} (H : j3 x2 x3 x4 L1 k p1 p2 p3 p7 p8 p9 = some r) : Gw P 3 (Q x2 x3 x4 r) (Px c0 15563 [m1]) (s3 x2 x3 x4 p1 p2 p3 p7 p8 p9) := by
  unfold j3 at H
  refine Rg V_ok 1 [(6, hb 6)] az ?_
  refine Rg V_ok 0 [] az ?_
  rcases of_ite H with ⟨hb7, H⟩ | ⟨hb7, H⟩
  · refine C1 hb7 ?_
    refine Rg V_ok 0 [] az ?_
    exact Jm (tn [3, 14, 15, 16] 4) (j2_ok hL1 H)
  · refine C0 hb7 ?_
    exact Jm (tn [3, 14, 15, 16] 4) (j2_ok hL1 H)
noncomputable def b1 (x2 : T5477.T) (x3 x4 : T713d.T) (L1 : List Td285.T → Int → Int → List (T713d.T × T713d.T) → Option R) (k : Nat) (p1 : List Td285.T) (p2 p3 : Int) (p7 : List (T713d.T × T713d.T)) : Option R :=
  if (decide (p3 < p2)) = true then
  if 0 ≤ p3 then
    if p3 < (p1.length : Int) then
      (f_topo_both.f k (att Td285 p1 p3)).bind fun y4 =>
        if (!(dmHas (V := T713d) T713d p7 y4.1)) = true then
          j3 x2 x3 x4 L1 k p1 p2 p3 (dmPut (V := T713d) T713d p7 y4.1 y4.2.1) y4.1 y4.2.1
        else
          j3 x2 x3 x4 L1 k p1 p2 p3 p7 y4.1 y4.2.1
    else none
  else none
else
  some (p7, ())
theorem b1_ok {r x2 x3 x4} {L1 : List Td285.T → Int → Int → List (T713d.T × T713d.T) → Option R} {m1 : Nat} (hL1 : ∀ p1 p2 p3 p7, L1 p1 p2 p3 p7 = some r → Gw P 3 (Q x2 x3 x4 r) (Pb c0 43 [] m1) (s1 x2 x3 x4 p1 p2 p3 p7)) {k p1 p2 p3 p7} (H : b1 x2 x3 x4 L1 k p1 p2 p3 p7 = some r) : Gw P 3 (Q x2 x3 x4 r) (Px c0 75 [m1]) (s1 x2 x3 x4 p1 p2 p3 p7) := by
  unfold b1 at H
  refine Rg V_ok 0 [] az ?_
  rcases of_ite H with ⟨hb1, H⟩ | ⟨hb1, H⟩
  · refine C1 hb1 ?_
    obtain ⟨n2, H⟩ := of_if H
    obtain ⟨n3, H⟩ := of_if H
    refine Rg V_ok 1 [(2, hb 4)] (ac n2 (ac n3 az)) ?_
    obtain ⟨y4, e5, H⟩ := of_bind H
    refine Rg V_ok 2 [(1, hr f_topo_both.S y4), (5, hb 5), (6, hb 6)] (ac (f_topo_both.rl e5) az) ?_
    refine Rg V_ok 1 [(6, hb 7)] az ?_
    refine Rg V_ok 0 [] az ?_
    rcases of_ite H with ⟨hb6, H⟩ | ⟨hb6, H⟩
    · refine C1 hb6 ?_
      refine Rg V_ok 0 [] az ?_
      exact Jm (tl [3, 6, 7, 14, 15, 16] [0, 1, 2, 3, 5, 6]) (j3_ok hL1 H)
    · refine C0 hb6 ?_
      exact Jm (tl [3, 6, 7, 14, 15, 16] [0, 1, 2, 3, 5, 6]) (j3_ok hL1 H)
  · refine C0 hb1 ?_
    refine Rg V_ok 0 [] az ?_
    obtain rfl := Option.some.inj H
    exact Lq (tn [2] 4)
noncomputable def l1 (x2 : T5477.T) (x3 x4 : T713d.T) (k : Nat) : Nat → List Td285.T → Int → Int → List (T713d.T × T713d.T) → Option R
  | 0, _, _, _, _ => none
  | m + 1, p1, p2, p3, p7 => b1 x2 x3 x4 (l1 x2 x3 x4 k m) k p1 p2 p3 p7
theorem l1_ok {r x2 x3 x4} (k : Nat) : ∀ (m1 : Nat) (p1 : List Td285.T) (p2 p3 : Int) (p7 : List (T713d.T × T713d.T)), l1 x2 x3 x4 k m1 p1 p2 p3 p7 = some r → Gw P 3 (Q x2 x3 x4 r) (Pb c0 43 [] m1) (s1 x2 x3 x4 p1 p2 p3 p7)
  | 0, _, _, _, _, H => by cases H
  | m1 + 1, p1, p2, p3, p7, H => SU (by kernel_rfl) (b1_ok (l1_ok k m1) H)
noncomputable def f (k : Nat) (x1 x2 : T5477.T) (x3 x4 : T713d.T) : Option R :=
  l1 x2 x3 x4 k k x1.2.2 (x1.2.2.length : Int) 0 []
theorem f_ok {r k x1 x2 x3 x4} (H : f k x1 x2 x3 x4 = some r) : Gw P 3 (Q x2 x3 x4 r) (Px c0 1 []) (s0 x1 x2 x3 x4) := by
  unfold f at H
  refine Rg V_ok 1 [(0, hb 3)] az ?_
  refine Rg V_ok 1 [(0, hb 4)] az ?_
  refine Rg V_ok 0 [] az ?_
  exact LP k (Jm (tl [3, 14, 15, 16] [0, 1, 2, 4]) (l1_ok k k x1.2.2 (x1.2.2.length : Int) 0 [] H))
theorem ok {r k x1 x2 x3 x4} (H : f k x1 x2 x3 x4 = some r) : W P 3 c0 (s0 x1 x2 x3 x4) (CallQ 3 (out x2 x3 x4 r)) := of_G (f_ok H)
theorem at_ : FnAt P 48 49 c0 Go.Proofs.Try.f48.results := fnAt Go.Proofs.Try.func48 (by kernel_rfl) (by decide) (by kernel_rfl) (by kernel_rfl)
end i_topo_joined_2f5
/-! ### function 56, wayfinder/topo.Far -/
namespace f_topo_Far
noncomputable def c0 : Code := (Go.Proofs.Try.f56.body).getD .skip
abbrev ps : Sg := [(true, T5477), (false, (.int .i64)), (false, (.int .i64))]
abbrev rs : Sg := [(false, (.int .i64)), (false, (.int .i64)), (false, .bool)]
noncomputable def V : Env := { tt := tt, Γ := slk [(49, f_topo_end_is.S)] }
theorem V_ok : EnvOk P V := { ck := tt_ck, fits := slk_cons f_topo_end_is.fits (slk_nil), mixed := mixed }
abbrev R := Tup rs
noncomputable abbrev Q (r : R) : Exit → St → Prop := Qr tt Go.Proofs.Try.f56.results ⟨ps, rs, .any, none, fun _ _ => True⟩ r
noncomputable def s1 (p1 : Bool) (p2 : T713d.T) : St := ⟨34, [(10, .cv (.one (.ptr 0 0))), (29, .cv (.one (.bool p1)))], [(.box 2, [.i p2.1, .i p2.2])]⟩
noncomputable def j1 (k : Nat) (p1 : Bool) (p2 : T713d.T) : Option R :=
  if p1 = true then
  some ((0 : Int), ((0 : Int), (false, ())))
else
  some (p2.1, (p2.2, (true, ())))
theorem j1_ok {r} {k p1 p2} (H : j1 k p1 p2 = some r) : Gw P 0 (Q r) (Px c0 55 []) (s1 p1 p2) := by
  unfold j1 at H
  rcases of_ite H with ⟨hb5, H⟩ | ⟨hb5, H⟩
  · refine C1 hb5 ?_
    refine Rg V_ok 0 [] az ?_
    exact Lf (Eq.trans (by kernel_rfl) H)
  · refine C0 hb5 ?_
    refine Rg V_ok 0 [] (ac (show 0 ≤ (0 : Int) by decide) (ac (show (0 : Int) < (2 : Int) by decide) (ac (show 0 ≤ (1 : Int) by decide) (ac (show (1 : Int) < (2 : Int) by decide) az)))) ?_
    exact Lf (Eq.trans (by kernel_rfl) H)
noncomputable def f (k : Nat) (a1 : T5477.T) (a2 a3 : Int) : Option R :=
  (i_topo_joined_042.f k a1 a1 (a2, a3)).bind fun y1 =>
    if (!(dmHas (V := T713d) T713d y1.1 (a2, a3))) = true then
      j1 k true (dmGet (V := T713d) T713d y1.1 (a2, a3) (0, 0))
    else
      (f_topo_end_is.f k (a2, a3) a1).bind fun y3 =>
        j1 k (!y3.1) (dmGet (V := T713d) T713d y1.1 (a2, a3) (0, 0))
noncomputable def S : Spec := ⟨ps, rs, .any, none, fun x r => ∃ k, f k x.1 x.2.1 x.2.2.1 = some r⟩
theorem rl {k a1 a2 a3 r} (e : f k a1 a2 a3 = some r) : S.rel (a1, a2, a3, ()) r := ⟨k, e⟩
theorem f_ok {r k a1 a2 a3} (H : f k a1 a2 a3 = some r) : Gw P 0 (Q r) (Px c0 1 []) (⟨34, [(0, .cv (.agg (encC .any T5477 a1))), (1, .cv (.one (.i a2))), (2, .cv (.one (.i a3)))], []⟩) := by
  unfold f at H
  refine Rg V_ok 1 [(0, hb 0)] az ?_
  refine Rg V_ok 1 [(3, hb 1)] az ?_
  obtain ⟨y1, e2, H⟩ := of_bind H
  let x : Nx := (Px c0 11 [])
  let t0 : St := ⟨34, [(3, .cv (.one (.ptr 0 0))), (9, .cv (.one (.ptr 1 0)))], [(.box 3, (encC .any T5477 a1)), (.box 2, [.i a2, .i a3])]⟩
  refine Jm (x' := x) (τ := t0) (tn [3, 9] 2) ?_
  let Φ := phiX P 0 (Q r) x
  let t1 : St := stpS V x 0 [] 0 (tn [3, 9, 16] 2) t0
  let t2 : St := stpS V x 0 [] 2 (tn [3, 9, 18] 2) t0
  let t3 : St := stpS V x 1 [(7, hb 2)] 7 (tn [3, 9, 10] 3) t0
  let t4 : St := clT V.tt x 1 Go.Proofs.Try.f48.results (tn [3, 9, 17] 3) t1 (i_topo_joined_042.out a1 (a2, a3) y1)
  let t5 : St := stpS V x 0 [] 2 (tn [3, 9, 16, 18] 2) t1
  let t6 : St := stpS V x 1 [(7, hb 2)] 7 (tn [3, 9, 10, 16] 3) t1
  let t7 : St := stpS V x 1 [(7, hb 2)] 7 (tn [3, 9, 10, 18] 3) t2
  let t8 : St := stpS V x 0 [] 2 (tn [3, 9, 17, 18] 3) t4
  let t9 : St := stpS V x 1 [(7, hb 3)] 7 (tl [3, 9, 10, 17] [0, 1, 3, 2]) t4
  let t10 : St := stpS V x 1 [(7, hb 2)] 7 (tn [3, 9, 10, 16, 18] 3) t5
  let t11 : St := stpS V x 0 [] 3 (tn [3, 9, 19] 2) t8
  let t12 : St := stpS V x 1 [(7, hb 3)] 7 (tl [3, 9, 10, 17, 18] [0, 1, 3, 2]) t8
  let t13 : St := stpS V x 0 [] 4 (tn [3, 9, 15] 2) t11
  let t14 : St := stpS V x 0 [] 3 (tn [3, 9, 10, 19] 3) t12
  let t15 : St := stpS V x 0 [] 5 (tn [3, 9, 15, 20] 2) t13
  let t16 : St := stpS V x 0 [] 4 (tn [3, 9, 10, 15] 3) t14
  let t17 : St := stpS V x 0 [] 6 (tn [3, 9, 20, 21] 2) t15
  let t18 : St := stpS V x 0 [] 5 (tn [3, 9, 10, 15, 20] 3) t16
  let t19 : St := stpS V x 1 [(7, hb 2)] 7 (tn [3, 9, 10, 20, 21] 3) t17
  let t20 : St := stpS V x 0 [] 8 (tn [3, 9, 10, 21] 3) t19
  let t21 : St := stpS V x 0 [] 9 (tn [3, 9, 10, 11] 3) t20
  have w21 : WA P 0 (opsX x) 0 (bs 10 1023) Φ t21 := by
    refine WA_nil (by kernel_rfl) (RAn (by kernel_rfl) ?_)
    rcases of_ite H with ⟨hb4, H⟩ | ⟨hb4, H⟩
    · refine Rg V_ok 0 [(1, {bv := some true})] (ac hb4 az) ?_
      exact Jm (tl [10, 29] [2]) (j1_ok H)
    · obtain ⟨y3, e6, H⟩ := of_bind H
      refine Rg V_ok 0 [(1, {bv := some false}), (5, hr f_topo_end_is.S y3)] (ac hb4 (ac (f_topo_end_is.rl e6) az)) ?_
      exact Jm (tl [10, 29] [2]) (j1_ok H)
  have w20 : WA P 0 (opsX x) 1 (bs 10 511) Φ t20 := WT V_ok [] 9 (tn [3, 9, 10, 11] 3) az w21
  have w19 : WA P 0 (opsX x) 2 (bs 10 255) Φ t19 := WAs (an (WE V_ok 0 [] 8 (tn [3, 9, 10, 21] 3) az w20) aN)
  have w18 : WA P 0 (opsX x) 3 (bs 10 191) Φ t18 := WT V_ok [] 6 (tn [3, 9, 10, 20, 21] 3) az w19
  have w17 : WA P 0 (opsX x) 3 (bs 10 127) Φ t17 := WAs (an (WE V_ok 1 [(7, hb 2)] 7 (tn [3, 9, 10, 20, 21] 3) az w19) aN)
  have w16 : WA P 0 (opsX x) 4 (bs 10 159) Φ t16 := WT V_ok [] 5 (tn [3, 9, 10, 15, 20] 3) az w18
  have w15 : WA P 0 (opsX x) 4 (bs 10 63) Φ t15 := WT V_ok [] 6 (tn [3, 9, 20, 21] 2) az w17
  have w14 : WA P 0 (opsX x) 5 (bs 10 143) Φ t14 := WT V_ok [] 4 (tn [3, 9, 10, 15] 3) az w16
  have w13 : WA P 0 (opsX x) 5 (bs 10 31) Φ t13 := WT V_ok [] 5 (tn [3, 9, 15, 20] 2) az w15
  have w12 : WA P 0 (opsX x) 6 (bs 10 135) Φ t12 := WAs (an (WE V_ok 0 [] 3 (tn [3, 9, 10, 19] 3) az w14) aN)
  have w11 : WA P 0 (opsX x) 6 (bs 10 15) Φ t11 := WT V_ok [] 4 (tn [3, 9, 15] 2) az w13
  have w10 : WA P 0 (opsX x) 7 (bs 10 133) Φ t10 := WAs (an (WC V_ok 1 (tn [3, 9, 10, 17, 18] 4) i_topo_joined_2f5.at_ (i_topo_joined_2f5.ok (show i_topo_joined_2f5.f k a1 a1 (a2, a3) (0, 0) = some y1 from tr e2)) w12) aN)
  have w9 : WA P 0 (opsX x) 7 (bs 10 131) Φ t9 := WAs (an (WE V_ok 0 [] 2 (tn [3, 9, 10, 17, 18] 4) az w12) aN)
  have w8 : WA P 0 (opsX x) 7 (bs 10 7) Φ t8 := WAs (an (WE V_ok 0 [] 3 (tn [3, 9, 19] 2) az w11) (an (WE V_ok 1 [(7, hb 3)] 7 (tl [3, 9, 10, 17, 18] [0, 1, 3, 2]) az w12) aN))
  have w7 : WA P 0 (opsX x) 8 (bs 10 132) Φ t7 := WAs (an (WE V_ok 0 [] 0 (tn [3, 9, 10, 16, 18] 3) az w10) aN)
  have w6 : WA P 0 (opsX x) 8 (bs 10 129) Φ t6 := WAs (an (WC V_ok 1 (tn [3, 9, 10, 17] 4) i_topo_joined_2f5.at_ (i_topo_joined_2f5.ok (show i_topo_joined_2f5.f k a1 a1 (a2, a3) (0, 0) = some y1 from tr e2)) w9) (an (WE V_ok 0 [] 2 (tn [3, 9, 10, 16, 18] 3) az w10) aN))
  have w5 : WA P 0 (opsX x) 8 (bs 10 5) Φ t5 := WAs (an (WC V_ok 1 (tn [3, 9, 17, 18] 3) i_topo_joined_042.at_ (i_topo_joined_042.ok e2) w8) (an (WE V_ok 1 [(7, hb 2)] 7 (tn [3, 9, 10, 16, 18] 3) az w10) aN))
  have w4 : WA P 0 (opsX x) 8 (bs 10 3) Φ t4 := WAs (an (WE V_ok 0 [] 2 (tn [3, 9, 17, 18] 3) az w8) (an (WE V_ok 1 [(7, hb 3)] 7 (tl [3, 9, 10, 17] [0, 1, 3, 2]) az w9) aN))
  have w3 : WA P 0 (opsX x) 9 (bs 10 128) Φ t3 := WAs (an (WE V_ok 0 [] 0 (tn [3, 9, 10, 16] 3) az w6) (an (WE V_ok 0 [] 2 (tn [3, 9, 10, 18] 3) az w7) aN))
  have w2 : WA P 0 (opsX x) 9 (bs 10 4) Φ t2 := WAs (an (WE V_ok 0 [] 0 (tn [3, 9, 16, 18] 2) az w5) (an (WE V_ok 1 [(7, hb 2)] 7 (tn [3, 9, 10, 18] 3) az w7) aN))
  have w1 : WA P 0 (opsX x) 9 (bs 10 1) Φ t1 := WAs (an (WC V_ok 1 (tn [3, 9, 17] 3) i_topo_joined_042.at_ (i_topo_joined_042.ok e2) w4) (an (WE V_ok 0 [] 2 (tn [3, 9, 16, 18] 2) az w5) (an (WE V_ok 1 [(7, hb 2)] 7 (tn [3, 9, 10, 16] 3) az w6) aN)))
  have w0 : WA P 0 (opsX x) 10 (bs 10 0) Φ t0 := WAs (an (WE V_ok 0 [] 0 (tn [3, 9, 16] 2) az w1) (an (WE V_ok 0 [] 2 (tn [3, 9, 18] 2) az w2) (an (WE V_ok 1 [(7, hb 2)] 7 (tn [3, 9, 10] 3) az w3) aN)))
  exact RA V_ok 10 (by kernel_rfl) (by kernel_rfl) (by kernel_rfl) w0
theorem fits : Fits P 56 S := fits_of V_ok Go.Proofs.Try.func56 (by kernel_rfl) (by decide) (by decide) rfl (fun x r ⟨k, H⟩ => of_G (f_ok H))
end f_topo_Far
/-! ### function 42, wayfinder/path.Step -/
namespace f_path_Step
noncomputable def c0 : Code := (Go.Proofs.Try.f42.body).getD .skip
abbrev ps : Sg := [(true, T5477), (false, (.slice (.slice T1383))), (true, T70a7)]
abbrev rs : Sg := [(true, Td8a9), (true, T70a7)]
noncomputable def V : Env := { tt := tt, Γ := slk [(54, f_conf_At.S), (55, f_pick_First.S), (56, f_topo_Far.S)] }
theorem V_ok : EnvOk P V := { ck := tt_ck, fits := slk_cons f_conf_At.fits (slk_cons f_pick_First.fits (slk_cons f_topo_Far.fits (slk_nil))), mixed := mixed }
abbrev R := Tup rs
noncomputable abbrev Q (r : R) : Exit → St → Prop := Qr tt Go.Proofs.Try.f42.results ⟨ps, rs, .any, none, fun _ _ => True⟩ r
noncomputable def s1 (p1 : Td8a9.T) (p2 : T70a7.T) (p3 : Td8a9.T) : St := ⟨89, [(6, .cv (.one (.ptr 0 0))), (7, .cv (.one (.ptr 1 0))), (8, .cv (.one (.ptr 2 0)))], [(.box 7, (encC .any Td8a9 p1)), (.box 7, (encC .any T70a7 p2)), (.box 7, (encC .any Td8a9 p3))]⟩
noncomputable def j1 (k : Nat) (p1 : Td8a9.T) (p2 : T70a7.T) (p3 : Td8a9.T) : Option R :=
  some (p3, (((0, (0, (0, (0, 0)))), (0, 0)), ()))
theorem j1_ok {r} {k p1 p2 p3} (H : j1 k p1 p2 p3 = some r) : Gw P 0 (Q r) (Px c0 63 []) (s1 p1 p2 p3) := by
  unfold j1 at H
  refine Rg V_ok 0 [] az ?_
  exact Lf (Eq.trans (by kernel_rfl) H)
noncomputable def f (k : Nat) (a1 : T5477.T) (a2 : List (List T1383.T)) (a3 : T70a7.T) : Option R :=
  (f_conf_At.f k a2 a3.2.1).bind fun y1 =>
    (f_pick_First.f k y1.1 a3.2.2 a3.1.2.2.1).bind fun y3 =>
      if (decide (a3.1.2.2.2.1 < (1 : Int))) = true then
        j1 k (0, (0, (0, (0, (0, (0, 0)))))) ((0, (0, (0, (0, 0)))), (0, 0)) (0, (a3.1.1, (a3.2.1, (a3.2.2, (a3.1.2.2.2.2, (5, 0))))))
      else
        if (decide (y3.1 < (0 : Int))) = true then
          j1 k (0, (0, (0, (0, (0, (0, 0)))))) ((0, (0, (0, (0, 0)))), (0, 0)) (0, (a3.1.1, (a3.2.1, (a3.2.2, (a3.1.2.2.2.2, (3, 0))))))
        else
          if 0 ≤ y3.1 then
            if y3.1 < (y1.1.length : Int) then
              if ((((((att T1383 y1.1 y3.1).2).2).2).1) != (1 : Int)) = true then
                j1 k (0, (0, (0, (0, (0, (0, 0)))))) ((0, (0, (0, (0, 0)))), (0, 0)) (0, (a3.1.1, (a3.2.1, (a3.2.2, (a3.1.2.2.2.2, (2, 0))))))
              else
                (f_topo_Far.f k a1 a3.2.1 (((((att T1383 y1.1 y3.1).2).2).2).2)).bind fun y10 =>
                  if y10.2.2.1 = true then
                    some ((0, (a3.1.1, (a3.2.1, (a3.2.2, (a3.1.2.2.2.2, (0, ((((att T1383 y1.1 y3.1).2).2).2).2)))))), (((a3.1.1, (a3.1.2.1, (a3.1.2.2.1, ((IntKind.i64.wrap (a3.1.2.2.2.1 - 1)), a3.1.2.2.2.2)))), (y10.1, y10.2.1)), ()))
                  else
                    j1 k (0, (0, (0, (0, (0, (0, 0)))))) ((0, (0, (0, (0, 0)))), (0, 0)) (0, (a3.1.1, (a3.2.1, (a3.2.2, (a3.1.2.2.2.2, (1, ((((att T1383 y1.1 y3.1).2).2).2).2))))))
            else none
          else none
noncomputable def S : Spec := ⟨ps, rs, .any, none, fun x r => ∃ k, f k x.1 x.2.1 x.2.2.1 = some r⟩
theorem rl {k a1 a2 a3 r} (e : f k a1 a2 a3 = some r) : S.rel (a1, a2, a3, ()) r := ⟨k, e⟩
theorem f_ok {r k a1 a2 a3} (H : f k a1 a2 a3 = some r) : Gw P 0 (Q r) (Px c0 1 []) (⟨89, [(0, .cv (.agg (encC .any T5477 a1))), (1, .cv (.one (.sl (.slice T1383) a2 .any))), (2, .cv (.agg (encC .any T70a7 a3)))], []⟩) := by
  unfold f at H
  refine Rg V_ok 4 [(0, hb 0), (1, hb 1), (2, hb 2), (3, hb 3)] az ?_
  refine Rg V_ok 1 [(11, hb 4)] az ?_
  obtain ⟨y1, e2, H⟩ := of_bind H
  refine Rg V_ok 0 [(3, hr f_conf_At.S y1)] (ac (f_conf_At.rl e2) az) ?_
  obtain ⟨y3, e4, H⟩ := of_bind H
  refine Rg V_ok 0 [(6, hr f_pick_First.S y3)] (ac (f_pick_First.rl e4) az) ?_
  refine Rg V_ok 0 [] az ?_
  rcases of_ite H with ⟨hb5, H⟩ | ⟨hb5, H⟩
  · refine C1 hb5 ?_
    refine Rg V_ok 0 [] az ?_
    exact Jm (tl [6, 7, 8] [2, 3, 4]) (j1_ok H)
  · refine C0 hb5 ?_
    refine Rg V_ok 0 [] az ?_
    rcases of_ite H with ⟨hb6, H⟩ | ⟨hb6, H⟩
    · refine C1 hb6 ?_
      refine Rg V_ok 0 [] az ?_
      exact Jm (tl [6, 7, 8] [2, 3, 4]) (j1_ok H)
    · refine C0 hb6 ?_
      obtain ⟨n7, H⟩ := of_if H
      obtain ⟨n8, H⟩ := of_if H
      refine Rg V_ok 0 [] (ac n7 (ac n8 az)) ?_
      rcases of_ite H with ⟨hb9, H⟩ | ⟨hb9, H⟩
      · refine C1 hb9 ?_
        refine Rg V_ok 0 [] az ?_
        exact Jm (tl [6, 7, 8] [2, 3, 4]) (j1_ok H)
      · refine C0 hb9 ?_
        refine Rg V_ok 0 [] (ac n7 (ac n8 az)) ?_
        obtain ⟨y10, e11, H⟩ := of_bind H
        refine Rg V_ok 0 [(5, hr f_topo_Far.S y10)] (ac (f_topo_Far.rl e11) az) ?_
        refine Rg V_ok 0 [] az ?_
        rcases of_ite H with ⟨hb12, H⟩ | ⟨hb12, H⟩
        · refine C1 hb12 ?_
          refine Rg V_ok 0 [] az ?_
          refine Rg V_ok 0 [] az ?_
          refine Rg V_ok 0 [] az ?_
          exact Lf (Eq.trans (by kernel_rfl) H)
        · refine C0 hb12 ?_
          exact Jm (tl [6, 7, 8] [2, 3, 4]) (j1_ok H)
theorem fits : Fits P 42 S := fits_of V_ok Go.Proofs.Try.func42 (by kernel_rfl) (by decide) (by decide) rfl (fun x r ⟨k, H⟩ => of_G (f_ok H))
end f_path_Step

namespace f_path_Walk
attribute [local go_sem] Oper.semAt_some
structure Aside0 (p : Prop) : Prop where mk :: (out : p)
def hA (x : Td8a9.T) : Array Value := #[.int .i64 x.1, .int .i64 x.2.1, .int .i64 x.2.2.1, .int .i64 x.2.2.2.1, .int .i64 x.2.2.2.2.1, .int .i64 x.2.2.2.2.2.1, .int .i64 x.2.2.2.2.2.2]
def hE (x : Td8a9.T) : Array Value := #[.agg (hA x)]
/-- hops that may be read, wherever the world goes on from here -/
def Hops (w : World) (A : Option Addr) (xs : List Td8a9.T) : Prop := ∀ (i : Nat) (x : Td8a9.T), xs[i]? = some x → ∃ ad, A = some ad ∧ w.cell? (ad.add (i * 7)) = some (.int .i64 x.1) ∧ w.cell? ⟨(ad.add (i * 7)).block, (ad.add (i * 7)).off + 1, none⟩ = some (.int .i64 x.2.1) ∧ w.cell? ⟨(ad.add (i * 7)).block, (ad.add (i * 7)).off + 2, none⟩ = some (.int .i64 x.2.2.1) ∧ w.cell? ⟨(ad.add (i * 7)).block, (ad.add (i * 7)).off + 3, none⟩ = some (.int .i64 x.2.2.2.1) ∧ w.cell? ⟨(ad.add (i * 7)).block, (ad.add (i * 7)).off + 4, none⟩ = some (.int .i64 x.2.2.2.2.1) ∧ w.cell? ⟨(ad.add (i * 7)).block, (ad.add (i * 7)).off + 5, none⟩ = some (.int .i64 x.2.2.2.2.2.1) ∧ w.cell? ⟨(ad.add (i * 7)).block, (ad.add (i * 7)).off + 6, none⟩ = some (.int .i64 x.2.2.2.2.2.2)
theorem hops_of {F : Nat → Prop} {w : World} {A : Option Addr} {n c : Nat} {xs : List Td8a9.T} (h : RepD F w (.slice Td8a9) xs [.slice A n c]) : n = xs.length ∧ Hops w A xs := by
  obtain ⟨A', c', inner, e, hc, hE, hr⟩ := h
  simp only [List.cons.injEq, Value.slice.injEq, and_true] at e
  obtain ⟨rfl, rfl, rfl⟩ := e
  refine ⟨rfl, fun i x hx => ?_⟩
  obtain ⟨cs, h1, h2⟩ := El.get (s := 7) (fun x c h => RepD.len h) hE hx
  obtain ⟨q1, r1, rfl, rfl, q2, r2, rfl, rfl, q3, r3, rfl, rfl, q4, r4, rfl, rfl, q5, r5, rfl, rfl, q6, r6, rfl, rfl, rfl⟩ := h1
  have h3 : ∀ j u, ([Value.int .i64 x.1] ++ ([Value.int .i64 x.2.1] ++ ([Value.int .i64 x.2.2.1] ++ ([Value.int .i64 x.2.2.2.1] ++ ([Value.int .i64 x.2.2.2.2.1] ++ ([Value.int .i64 x.2.2.2.2.2.1] ++ [Value.int .i64 x.2.2.2.2.2.2]))))))[j]? = some u → ∃ b o, A = some ⟨b, o, none⟩ ∧ w.cell? ⟨b, o + (i * 7 + j), none⟩ = some u := fun j u hu => by
    obtain ⟨b, o, k1, _, k3⟩ := hr _ _ (h2 j u hu)
    exact ⟨b, o, k1, k3⟩
  obtain ⟨b, o, rfl, k0⟩ := h3 0 _ rfl
  have g : ∀ j u, ([Value.int .i64 x.1] ++ ([Value.int .i64 x.2.1] ++ ([Value.int .i64 x.2.2.1] ++ ([Value.int .i64 x.2.2.2.1] ++ ([Value.int .i64 x.2.2.2.2.1] ++ ([Value.int .i64 x.2.2.2.2.2.1] ++ [Value.int .i64 x.2.2.2.2.2.2]))))))[j]? = some u → w.cell? ⟨b, o + i * 7 + j, none⟩ = some u := fun j u hu => by
    obtain ⟨b', o', e, k⟩ := h3 j u hu
    cases e
    rw [Nat.add_assoc]
    exact k
  refine ⟨⟨b, o, none⟩, rfl, ?_⟩
  rw [Addr.add_plain]
  exact ⟨g 0 _ rfl, g 1 _ rfl, g 2 _ rfl, g 3 _ rfl, g 4 _ rfl, g 5 _ rfl, g 6 _ rfl⟩
theorem cell_alloc {wr : World} {B : Nat} {v : Value} (h : wr.cell? ⟨B, 0, none⟩ = some v) (o : Obj) : (wr.alloc o).cell? ⟨B, 0, none⟩ = some v := by
  by_cases hB : B < wr.heap.size
  · exact (World.cell?_of_block (w := wr) (a := ⟨B, 0, none⟩) (heap_alloc_old wr o hB)).trans h
  · unfold World.cell? at h
    rw [Array.getElem?_eq_none (by dsimp only; omega)] at h
    cases h
theorem row_cells {W : World} {b t : Nat} {x : Td8a9.T} (h : W.heap[b]? = some (.cells (hA x) t (0, 0))) : W.cell? ⟨b, 0, none⟩ = some (.int .i64 x.1) ∧ W.cell? ⟨b, 1, none⟩ = some (.int .i64 x.2.1) ∧ W.cell? ⟨b, 2, none⟩ = some (.int .i64 x.2.2.1) ∧ W.cell? ⟨b, 3, none⟩ = some (.int .i64 x.2.2.2.1) ∧ W.cell? ⟨b, 4, none⟩ = some (.int .i64 x.2.2.2.2.1) ∧ W.cell? ⟨b, 5, none⟩ = some (.int .i64 x.2.2.2.2.2.1) ∧ W.cell? ⟨b, 6, none⟩ = some (.int .i64 x.2.2.2.2.2.2) := by
  refine ⟨?_, ?_, ?_, ?_, ?_, ?_, ?_⟩ <;> (rw [cell_of_row _ _ _ _ _ _ h]; rfl)
theorem abides_below {J : List Td8a9.T → World → Prop} {B : Nat} (hJ : AbidesFrom B J) {ys : List Td8a9.T} {W W' : World} (h : J ys W) (hb : Below W.heap.size W W') : J ys W' :=
  hJ _ _ _ none h ⟨hb.os, hb.tape, hb.output, hb.size, fun k hk _ => hb.block k hk⟩ (fun r e => by cases e)
theorem filter_take {p : Td8a9.T → Bool} {xs : List Td8a9.T} {k : Nat} {x : Td8a9.T} (h : xs[k]? = some x) : (xs.take (k + 1)).filter p = (xs.take k).filter p ++ (if p x = true then [x] else []) := by
  rw [List.take_add_one, h, List.filter_append]
  simp only [Option.toList, List.filter_cons, List.filter_nil]
theorem below_then {B : Nat} {w w1 w2 : World} (h : Below B w w1) (hB : B ≤ w1.heap.size) (k : Below w1.heap.size w1 w2) : Below B w w2 :=
  h.trans ⟨k.os, k.tape, k.output, k.size, fun i hi => k.block i (Nat.lt_of_lt_of_le hi hB)⟩
def cellsOf (l : List Td8a9.T) : List Value := l.flatMap fun x => (hA x).toList
theorem cellsOf_app (a b : List Td8a9.T) : cellsOf (a ++ b) = cellsOf a ++ cellsOf b := List.flatMap_append
theorem enter_of {P : Program} {f : Nat} {fn : Func} {c : Code} (hf : P.funcs[f]? = some fn) (hb : fn.body = some c) (hn : fn.name ≠ "runtime.NumGoroutine") (args : Array Value) (w : World) : (callFunc f args).run P w = .ok (.enter f args) w := by
  simp [callFunc, hf, hb, hn]
theorem infoHop : ∃ i, Go.Proofs.Try.prog.info? 41 = some i ∧ i.zero = some (.agg #[.int .i64 0, .int .i64 0, .int .i64 0, .int .i64 0, .int .i64 0, .int .i64 0, .int .i64 0]) ∧ i.size = 7 ∧ i.bytes = 56 := by
  have h : (Go.Proofs.Try.prog.info? 41).map (fun i => (i.zero, i.size, i.bytes)) = some (some (.agg #[.int .i64 0, .int .i64 0, .int .i64 0, .int .i64 0, .int .i64 0, .int .i64 0, .int .i64 0]), 7, 56) := by kernel_rfl
  cases hi : Go.Proofs.Try.prog.info? 41 with
  | none => rw [hi] at h; cases h
  | some i =>
    rw [hi] at h
    simp only [Option.map_some, Option.some.injEq, Prod.mk.injEq] at h
    exact ⟨i, rfl, h⟩
theorem cell_row_new (W : World) (c : Array Value) (t : Nat) : ∀ j u, c.toList[j]? = some u → (W.alloc (.cells c t)).cell? ((⟨W.heap.size, 0, none⟩ : Addr).add j) = some u := by
  intro j u h
  rw [Addr.add_plain, cell_of_row _ _ _ _ _ _ (heap_alloc_new W (.cells c t)), Nat.zero_add, ← Array.getElem?_toList]
  exact h
theorem hA_one (x : Td8a9.T) : ∀ u ∈ (hA x).toList, u.oneCell' = true := by
  intro u hu
  simp only [hA, List.mem_cons, List.not_mem_nil, or_false] at hu
  rcases hu with rfl | rfl | rfl | rfl | rfl | rfl | rfl <;> rfl
theorem row_base {w : World} {B B' e size n : Nat} {v : Value} {xs : List Value} (hb : B ≤ B') (h : w.ownsRow B' e size v n xs) : w.ownsRow B e size v n xs := by
  refine ⟨h.1, h.2.imp id ?_⟩
  rintro ⟨g, cap, cur, e, h1, h2⟩
  exact ⟨g, cap, cur, e, Nat.le_trans hb h1, h2⟩
theorem hA_rep (F : Nat → Prop) (w : World) (x : Td8a9.T) : RepD F w Td8a9 x (hA x).toList := ⟨_, _, rfl, rfl, _, _, rfl, rfl, _, _, rfl, rfl, _, _, rfl, rfl, _, _, rfl, rfl, _, _, rfl, rfl, rfl⟩
theorem cells_rep (F : Nat → Prop) (w : World) : ∀ l : List Td8a9.T, El (RepD F w Td8a9) l (cellsOf l)
  | [] => rfl
  | x :: r => ⟨_, _, rfl, hA_rep F w x, cells_rep F w r⟩
theorem row_rep {F : Nat → Prop} {w : World} {B : Nat} {v : Value} {l : List Td8a9.T} (h : w.ownsRow B 41 7 v l.length (cellsOf l)) : RepD (fun b => F b ∨ B ≤ b ∧ b < w.heap.size) w (.slice Td8a9) l [v] := by
  obtain ⟨hl, ⟨rfl, h0⟩ | ⟨g, cap, cur, rfl, hg, hc, h1, h2, h3, h4⟩⟩ := h
  · have : l = [] := List.length_eq_zero_iff.1 h0
    subst this
    exact ⟨none, 0, [], rfl, Nat.le_refl _, rfl, fun j u hu => by simp at hu⟩
  · refine ⟨_, _, cellsOf l, rfl, h1, cells_rep _ _ l, fun j u hu => ⟨g, 0, rfl, .inr ⟨hg, (Array.getElem?_eq_some_iff.1 hc).1⟩, ?_⟩⟩
    rw [cell_of_row _ _ _ _ _ _ hc, Nat.zero_add, ← Array.getElem?_toList]
    rw [← h4, List.getElem?_take] at hu
    split at hu
    · exact hu
    · cases hu
/-- A loop over an iterator that writes a block Bf of its own between the rounds; no round leaves early. -/
theorem rangeW {α : Type} {F : Fence} {n : Nat} {P : Program} {g : Operand} {ps : Array Tmp} {assign body : Code} {Q : Exit → Act → World → Prop} {a : Act} {w : World}
    (hro : F.round = none) (h1 : 1 ≤ n) {gf : Nat} {lb : Array Value} (hg : a.eval g = .func (.func gf) #[] lb) (hFg : F.fn gf) (eg : ∀ args w, (callFunc gf args).run P w = .ok (.enter gf args) w)
    {encs : α → Array Value} (hps : ∀ x, (encs x).size = ps.size) (Bf : Nat) (hBf : Bf < w.heap.size) (Ka Kp : World → World → Prop) (hKt : ∀ {A B C : World}, Ka A B → Ka B C → Ka A C) (hKj : ∀ {A B C D : World}, Ka A B → Kp B C → Ka C D → Kp A D)
    (hKb : ∀ (W : World) (l : Nat) (o o' : Obj), w.heap.size ≤ l → W.heap[l]? = some o → o.isCells = false → o.isWalk = false → Ka W (W.putObj l o'))
    (S : List α → Prop) (N : Nat) (I : List α → World → Prop) (hI : OwnFrom w.heap.size I) (hIB : ∀ s A B row, I s A → A.grownBy B row → (∀ r, row = some r → r = Bf) → I s B) (h0 : I [] w)
    (hseq : ∀ (l : Nat) (J : List α → World → Prop) (W : World), Below w.heap.size w W → (∀ s A B row, J s A → A.grownBy B row → (∀ r, row = some r → r = Bf) → J s B) → (∀ s A, J s A → I s A) →
      (∀ pre x W1, J pre W1 → pre.length < N → YieldAt F (n - 1 - 1) P l (encs x) W1 fun e W' => e = .returned (.bool true) ∧ J (pre ++ [x]) W' ∧ Kp W1 W') → J [] W →
      CallsIn F (n - 1) P gf (#[.func (.yield l) #[] #[]] ++ lb) W fun e W' => (∃ v, e = .returned v) ∧ ∃ xs, S xs ∧ J xs W')
    (Ax : α → Act → World → Prop) (hAx : ∀ x a', OwnFrom w.heap.size (fun (_ : Unit) W => Ax x a' W))
    (hassign : ∀ (l : Nat) (pre : List α) (x : α) (W : World) (K : Act → World → Prop), I pre W → (∀ a' W', KeepsFrom w.heap.size W W' → Ka W W' → I pre W' → Ax x a' W' → K a' W') →
      assign.wpIn (F.inRound l) (n - 1 - 1) P (Exit.then K (fun _ _ _ => False)) { tmps := (ps.zip (encs x)).foldl (fun t (p, v) => t.setIfInBounds p v) a.tmps, defers := [] } W)
    (hbody : ∀ (l : Nat) (pre : List α) (x : α) (a' : Act) (W : World), I pre W → Ax x a' W → pre.length < N → body.wpIn (F.inRound l) (n - 1 - 1) P (Exit.then (fun _ W' => KeepsFrom w.heap.size W W' ∧ Kp W W' ∧ I (pre ++ [x]) W') (fun _ _ _ => False)) a' W)
    (hdone : ∀ (D : Nat) (xs : List α) (W : World), w.heap.size ≤ D → S xs → I xs W → W.heap[D]? = some (.deferred (some [])) → Q .normal { a with defers := { target := .collected D, args := #[] } :: a.defers } W) :
    (Code.rangeFunc g ps assign body).wpIn F n P Q a w := by
  refine wpIn_rangeFunc fun fn hfn => ?_
  rw [hro]
  generalize hrec : (fun (st : LoopState) (pe : Option Code) => ({ state := st, pending := pe, fn, tmps := a.tmps, params := ps, assign, body, defers := w.heap.size } : Loop)) = rec
  generalize hW1 : (w.alloc (.deferred (some []))).alloc (.loop (rec .ready none)) = W1
  have z1 : W1.heap.size = w.heap.size + 2 := by rw [← hW1]; simp
  have hL1 : W1.heap[w.heap.size + 1]? = some (.loop (rec .ready none)) := by
    rw [← hW1]
    have := heap_alloc_new (w.alloc (.deferred (some []))) (.loop (rec .ready none))
    rwa [World.size_alloc] at this
  have hK1 : W1.heap[w.heap.size]? = some (.deferred (some [])) := by
    rw [← hW1]
    exact (heap_alloc_old _ _ (by simp)).trans (heap_alloc_new w _)
  have hI1 : I [] W1 := by rw [← hW1]; exact hI.alloc _ (hI.alloc _ h0)
  have hb1 : Below w.heap.size w W1 := by rw [← hW1]; exact ((Below.refl _ w).alloc (Nat.le_refl _) _).alloc (by simp) _
  refine ⟨w.heap.size + 1, [{ target := .collected w.heap.size, args := #[] }], W1, { target := .fn (.func gf) lb, args := #[.func (.yield (w.heap.size + 1)) #[] #[]] }, W1, gf, #[.func (.yield (w.heap.size + 1)) #[] #[]] ++ lb, W1, ?_, ?_, ?_, ?_, fun _ => h1, ?_⟩
  · rw [← hW1, ← hrec]; exact run_enterLoop_outer _ _ _ _ _
  · simp only [resolve, hg]; simp [go_sem]
  · intro f' hf'; simp [Target.leads] at hf'; subst hf'; exact hFg
  · simp [invoke, go_sem, eg]
  have keep : ∀ {A B : World} {row : Option Nat} {j : Nat} {o : Obj}, A.grownBy B row → (∀ r, row = some r → r = Bf) → w.heap.size ≤ j → A.heap[j]? = some o → B.heap[j]? = some o := fun hg' hr hj ho =>
    (hg'.block _ (Array.getElem?_eq_some_iff.1 ho).1 (fun e => by have := hr _ e.symm; omega)).trans ho
  refine (hseq (w.heap.size + 1) (fun pre W => I pre W ∧ W.heap[w.heap.size + 1]? = some (.loop (rec .ready none)) ∧ W.heap[w.heap.size]? = some (.deferred (some []))) W1 hb1
    (fun s A B row hs hg' hr => ⟨hIB s A B row hs.1 hg' hr, keep hg' hr (by omega) hs.2.1, keep hg' hr (Nat.le_refl _) hs.2.2⟩) (fun _ _ hs => hs.1) ?_ ⟨hI1, hL1, hK1⟩).mono ?_
  · rintro pre x W ⟨hi, hl, hk⟩ hlen
    have hy := run_yield (P := P) (args := encs x) hl (by rw [← hrec]; exact hps x)
    rw [← hrec] at hy
    refine ⟨fn, _, assign, body, hy, roundIn_of_wpIn hfn (hassign _ pre x W _ hi fun a' Wa hkf hkp hia hax => ?_)⟩
    replace hl := hkf.same _ _ (by omega) hl rfl
    replace hk := hkf.same _ _ (Nat.le_refl _) hk rfl
    have hlt : w.heap.size + 1 < Wa.heap.size := (Array.getElem?_eq_some_iff.1 hl).1
    refine ⟨_, run_beginRound hl (by rw [← hrec]), ?_⟩
    have hl2 : (Wa.putObj (w.heap.size + 1) (.loop { rec .ready none with state := .busy })).heap[w.heap.size + 1]? = some (.loop { rec .ready none with state := .busy }) := World.putObj_heap_same hlt
    have hk2 : (Wa.putObj (w.heap.size + 1) (.loop { rec .ready none with state := .busy })).heap[w.heap.size]? = some (.deferred (some [])) := (World.putObj_heap_other (by omega)).trans hk
    have hw2 := hKb Wa _ _ (.loop { rec .ready none with state := .busy }) (by omega) hl rfl rfl
    refine wpIn_mono (hbody _ pre x a' _ (hI.putObj _ hia (by omega) hl rfl) ((hAx x a').putObj (s := ()) _ hax (by omega) hl rfl) hlen) ?_
    rintro e a3 W3 hp
    cases e with
    | normal =>
      obtain ⟨hk3, hkp3, hi3⟩ := hp
      have hl3 := hk3.same _ _ (by omega) hl2 rfl
      have hr := run_endRound (P := P) none hl3
      rw [← hrec] at hr hl3
      refine ⟨_, _, hr, rfl, ⟨hI.putObj _ hi3 (by omega) hl3 rfl, by rw [← hrec]; exact World.putObj_heap_same (Array.getElem?_eq_some_iff.1 hl3).1, (World.putObj_heap_other (by omega)).trans (hk3.same _ _ (Nat.le_refl _) hk2 rfl)⟩, hKj (hKt hkp hw2) hkp3 (hKb _ _ _ _ (by omega) hl3 rfl rfl)⟩
    | ret => exact hp.elim
    | exit id => exact hp.elim
    | goto t => exact hp.elim
    | panic ch => exact hp.elim
    | outgrown => exact hp.elim
  · rintro e W2 ⟨⟨v, rfl⟩, xs, hS, hi, hl, hk⟩
    have hr := run_endLoop (P := P) hl (by rw [← hrec]; simp)
    rw [← hrec] at hr
    exact ⟨none, _, hr, hdone _ xs _ (Nat.le_refl _) hS (hI.putObj _ hi (by omega) hl rfl) ((World.putObj_heap_other (by omega)).trans hk)⟩
def fA (x : T70a7.T) : Array Value := #[.int .i64 x.1.1, .int .i64 x.1.2.1, .int .i64 x.1.2.2.1, .int .i64 x.1.2.2.2.1, .int .i64 x.1.2.2.2.2, .int .i64 x.2.1, .int .i64 x.2.2]
theorem fly_cells {W : World} {b t : Nat} {x : T70a7.T} (h : W.heap[b]? = some (.cells (fA x) t (0, 0))) : W.cell? ⟨b, 0, none⟩ = some (.int .i64 x.1.1) ∧ W.cell? ⟨b, 1, none⟩ = some (.int .i64 x.1.2.1) ∧ W.cell? ⟨b, 2, none⟩ = some (.int .i64 x.1.2.2.1) ∧ W.cell? ⟨b, 3, none⟩ = some (.int .i64 x.1.2.2.2.1) ∧ W.cell? ⟨b, 4, none⟩ = some (.int .i64 x.1.2.2.2.2) ∧ W.cell? ⟨b, 5, none⟩ = some (.int .i64 x.2.1) ∧ W.cell? ⟨b, 6, none⟩ = some (.int .i64 x.2.2) := by
  refine ⟨?_, ?_, ?_, ?_, ?_, ?_, ?_⟩ <;> (rw [cell_of_row _ _ _ _ _ _ h]; rfl)
noncomputable def walkR (k : Nat) (t : T5477.T) (c : List (List T1383.T)) : Nat → T70a7.T → Option (List Td8a9.T)
  | 0, _ => none
  | m + 1, x => (f_path_Step.f k t c x).bind fun y => if y.1.2.2.2.2.2.1 = (0 : Int) then (walkR k t c m y.2.1).map (fun l => y.1 :: l) else some [y.1]
theorem step_ttl {k : Nat} {t : T5477.T} {c : List (List T1383.T)} {x x' : T70a7.T} {h : Td8a9.T} (e : f_path_Step.f k t c x = some (h, (x', ()))) (hw : h.2.2.2.2.2.1 = (0 : Int)) : 1 ≤ x.1.2.2.2.1 ∧ x'.1.2.2.2.1 = IntKind.i64.wrap (x.1.2.2.2.1 - 1) := by
  unfold f_path_Step.f f_path_Step.j1 at e
  obtain ⟨y1, _, e⟩ := of_bind e
  obtain ⟨y3, _, e⟩ := of_bind e
  split at e
  · cases e; exact absurd hw (show ¬ (5 : Int) = 0 by decide)
  rename_i h1
  have h1' : 1 ≤ x.1.2.2.2.1 := Int.not_lt.1 fun q => h1 (decide_eq_true q)
  split at e
  · cases e; exact absurd hw (show ¬ (3 : Int) = 0 by decide)
  split at e
  · split at e
    · split at e
      · cases e; exact absurd hw (show ¬ (2 : Int) = 0 by decide)
      · obtain ⟨y10, _, e⟩ := of_bind e
        split at e
        · cases e; exact ⟨h1', rfl⟩
        · cases e; exact absurd hw (show ¬ (1 : Int) = 0 by decide)
    · cases e
  · cases e
theorem seven {E : En} {w : World} {v : Value} {a b c d e f g : Int} (h : RepC E w v (.agg [.int .i64 a, .int .i64 b, .int .i64 c, .int .i64 d, .int .i64 e, .int .i64 f, .int .i64 g])) : v = .agg #[.int .i64 a, .int .i64 b, .int .i64 c, .int .i64 d, .int .i64 e, .int .i64 f, .int .i64 g] := by
  obtain ⟨cs, rfl, hl⟩ := h
  match hz : cs.toList, hl with
  | [v0, v1, v2, v3, v4, v5, v6], ⟨h0, h1, h2, h3, h4, h5, h6, _⟩ =>
    obtain rfl : v0 = .int .i64 a := h0
    obtain rfl : v1 = .int .i64 b := h1
    obtain rfl : v2 = .int .i64 c := h2
    obtain rfl : v3 = .int .i64 d := h3
    obtain rfl : v4 = .int .i64 e := h4
    obtain rfl : v5 = .int .i64 f := h5
    obtain rfl : v6 = .int .i64 g := h6
    rw [← Array.toArray_toList (xs := cs), hz]
theorem hop_val {E : En} {w : World} {v : Value} {h : Td8a9.T} (q : RepC E w v (.agg (encC .any Td8a9 h))) : v = .agg (hA h) := seven q
theorem fly_val {E : En} {w : World} {v : Value} {x : T70a7.T} (q : RepC E w v (.agg (encC .any T70a7 x))) : v = .agg (fA x) := seven q
theorem step_calls {k : Nat} {t : T5477.T} {c : List (List T1383.T)} {x x' : T70a7.T} {h : Td8a9.T} (e : f_path_Step.f k t c x = some (h, (x', ()))) {F : Nat → Prop} {w : World} (hF : Globs F w) {tv cv : Value} (h1 : RepC (E0 F) w tv (.agg (encC .any T5477 t))) (h2 : RepC (E0 F) w cv (.one (.sl (.slice T1383) c .any))) :
    Calls Go.Proofs.Try.prog 42 #[tv, cv, .agg (fA x)] w fun e w' => e = .returned (.tuple #[.agg (hA h), .agg (fA x')]) ∧ Below w.heap.size w w' := by
  refine (f_path_Step.fits.calls (t, c, x, ()) (h, x', ()) ⟨k, e⟩ F w #[tv, cv, .agg (fA x)] hF ⟨h1, h2, ⟨_, rfl, rfl, rfl, rfl, rfl, rfl, rfl, rfl, trivial⟩, trivial⟩).mono ?_
  rintro e w' ⟨v, rfl, bel, F', _, _, _, hv⟩
  obtain ⟨vs, rfl, hvs⟩ := hv
  match hz : vs.toList, hvs with
  | [v1, v2], ⟨q1, q2, _⟩ =>
    refine ⟨?_, bel⟩
    rw [← hop_val q1, ← fly_val q2, ← Array.toArray_toList (xs := vs), hz]
/-- what a round keeps: all below n₀; of the cells, all but the box B and the row that it owns -/
def Kq (n₀ B : Nat) (W W' : World) : Prop := Below n₀ W W' ∧ ∀ (ty : Nat) (v : Value), Boxed W B ty v → ∀ (b : Nat) (o : Obj), W.heap[b]? = some o → o.isCells = true → b ≠ B → v.ownBlock ≠ some b → W'.heap[b]? = some o
/-- all cells are kept -/
def Ka (n₀ : Nat) (W W' : World) : Prop := Below n₀ W W' ∧ ∀ (b : Nat) (o : Obj), W.heap[b]? = some o → o.isCells = true → W'.heap[b]? = some o
theorem Ka_t {n₀ : Nat} {A B C : World} (h : Ka n₀ A B) (k : Ka n₀ B C) : Ka n₀ A C := ⟨h.1.trans k.1, fun b o ho hc => k.2 b o (h.2 b o ho hc) hc⟩
theorem Kq_j {n₀ B : Nat} {W1 W2 W3 W4 : World} (h : Ka n₀ W1 W2) (k : Kq n₀ B W2 W3) (q : Ka n₀ W3 W4) : Kq n₀ B W1 W4 :=
  ⟨(h.1.trans k.1).trans q.1, fun ty v hv b o ho hc hb hn => q.2 b o (k.2 ty v (h.2 _ _ hv rfl) b o (h.2 b o ho hc) hc hb hn) hc⟩
theorem Ka_a {n₀ : Nat} {W W' : World} (hn : n₀ ≤ W.heap.size) (h : Below W.heap.size W W') : Ka n₀ W W' :=
  ⟨⟨h.os, h.tape, h.output, h.size, fun i hi => h.block i (by omega)⟩, fun b o ho _ => (h.block b (Array.getElem?_eq_some_iff.1 ho).1).trans ho⟩
theorem Ka_b {n₀ : Nat} {w : World} (hn : n₀ ≤ w.heap.size) (W : World) (l : Nat) (o o' : Obj) (hl : w.heap.size ≤ l) (h : W.heap[l]? = some o) (h1 : o.isCells = false) (h2 : o.isWalk = false) : Ka n₀ W (W.putObj l o') := by
  refine ⟨belowK_b (w := w) hn W l o o' hl h h1 h2, fun b o2 ho hc => ?_⟩
  have : b ≠ l := fun e => by subst e; rw [h] at ho; cases ho; rw [h1] at hc; cases hc
  exact (World.putObj_heap_other this).trans ho
theorem setc {W : World} {b t : Nat} {c : Array Value} (h : W.heap[b]? = some (.cells c t (0, 0))) (j : Nat) (v : Value) : (W.setCell ⟨b, j, none⟩ v).heap[b]? = some (.cells (c.setIfInBounds j v) t (0, 0)) := by
  have hlt := (Array.getElem?_eq_some_iff.1 h).1
  have hk := (Array.getElem?_eq_some_iff.1 h).2
  show (W.heap.modify b _)[b]? = _
  rw [Array.getElem?_eq_getElem (by rw [Array.size_modify]; exact hlt), Array.getElem_modify_self, hk]
  rfl
theorem gset (W : World) (b j : Nat) (v : Value) : W.grownBy (W.setCell ⟨b, j, none⟩ v) (some b) :=
  ⟨rfl, rfl, rfl, (KeepsWalks.setCell W _ v).size, fun k _ hk => Below.heap_setCell _ _ _ k (fun e => hk (by rw [e]))⟩
theorem gtr {W1 W2 W3 : World} {b : Nat} (h : W1.grownBy W2 (some b)) (k : W2.grownBy W3 (some b)) : W1.grownBy W3 (some b) :=
  ⟨k.os.trans h.os, k.tape.trans h.tape, k.output.trans h.output, Nat.le_trans h.size k.size, fun i hi hn => (k.block i (Nat.lt_of_lt_of_le hi h.size) hn).trans (h.block i hi hn)⟩
theorem set7 {W : World} {b t : Nat} {x : T70a7.T} (x' : T70a7.T) (h : W.heap[b]? = some (.cells (fA x) t (0, 0))) : W.grownBy (((((((W.setCell ⟨b, 0, none⟩ (.int .i64 x'.1.1)).setCell ⟨b, 1, none⟩ (.int .i64 x'.1.2.1)).setCell ⟨b, 2, none⟩ (.int .i64 x'.1.2.2.1)).setCell ⟨b, 3, none⟩ (.int .i64 x'.1.2.2.2.1)).setCell ⟨b, 4, none⟩ (.int .i64 x'.1.2.2.2.2)).setCell ⟨b, 5, none⟩ (.int .i64 x'.2.1)).setCell ⟨b, 6, none⟩ (.int .i64 x'.2.2)) (some b) ∧ (((((((W.setCell ⟨b, 0, none⟩ (.int .i64 x'.1.1)).setCell ⟨b, 1, none⟩ (.int .i64 x'.1.2.1)).setCell ⟨b, 2, none⟩ (.int .i64 x'.1.2.2.1)).setCell ⟨b, 3, none⟩ (.int .i64 x'.1.2.2.2.1)).setCell ⟨b, 4, none⟩ (.int .i64 x'.1.2.2.2.2)).setCell ⟨b, 5, none⟩ (.int .i64 x'.2.1)).setCell ⟨b, 6, none⟩ (.int .i64 x'.2.2)).heap[b]? = some (.cells (fA x') t (0, 0)) := by
  refine ⟨gtr (gtr (gtr (gtr (gtr (gtr (gset _ _ _ _) (gset _ _ _ _)) (gset _ _ _ _)) (gset _ _ _ _)) (gset _ _ _ _)) (gset _ _ _ _)) (gset _ _ _ _), ?_⟩
  have h1 := setc h 0 (.int .i64 x'.1.1)
  have h2 := setc h1 1 (.int .i64 x'.1.2.1)
  have h3 := setc h2 2 (.int .i64 x'.1.2.2.1)
  have h4 := setc h3 3 (.int .i64 x'.1.2.2.2.1)
  have h5 := setc h4 4 (.int .i64 x'.1.2.2.2.2)
  have h6 := setc h5 5 (.int .i64 x'.2.1)
  have h7 := setc h6 6 (.int .i64 x'.2.2)
  clear h1 h2 h3 h4 h5 h6
  have e : (((((((fA x).setIfInBounds 0 (.int .i64 x'.1.1)).setIfInBounds 1 (.int .i64 x'.1.2.1)).setIfInBounds 2 (.int .i64 x'.1.2.2.1)).setIfInBounds 3 (.int .i64 x'.1.2.2.2.1)).setIfInBounds 4 (.int .i64 x'.1.2.2.2.2)).setIfInBounds 5 (.int .i64 x'.2.1)).setIfInBounds 6 (.int .i64 x'.2.2) = fA x' := by
    unfold fA
    simp only [List.setIfInBounds_toArray, List.set_cons_zero, List.set_cons_succ]
  rw [e] at h7
  exact h7
theorem frz {W : World} {b t : Nat} {c : Array Value} (h : W.heap[b]? = some (.cells c t (0, 0))) (j : Nat) : W.frozen? ⟨b, j, none⟩ = false := by simp [World.frozen?, h]
theorem wrapdec {z : Int} (h1 : 1 ≤ z) (h2 : z ≤ 16) : IntKind.i64.wrap (z - 1) = z - 1 := by rw [IntKind.wrap_i64]; omega
theorem dec1 {z : Int} (h : 1 ≤ z) : (z - 1).toNat < z.toNat := by omega
theorem two_rows {J : List Td8a9.T → World → Prop} {Bf B7 n₁ : Nat} (hJ : ∀ s A B row, J s A → A.grownBy B row → (∀ r, row = some r → r = Bf) → J s B) (hJo : ∀ s A, J s A → ∃ ty v, Boxed A B7 ty v ∧ ∀ g, v.ownBlock = some g → n₁ ≤ g ∧ g < A.heap.size) (h7 : B7 < n₁) {wr w1 : World} (hwr : n₁ ≤ wr.heap.size) {pre : List Td8a9.T} (hj : J pre wr) (hb : Below wr.heap.size wr w1) (h : Td8a9.T) (x' : T70a7.T) :
    J pre ((w1.alloc (.cells (hA h) 41)).alloc (.cells (fA x') 30)) ∧ ((w1.alloc (.cells (hA h) 41)).alloc (.cells (fA x') 30)).heap[w1.heap.size]? = some (.cells (hA h) 41 (0, 0)) ∧ ((w1.alloc (.cells (hA h) 41)).alloc (.cells (fA x') 30)).heap[w1.heap.size + 1]? = some (.cells (fA x') 30 (0, 0)) ∧ Below wr.heap.size wr ((w1.alloc (.cells (hA h) 41)).alloc (.cells (fA x') 30)) ∧
    (∃ ty v, Boxed ((w1.alloc (.cells (hA h) 41)).alloc (.cells (fA x') 30)) B7 ty v ∧ ∀ g, v.ownBlock = some g → n₁ ≤ g ∧ g < wr.heap.size) := by
  have hB : Below wr.heap.size wr ((w1.alloc (.cells (hA h) 41)).alloc (.cells (fA x') 30)) := (hb.alloc hb.size _).alloc (by simp; have := hb.size; omega) _
  have hJ2 : J pre ((w1.alloc (.cells (hA h) 41)).alloc (.cells (fA x') 30)) := hJ _ _ _ none hj ⟨hB.os, hB.tape, hB.output, hB.size, fun k hk _ => hB.block k hk⟩ (fun r e => by cases e)
  obtain ⟨ty, v, hv, hg⟩ := hJo pre wr hj
  refine ⟨hJ2, (heap_alloc_old _ _ (by simp)).trans (heap_alloc_new w1 _), ?_, hB, ty, v, (hB.block B7 (by omega)).trans hv, hg⟩
  · have := heap_alloc_new (w1.alloc (.cells (hA h) 41)) (.cells (fA x') 30)
    rwa [World.size_alloc] at this
set_option maxRecDepth 100000 in
set_option maxHeartbeats 4000000 in
theorem hops1_in (F : Fence) (hF : ∀ f, F.fn f) (hro : F.round = none) (n : Nat) (hn : 1 ≤ n) (l Bt Bc Bf B7 n₀ n₁ : Nat) (hd : n₀ ≤ n₁ ∧ Bt < n₁ ∧ Bc < n₁ ∧ Bf < n₁ ∧ B7 < n₁ ∧ n₀ ≤ Bf ∧ Bt ≠ B7 ∧ Bc ≠ B7 ∧ Bf ≠ B7 ∧ Bt ≠ Bf ∧ Bc ≠ Bf) (sw po : Int) (A A2 : Option Addr) (nt ct nc cc : Nat) (k : Nat) (t : T5477.T) (c : List (List T1383.T))
    (N : Nat) (J : List Td8a9.T → World → Prop) (W : World) (hJ : ∀ s A B row, J s A → A.grownBy B row → (∀ r, row = some r → r = Bf) → J s B) (hJo : ∀ s A, J s A → ∃ ty v, Boxed A B7 ty v ∧ ∀ g, v.ownBlock = some g → n₁ ≤ g ∧ g < A.heap.size) (hn1 : n₁ ≤ W.heap.size)
    (hY : ∀ pre x W1, J pre W1 → pre.length < N → YieldAt F (n - 1) Go.Proofs.Try.prog l (hE x) W1 fun e W' => e = .returned (.bool true) ∧ J (pre ++ [x]) W' ∧ Kq n₀ B7 W1 W')
    (hBt : W.heap[Bt]? = some (.cells #[.int .i64 sw, .int .i64 po, .slice A nt ct] 24 (0, 0))) (hBc : W.heap[Bc]? = some (.cells #[.slice A2 nc cc] 26 (0, 0)))
    (hS : ∀ W' x x' h m, Below n₀ W W' → f_path_Step.f k t c x = some (h, (x', ())) → CallsIn F m Go.Proofs.Try.prog 42 #[.agg #[.int .i64 sw, .int .i64 po, .slice A nt ct], .slice A2 nc cc, .agg (fA x)] W' fun e w' => e = .returned (.tuple #[.agg (hA h), .agg (fA x')]) ∧ Below W'.heap.size W' w')
    (m0 : Nat) (x0 : T70a7.T) (all : List Td8a9.T) (hB0 : W.heap[Bf]? = some (.cells (fA x0) 30 (0, 0))) (hw : walkR k t c m0 x0 = some all) (hlen : all.length ≤ N) (htt : x0.1.2.2.2.1 ≤ 16) (h0 : J [] W) :
    CallsIn F n Go.Proofs.Try.prog 41 #[.func (.yield l) #[] #[], .pointer (some ⟨Bt, 0, none⟩), .pointer (some ⟨Bc, 0, none⟩), .pointer (some ⟨Bf, 0, none⟩)] W fun e W' => (∃ v, e = .returned v) ∧ ∃ ys, ys = all ∧ J ys W' := by
  have HS := Aside0.mk hS
  have HJ := Aside0.mk hJ
  have HJO := Aside0.mk hJo
  have HY := Aside0.mk hY
  have HB0 := Aside0.mk hB0
  have HBT := Aside0.mk hBt
  have HBC := Aside0.mk hBc
  have HW := Aside0.mk hw
  have HD := Aside0.mk hd
  clear hS hJ hJo hY hB0 hw hBt hBc hd
  refine callsIn_of_wp Go.Proofs.Try.func41 rfl (hF _) ?_ hro
  simp only [Go.Proofs.Try.ntmps41, List.size_toArray, List.length_cons, List.length_nil, Nat.reduceAdd, Nat.reduceSub, Array.replicate_succ, Array.replicate_zero, List.push_toArray, List.append_toArray, List.nil_append, List.cons_append]
  gi_wp2
  gi_loopw [7] (fun _ wr => ∃ (m : Nat) (pre rest : List Td8a9.T) (x : T70a7.T), Aside0 (J pre wr) ∧ Aside0 (Below n₀ W wr) ∧ Aside0 (wr.heap[Bt]? = some (.cells #[.int .i64 sw, .int .i64 po, .slice A nt ct] 24 (0, 0))) ∧ Aside0 (wr.heap[Bc]? = some (.cells #[.slice A2 nc cc] 26 (0, 0))) ∧ Aside0 (wr.heap[Bf]? = some (.cells (fA x) 30 (0, 0))) ∧ Aside0 (walkR k t c m x = some rest) ∧ Aside0 (pre ++ rest = all) ∧ Aside0 (x.1.2.2.2.1 ≤ 16))
    (fun _ wr => match wr.cell? ⟨Bf, 3, none⟩ with | some (.int _ z) => z.toNat | _ => 0)
  case atStart => exact ⟨m0, [], all, x0, ⟨h0⟩, ⟨Below.refl _ _⟩, HBT, HBC, HB0, HW, ⟨rfl⟩, ⟨htt⟩⟩
  case round =>
    obtain ⟨m, pre, rest, x, HJ1, HB, HT, HC, HX, HWK, HA, HTT⟩ := hrel
    clear HBT HBC HB0 HW h0
    have hwk := HWK.out
    cases m with
    | zero => cases hwk
    | succ m =>
      unfold walkR at hwk
      obtain ⟨⟨h, x', u⟩, e1, e2⟩ := of_bind hwk
      have HE1 := Aside0.mk e1
      have HE2 := Aside0.mk e2
      clear hwk e1 e2
      have c0 : wr.cell? ⟨Bt, 0, none⟩ = some (.int .i64 sw) := by rw [cell_of_row _ _ _ _ _ _ HT.out]; rfl
      have c1 : wr.cell? ⟨Bt, 1, none⟩ = some (.int .i64 po) := by rw [cell_of_row _ _ _ _ _ _ HT.out]; rfl
      have c2 : wr.cell? ⟨Bt, 2, none⟩ = some (.slice A nt ct) := by rw [cell_of_row _ _ _ _ _ _ HT.out]; rfl
      have c3 : wr.cell? ⟨Bc, 0, none⟩ = some (.slice A2 nc cc) := by rw [cell_of_row _ _ _ _ _ _ HC.out]; rfl
      obtain ⟨d0, d1, d2, d3, d4, d5, d6⟩ := fly_cells HX.out
      have hne : ¬ pre.length ≥ N := fun q => by
        have h1 := congrArg List.length HA.out
        have h2 : 0 < rest.length := by
          have h3 := HE2.out
          dsimp only at h3
          split at h3
          · obtain ⟨r, _, rfl⟩ := Option.map_eq_some_iff.1 h3
            simp
          · cases h3; simp
        rw [List.length_append] at h1
        omega
      have hn01 := HD.out.1
      gi_wp2_with (gi_at_call 42; refine (HS.out wr x x' h _ HB.out HE1.out).mono ?_; rintro e w1 ⟨rfl, hb1⟩; have HB1 := Aside0.mk hb1; clear hb1; clear c0 c1 c2 c3 d0 d1 d2 d3 d4 d5 d6; have HF := Aside0.mk (two_rows HJ.out HJO.out HD.out.2.2.2.2.1 (Nat.le_trans hn1 HB.out.size) HJ1.out HB1.out h x'); obtain ⟨fn, tmps, assign, body, hy, hR⟩ := HY.out pre h _ HF.out.1 (by omega); simp only [hE, hA, fA] at hy; simp only [hA, fA])
      refine hR.mono ?_
      rintro e W3 ⟨rfl, hJ3, hK3⟩
      have HJ3 := Aside0.mk hJ3
      have HK3 := Aside0.mk hK3
      clear hJ3 hK3 hy hR
      obtain ⟨D1, D2, D3, D4, D5, D6, D7, D8, D9, D10, D11⟩ := HD.out
      have hs1 := HB.out.size
      have hs2 := HB1.out.size
      obtain ⟨_, F2, F3, F4, fty, fv, F6, F5⟩ := HF.out
      have G5 := Aside0.mk (HK3.out.2 fty fv F6 _ _ F2 rfl (by omega) (fun e => by have := (F5 _ e).2; omega))
      have G6 := Aside0.mk (HK3.out.2 fty fv F6 _ _ F3 rfl (by omega) (fun e => by have := (F5 _ e).2; omega))
      have GT := Aside0.mk (HK3.out.2 fty fv F6 _ _ ((F4.block Bt (by omega)).trans HT.out) rfl D7 (fun e => by have := (F5 _ e).1; omega))
      have GC := Aside0.mk (HK3.out.2 fty fv F6 _ _ ((F4.block Bc (by omega)).trans HC.out) rfl D8 (fun e => by have := (F5 _ e).1; omega))
      have GX := Aside0.mk (HK3.out.2 fty fv F6 _ _ ((F4.block Bf (by omega)).trans HX.out) rfl D9 (fun e => by have := (F5 _ e).1; omega))
      have GB := Aside0.mk ((below_then HB.out (by omega) F4).trans HK3.out.1)
      clear F2 F3 F4 F5 F6
      obtain ⟨d0, d1, d2, d3, d4, d5, d6⟩ := row_cells G5.out
      obtain ⟨g0, g1, g2, g3, g4, g5, g6⟩ := fly_cells G6.out
      have he2 := HE2.out
      by_cases hw : h.2.2.2.2.2.1 = (0 : Int)
      · rw [if_pos hw] at he2
        obtain ⟨r, hr1, hr2⟩ := Option.map_eq_some_iff.1 he2
        have HR1 := Aside0.mk hr1
        have HR2 := Aside0.mk hr2
        have HWE := Aside0.mk hw
        rw [hw] at d5
        clear he2 hr1 hr2
        obtain ⟨k0, k1, k2, k3, k4, k5, k6⟩ := fly_cells GX.out
        have q0 := frz GX.out 0
        have q1 := frz GX.out 1
        have q2 := frz GX.out 2
        have q3 := frz GX.out 3
        have q4 := frz GX.out 4
        have q5 := frz GX.out 5
        have q6 := frz GX.out 6
        gi_wp2
        have H7 := Aside0.mk (set7 x' GX.out)
        have HTL := Aside0.mk (step_ttl HE1.out HWE.out)
        have hwr : IntKind.i64.wrap (x.1.2.2.2.1 - 1) = x.1.2.2.2.1 - 1 := wrapdec HTL.out.1 HTT.out
        have HTE := Aside0.mk (HTL.out.2.trans hwr)
        clear hwr
        go_roundw
        case rel =>
          refine ⟨m, pre ++ [h], r, x', ⟨HJ.out _ _ _ _ HJ3.out H7.out.1 (fun r e => by cases e; rfl)⟩, ⟨GB.out.grown H7.out.1 (by have := GB.out.size; omega) (fun k e => by cases e; exact D6)⟩, ⟨(H7.out.1.block Bt (Array.getElem?_eq_some_iff.1 GT.out).1 (fun e => by cases e; exact D10 rfl)).trans GT.out⟩, ⟨(H7.out.1.block Bc (Array.getElem?_eq_some_iff.1 GC.out).1 (fun e => by cases e; exact D11 rfl)).trans GC.out⟩, ⟨H7.out.2⟩, HR1, ⟨by rw [← HA.out, ← HR2.out, List.append_assoc]; rfl⟩, ⟨by
            rw [HTE.out]
            exact Int.le_trans (Int.sub_le_self _ (by decide)) HTT.out⟩⟩
        case measure =>
          have q3 := (fly_cells H7.out.2).2.2.2.1
          have p3 := (fly_cells HX.out).2.2.2.1
          rw [q3, p3]
          dsimp only
          rw [HTE.out]
          exact dec1 HTL.out.1
      · rw [if_neg hw] at he2
        have hwb : (h.2.2.2.2.2.1 != (0 : Int)) = true := bne_iff_ne.2 hw
        have HRE := Aside0.mk (Option.some.inj he2)
        clear he2
        gi_wp2
        refine bodyPost_ret (results_none rfl _ _ _) rfl ?_
        exact ⟨⟨_, rfl⟩, all, rfl, by rw [← HA.out, ← HRE.out]; exact HJ3.out⟩
set_option maxRecDepth 100000 in
set_option maxHeartbeats 4000000 in
theorem hops_in (F : Fence) (hF : ∀ f, F.fn f) (hro : F.round = none) (n : Nat) (sw po : Int) (A A2 : Option Addr) (nt ct nc cc : Nat) (x : T70a7.T) (w : World) :
    CallsIn F n Go.Proofs.Try.prog 27 #[.agg #[.int .i64 sw, .int .i64 po, .slice A nt ct], .slice A2 nc cc, .agg (fA x)] w fun e w' => e = .returned (.func (.func 41) #[] #[.pointer (some ⟨w.heap.size, 0, none⟩), .pointer (some ⟨w.heap.size + 1, 0, none⟩), .pointer (some ⟨w.heap.size + 1 + 1, 0, none⟩)]) ∧ w' = ((w.alloc (.cells #[.int .i64 sw, .int .i64 po, .slice A nt ct] 24)).alloc (.cells #[.slice A2 nc cc] 26)).alloc (.cells (fA x) 30) := by
  refine callsIn_of_wp Go.Proofs.Try.func27 rfl (hF _) ?_ hro
  simp only [fA, Go.Proofs.Try.ntmps27, List.size_toArray, List.length_cons, List.length_nil, Nat.reduceAdd, Nat.reduceSub, Array.replicate_succ, Array.replicate_zero, List.push_toArray, List.append_toArray, List.nil_append, List.cons_append]
  gi_wp2
  go_ret
  exact ⟨rfl, rfl⟩
def clampT (x : T70a7.T) : T70a7.T := ((x.1.1, (x.1.2.1, (x.1.2.2.1, ((if (16 : Int) < x.1.2.2.2.1 then 16 else x.1.2.2.2.1), x.1.2.2.2.2)))), x.2)
def w6 (w : World) (sw po : Int) (A A2 : Option Addr) (nt ct nc cc : Nat) (y : T70a7.T) : World := (((((w.alloc (.cells #[.int .i64 sw, .int .i64 po, .slice A nt ct] 24)).alloc (.cells (fA y) 30)).alloc (.cells #[.slice none 0 0] 31)).alloc (.cells #[.int .i64 sw, .int .i64 po, .slice A nt ct] 24)).alloc (.cells #[.slice A2 nc cc] 26)).alloc (.cells (fA y) 30)
theorem six (w : World) (sw po : Int) (A A2 : Option Addr) (nt ct nc cc : Nat) (y : T70a7.T) :
    (w6 w sw po A A2 nt ct nc cc y).heap.size = w.heap.size + 6 ∧ Boxed (w6 w sw po A A2 nt ct nc cc y) (w.heap.size + 2) 31 (.slice none 0 0) ∧ (w6 w sw po A A2 nt ct nc cc y).heap[w.heap.size + 3]? = some (.cells #[.int .i64 sw, .int .i64 po, .slice A nt ct] 24 (0, 0)) ∧ (w6 w sw po A A2 nt ct nc cc y).heap[w.heap.size + 4]? = some (.cells #[.slice A2 nc cc] 26 (0, 0)) ∧ (w6 w sw po A A2 nt ct nc cc y).heap[w.heap.size + 5]? = some (.cells (fA y) 30 (0, 0)) ∧ Below w.heap.size w (w6 w sw po A A2 nt ct nc cc y) := by
  unfold w6
  generalize hO1 : (Obj.cells #[.int .i64 sw, .int .i64 po, .slice A nt ct] 24) = O1
  generalize hO2 : (Obj.cells (fA y) 30) = O2
  generalize hO3 : (Obj.cells #[.slice none 0 0] 31) = O3
  generalize hO4 : (Obj.cells #[.slice A2 nc cc] 26) = O4
  have n3 := heap_alloc_new ((w.alloc O1).alloc O2) O3
  have n4 := heap_alloc_new (((w.alloc O1).alloc O2).alloc O3) O1
  have n5 := heap_alloc_new ((((w.alloc O1).alloc O2).alloc O3).alloc O1) O4
  have n6 := heap_alloc_new (((((w.alloc O1).alloc O2).alloc O3).alloc O1).alloc O4) O2
  simp only [World.size_alloc] at n3 n4 n5 n6
  refine ⟨by simp only [World.size_alloc], ?_, ?_, ?_, ?_, ?_⟩
  · show _ = some (Obj.cells #[.slice none 0 0] 31 (0, 0))
    rw [hO3]
    exact (heap_alloc_old _ _ (by simp only [World.size_alloc]; omega)).trans ((heap_alloc_old _ _ (by simp only [World.size_alloc]; omega)).trans ((heap_alloc_old _ _ (by simp only [World.size_alloc]; omega)).trans n3))
  · exact (heap_alloc_old _ _ (by simp only [World.size_alloc]; omega)).trans ((heap_alloc_old _ _ (by simp only [World.size_alloc]; omega)).trans n4)
  · exact (heap_alloc_old _ _ (by simp only [World.size_alloc]; omega)).trans n5
  · exact n6
  · exact ((((((Below.refl _ w).alloc (Nat.le_refl _) _).alloc (by simp only [World.size_alloc]; omega) _).alloc (by simp only [World.size_alloc]; omega) _).alloc (by simp only [World.size_alloc]; omega) _).alloc (by simp only [World.size_alloc]; omega) _).alloc (by simp only [World.size_alloc]; omega) _
theorem walk_IB (w : World) (s : List Td8a9.T) (A B : World) (row : Option Nat) (h : (∃ v, Boxed A (w.heap.size + 2) 31 v ∧ A.ownsRow (w.heap.size + 6) 41 7 v s.length (cellsOf s) ∧ True) ∧ (Below w.heap.size w A ∧ w.heap.size + 6 ≤ A.heap.size)) (hg : A.grownBy B row) (hr : ∀ r, row = some r → r = w.heap.size + 5) : (∃ v, Boxed B (w.heap.size + 2) 31 v ∧ B.ownsRow (w.heap.size + 6) 41 7 v s.length (cellsOf s) ∧ True) ∧ (Below w.heap.size w B ∧ w.heap.size + 6 ≤ B.heap.size) := by
  obtain ⟨⟨v, hv, hrow, _⟩, hB, hsz⟩ := h
  refine ⟨⟨v, hv.kept hg (fun e => by have := hr _ e.symm; omega), hrow.kept hg ?_, trivial⟩, hB.grown hg hB.size (fun k e => by have := hr _ e; omega), Nat.le_trans hsz hg.size⟩
  rcases hrow.2 with ⟨rfl, _⟩ | ⟨g, cap, cur, rfl, hgb, _⟩
  · exact .inl rfl
  · refine .inr fun e' => ?_
    have h1 : some g = row := by simpa [Value.ownBlock] using e'
    have := hr g h1.symm
    omega
theorem walk_Jo (w : World) (s : List Td8a9.T) (A : World) (h : (∃ v, Boxed A (w.heap.size + 2) 31 v ∧ A.ownsRow (w.heap.size + 6) 41 7 v s.length (cellsOf s) ∧ True) ∧ (Below w.heap.size w A ∧ w.heap.size + 6 ≤ A.heap.size)) : ∃ ty v, Boxed A (w.heap.size + 2) ty v ∧ ∀ g, v.ownBlock = some g → w.heap.size + 6 ≤ g ∧ g < A.heap.size := by
  obtain ⟨⟨v, hv, hrow, _⟩, hB⟩ := h
  refine ⟨_, v, hv, fun g hg => ?_⟩
  rcases hrow.2 with ⟨rfl, _⟩ | ⟨g', cap, cur, rfl, hgb, hc, _⟩
  · cases hg
  · have h1 : g' = g := by simpa [Value.ownBlock] using hg
    subst h1
    exact ⟨hgb, (Array.getElem?_eq_some_iff.1 hc).1⟩
theorem walk_kq {W w1 : World} {s : Nat} {ty : Nat} {v v' : Value} {tmp : Obj} (hv : Boxed W (s + 2) ty v) (hg : (W.alloc tmp).grownBy w1 v.ownBlock) (hb : Below s W (w1.setCell ⟨s + 2, 0, none⟩ v')) : Kq s (s + 2) W (w1.setCell ⟨s + 2, 0, none⟩ v') := by
  refine ⟨hb, fun ty' u hu b o ho hc hn hn2 => ?_⟩
  have e : v = u := by
    have := (show W.heap[s + 2]? = _ from hv).symm.trans hu
    simp at this
    exact this.1
  subst e
  have hl := (Array.getElem?_eq_some_iff.1 ho).1
  have h1 : w1.heap[b]? = some o := (hg.block b (by simp; omega) (fun q => hn2 q.symm)).trans ((heap_alloc_old W tmp hl).trans ho)
  exact ((grownBy_setCell' w1 (s + 2) v').block b (Array.getElem?_eq_some_iff.1 h1).1 (fun q => hn (Option.some.inj q))).trans h1
theorem clamp16 (x : T70a7.T) : (clampT x).1.2.2.2.1 ≤ (16 : Int) := by
  unfold clampT
  dsimp only
  split
  · exact Int.le_refl _
  · rename_i h; exact Int.not_lt.1 h
set_option maxRecDepth 100000 in
set_option maxHeartbeats 4000000 in
theorem wlk_in (F : Fence) (hF : ∀ f, F.fn f) (hro : F.round = none) (n : Nat) (hn : 4 ≤ n) (sw po : Int) (A A2 : Option Addr) (nt ct nc cc : Nat) (x : T70a7.T) (w : World) (k m : Nat) (t : T5477.T) (c : List (List T1383.T)) (all : List Td8a9.T) (hw : walkR k t c m (clampT x) = some all) (hal : all.length * 56 ≤ 140737488355328)
    (hS : ∀ W' x x' h m, Below w.heap.size w W' → f_path_Step.f k t c x = some (h, (x', ())) → CallsIn F m Go.Proofs.Try.prog 42 #[.agg #[.int .i64 sw, .int .i64 po, .slice A nt ct], .slice A2 nc cc, .agg (fA x)] W' fun e w' => e = .returned (.tuple #[.agg (hA h), .agg (fA x')]) ∧ Below W'.heap.size W' w') :
    CallsIn F n Go.Proofs.Try.prog 17 #[.agg #[.int .i64 sw, .int .i64 po, .slice A nt ct], .slice A2 nc cc, .agg (fA x)] w fun e w' => ∃ v, e = .returned v ∧ w'.ownsRow w.heap.size 41 7 v all.length (cellsOf all) ∧ Below w.heap.size w w' := by
  have h1 : 1 ≤ n := by omega
  have HS := Aside0.mk hS
  have HW := Aside0.mk hw
  have hfa : F.fn 27 := hF _
  have HC16 := Aside0.mk (clamp16 x)
  clear hS hw
  obtain ⟨i0, hi, hz0, hz1, hz2⟩ := infoHop
  refine callsIn_of_wp_marks Go.Proofs.Try.func17 rfl (hF _) ?_ hro
  by_cases h16 : (16 : Int) < x.1.2.2.2.1
  · have ht : clampT x = ((x.1.1, (x.1.2.1, (x.1.2.2.1, ((16 : Int), x.1.2.2.2.2)))), x.2) := by unfold clampT; rw [if_pos h16]
    rw [ht] at HC16 HW
    simp only [fA, Go.Proofs.Try.ntmps17, List.size_toArray, List.length_cons, List.length_nil, Nat.reduceAdd, Nat.reduceSub, Array.replicate_succ, Array.replicate_zero, List.push_toArray, List.append_toArray, List.nil_append, List.cons_append]
    gi_wp2_with (gi_at_call 27; refine (hops_in F hF hro (n - 1) sw po A A2 nt ct nc cc ((x.1.1, (x.1.2.1, (x.1.2.2.1, ((16 : Int), x.1.2.2.2.2)))), x.2) _).mono ?_; rintro e w' ⟨rfl, rfl⟩)
    obtain ⟨z0, b7, gT, gC, gX, B0⟩ := six w sw po A A2 nt ct nc cc ((x.1.1, (x.1.2.1, (x.1.2.2.1, ((16 : Int), x.1.2.2.2.2)))), x.2)
    generalize hW0 : w6 w sw po A A2 nt ct nc cc ((x.1.1, (x.1.2.1, (x.1.2.2.1, ((16 : Int), x.1.2.2.2.2)))), x.2) = W0 at z0 b7 gT gC gX B0
    unfold w6 at hW0
    simp only [fA] at hW0 ⊢
    rw [hW0]
    clear hW0
    refine rangeW hro h1 (gf := 41) (lb := #[.pointer (some ⟨w.heap.size + 1 + 1 + 1, 0, none⟩), .pointer (some ⟨w.heap.size + 1 + 1 + 1 + 1, 0, none⟩), .pointer (some ⟨w.heap.size + 1 + 1 + 1 + 1 + 1, 0, none⟩)]) rfl (hF _) (fun args w => enter_of (c := (Go.Proofs.Try.f41.body).getD .skip) Go.Proofs.Try.func41 (by kernel_rfl) (by decide) args w) (encs := hE) (fun _ => rfl) (w.heap.size + 5) (by omega) (Ka w.heap.size) (Kq w.heap.size (w.heap.size + 2)) Ka_t Kq_j (Ka_b (by omega)) (fun ys => ys = all) all.length
      (fun pre W => (∃ v, Boxed W (w.heap.size + 2) 31 v ∧ W.ownsRow (w.heap.size + 6) 41 7 v pre.length (cellsOf pre) ∧ True) ∧ (Below w.heap.size w W ∧ w.heap.size + 6 ≤ W.heap.size))
      (OwnFrom.and (Own.from (holdsRow_own (w.heap.size + 6) (w.heap.size + 2) 31 41 7 (fun pre => pre.length) cellsOf (fun _ _ => True)) _) (OwnFrom.and (ownFrom_below (Nat.le_refl _) (by omega)) (fun _ _ _ _ hs hg _ => Nat.le_trans hs hg.size)))
      (walk_IB w) ⟨⟨_, b7, World.ownsRow_nil _ _ _ _, trivial⟩, B0, by omega⟩
      (fun l J W hW hJ hJI hY h0 => hops1_in F hF hro (n - 1) (by omega) l (w.heap.size + 3) (w.heap.size + 4) (w.heap.size + 5) (w.heap.size + 2) w.heap.size (w.heap.size + 6) (by omega) sw po A A2 nt ct nc cc k t c all.length J W hJ (fun s A hs => walk_Jo w s A (hJI s A hs)) (by have := hW.size; omega) hY ((hW.block _ (by omega)).trans gT) ((hW.block _ (by omega)).trans gC) (fun W' x x' h m hB he => HS.out W' x x' h m (B0.trans ((hW.mono (by omega)).trans hB)) he) m _ all ((hW.block _ (by omega)).trans gX) HW.out (Nat.le_refl _) HC16.out h0)
      (fun x a' W => ∃ Bx u1 u2 u3 u4 u5 u6 u7 u8 u9 u10 u11, w.heap.size + 2 < Bx ∧ W.heap[Bx]? = some (.cells (hA x) 41 (0, 0)) ∧ a' = { tmps := #[u1, u2, u3, .pointer (some ⟨w.heap.size, 0, none⟩), undef, .pointer (some ⟨w.heap.size + 1, 0, none⟩), .slice none 0 0, .pointer (some ⟨w.heap.size + 1 + 1, 0, none⟩), .pointer (some ⟨Bx, 0, none⟩), u4, u5, u6, u7, u8, u9, .agg #[.int .i64 sw, .int .i64 po, .slice A nt ct], .slice A2 nc cc, u10, u11, .agg (hA x), undef, undef, undef, undef, undef], defers := [] })
      ?hAx1 ?assign1 ?body1 ?done1
    case hAx1 =>
      rintro x a' s W W' row ⟨Bx, u1, u2, u3, u4, u5, u6, u7, u8, u9, u10, u11, hB1, hB2, rfl⟩ hg hr
      refine ⟨Bx, u1, u2, u3, u4, u5, u6, u7, u8, u9, u10, u11, hB1, ?_, rfl⟩
      rw [hg.block Bx (Array.getElem?_eq_some_iff.1 hB2).1 (fun e => ?_)]
      · exact hB2
      · obtain ⟨_, o, ho, hc⟩ := hr Bx e.symm
        rw [hB2] at ho
        cases ho
        cases hc
    case assign1 =>
      rintro l pre x W K ⟨⟨v, hv, hrow, _⟩, hB, hsz⟩ hK
      have hWs : w.heap.size + 2 < W.heap.size := hv.lt
      simp only [hE, hA]
      gi_wp2
      exact hK _ _ ((KeepsOthers.alloc _ _).from _) (Ka_a hB.size ((Below.refl _ W).alloc (Nat.le_refl _) _)) ⟨⟨_, hv.alloc _, hrow.alloc _, trivial⟩, hB.alloc hB.size _, Nat.le_trans hsz (by simp)⟩ ⟨W.heap.size, _, _, _, _, _, _, _, _, _, _, _, hWs, heap_alloc_new _ _, rfl⟩
    case body1 =>
      rintro l pre x a' W ⟨⟨v, hv, hrow, _⟩, hB, hsz⟩ ⟨Bx, u1, u2, u3, u4, u5, u6, u7, u8, u9, u10, u11, hBx, hX, rfl⟩ hlt
      obtain ⟨d0, d1, d2, d3, d4, d5, d6⟩ := row_cells hX
      have hc := hv.cell
      have hA1 := Aside0.mk (fun j u h => cell_row_new W (hA x) 41 j u h)
      have hO1 := Aside0.mk (hA_one x)
      simp only [hA] at hA1 hO1
      gi_wp2_with (gi_at_builtin; refine wpListIn_append_own _ rfl _ _ 31 rfl (w.heap.size + 6) 41 i0 _ 7 56 Go.Proofs.Try.underlying31 hi hz0 hz1 hz2 rfl (by decide) _ _ _ rfl (hrow.alloc _) ⟨W.heap.size, 0, none⟩ 1 1 (hA x).toList rfl rfl hA1.out hO1.out (by have : maxLen = 9223372036854775807 := rfl; omega) (by omega) (by simp; omega) ?_; intro v' w1 hown' hgrow _; obtain ⟨g', cap', rfl⟩ := ownsRow_succ hown'; obtain ⟨hv1, hv2, _, hk2, hb2⟩ := hv.appended (by decide) (row_base (by omega) hrow) hB.size (by omega) (row_base (by omega) hown') hgrow; have hc1 := hv1.cell; have hf1 := hv1.frozen)
      exact ⟨hk2.from _, walk_kq hv hgrow hb2, ⟨_, hv2, by rw [cellsOf_app, List.length_append]; exact hown'.kept (grownBy_setCell' w1 (w.heap.size + 2) _) (.inr (hv1.not_row (by decide) hown').symm), trivial⟩, hB.trans hb2, Nat.le_trans hsz hb2.size⟩
    case done1 =>
      rintro D ys W hD rfl ⟨⟨v, hv, hrow, _⟩, hB, hsz⟩ hK
      have hc := hv.cell
      gi_wp2
      refine ⟨by simp, .inl ⟨_, _, rfl, run_takeDeferred hK, ?_⟩⟩
      exact ⟨_, results_tmp rfl _ _ _, v, rfl, row_base (by omega) (ownsRow_putObj hrow _ hK rfl), hB.trans (belowK_b (w := w) (Nat.le_refl _) W D _ _ (by omega) hK rfl rfl)⟩
  · have ht : clampT x = x := by unfold clampT; rw [if_neg h16]
    rw [ht] at HC16 HW
    simp only [fA, Go.Proofs.Try.ntmps17, List.size_toArray, List.length_cons, List.length_nil, Nat.reduceAdd, Nat.reduceSub, Array.replicate_succ, Array.replicate_zero, List.push_toArray, List.append_toArray, List.nil_append, List.cons_append]
    gi_wp2_with (gi_at_call 27; refine (hops_in F hF hro (n - 1) sw po A A2 nt ct nc cc x _).mono ?_; rintro e w' ⟨rfl, rfl⟩)
    obtain ⟨z0, b7, gT, gC, gX, B0⟩ := six w sw po A A2 nt ct nc cc x
    generalize hW0 : w6 w sw po A A2 nt ct nc cc x = W0 at z0 b7 gT gC gX B0
    unfold w6 at hW0
    simp only [fA] at hW0 ⊢
    rw [hW0]
    clear hW0
    refine rangeW hro h1 (gf := 41) (lb := #[.pointer (some ⟨w.heap.size + 1 + 1 + 1, 0, none⟩), .pointer (some ⟨w.heap.size + 1 + 1 + 1 + 1, 0, none⟩), .pointer (some ⟨w.heap.size + 1 + 1 + 1 + 1 + 1, 0, none⟩)]) rfl (hF _) (fun args w => enter_of (c := (Go.Proofs.Try.f41.body).getD .skip) Go.Proofs.Try.func41 (by kernel_rfl) (by decide) args w) (encs := hE) (fun _ => rfl) (w.heap.size + 5) (by omega) (Ka w.heap.size) (Kq w.heap.size (w.heap.size + 2)) Ka_t Kq_j (Ka_b (by omega)) (fun ys => ys = all) all.length
      (fun pre W => (∃ v, Boxed W (w.heap.size + 2) 31 v ∧ W.ownsRow (w.heap.size + 6) 41 7 v pre.length (cellsOf pre) ∧ True) ∧ (Below w.heap.size w W ∧ w.heap.size + 6 ≤ W.heap.size))
      (OwnFrom.and (Own.from (holdsRow_own (w.heap.size + 6) (w.heap.size + 2) 31 41 7 (fun pre => pre.length) cellsOf (fun _ _ => True)) _) (OwnFrom.and (ownFrom_below (Nat.le_refl _) (by omega)) (fun _ _ _ _ hs hg _ => Nat.le_trans hs hg.size)))
      (walk_IB w) ⟨⟨_, b7, World.ownsRow_nil _ _ _ _, trivial⟩, B0, by omega⟩
      (fun l J W hW hJ hJI hY h0 => hops1_in F hF hro (n - 1) (by omega) l (w.heap.size + 3) (w.heap.size + 4) (w.heap.size + 5) (w.heap.size + 2) w.heap.size (w.heap.size + 6) (by omega) sw po A A2 nt ct nc cc k t c all.length J W hJ (fun s A hs => walk_Jo w s A (hJI s A hs)) (by have := hW.size; omega) hY ((hW.block _ (by omega)).trans gT) ((hW.block _ (by omega)).trans gC) (fun W' x x' h m hB he => HS.out W' x x' h m (B0.trans ((hW.mono (by omega)).trans hB)) he) m _ all ((hW.block _ (by omega)).trans gX) HW.out (Nat.le_refl _) HC16.out h0)
      (fun x a' W => ∃ Bx u1 u2 u3 u4 u5 u6 u7 u8 u9 u10 u11, w.heap.size + 2 < Bx ∧ W.heap[Bx]? = some (.cells (hA x) 41 (0, 0)) ∧ a' = { tmps := #[u1, u2, u3, .pointer (some ⟨w.heap.size, 0, none⟩), undef, .pointer (some ⟨w.heap.size + 1, 0, none⟩), .slice none 0 0, .pointer (some ⟨w.heap.size + 1 + 1, 0, none⟩), .pointer (some ⟨Bx, 0, none⟩), u4, u5, u6, u7, u8, u9, .agg #[.int .i64 sw, .int .i64 po, .slice A nt ct], .slice A2 nc cc, u10, u11, .agg (hA x), undef, undef, undef, undef, undef], defers := [] })
      ?hAx2 ?assign2 ?body2 ?done2
    case hAx2 =>
      rintro x a' s W W' row ⟨Bx, u1, u2, u3, u4, u5, u6, u7, u8, u9, u10, u11, hB1, hB2, rfl⟩ hg hr
      refine ⟨Bx, u1, u2, u3, u4, u5, u6, u7, u8, u9, u10, u11, hB1, ?_, rfl⟩
      rw [hg.block Bx (Array.getElem?_eq_some_iff.1 hB2).1 (fun e => ?_)]
      · exact hB2
      · obtain ⟨_, o, ho, hc⟩ := hr Bx e.symm
        rw [hB2] at ho
        cases ho
        cases hc
    case assign2 =>
      rintro l pre x W K ⟨⟨v, hv, hrow, _⟩, hB, hsz⟩ hK
      have hWs : w.heap.size + 2 < W.heap.size := hv.lt
      simp only [hE, hA]
      gi_wp2
      exact hK _ _ ((KeepsOthers.alloc _ _).from _) (Ka_a hB.size ((Below.refl _ W).alloc (Nat.le_refl _) _)) ⟨⟨_, hv.alloc _, hrow.alloc _, trivial⟩, hB.alloc hB.size _, Nat.le_trans hsz (by simp)⟩ ⟨W.heap.size, _, _, _, _, _, _, _, _, _, _, _, hWs, heap_alloc_new _ _, rfl⟩
    case body2 =>
      rintro l pre x a' W ⟨⟨v, hv, hrow, _⟩, hB, hsz⟩ ⟨Bx, u1, u2, u3, u4, u5, u6, u7, u8, u9, u10, u11, hBx, hX, rfl⟩ hlt
      obtain ⟨d0, d1, d2, d3, d4, d5, d6⟩ := row_cells hX
      have hc := hv.cell
      have hA1 := Aside0.mk (fun j u h => cell_row_new W (hA x) 41 j u h)
      have hO1 := Aside0.mk (hA_one x)
      simp only [hA] at hA1 hO1
      gi_wp2_with (gi_at_builtin; refine wpListIn_append_own _ rfl _ _ 31 rfl (w.heap.size + 6) 41 i0 _ 7 56 Go.Proofs.Try.underlying31 hi hz0 hz1 hz2 rfl (by decide) _ _ _ rfl (hrow.alloc _) ⟨W.heap.size, 0, none⟩ 1 1 (hA x).toList rfl rfl hA1.out hO1.out (by have : maxLen = 9223372036854775807 := rfl; omega) (by omega) (by simp; omega) ?_; intro v' w1 hown' hgrow _; obtain ⟨g', cap', rfl⟩ := ownsRow_succ hown'; obtain ⟨hv1, hv2, _, hk2, hb2⟩ := hv.appended (by decide) (row_base (by omega) hrow) hB.size (by omega) (row_base (by omega) hown') hgrow; have hc1 := hv1.cell; have hf1 := hv1.frozen)
      exact ⟨hk2.from _, walk_kq hv hgrow hb2, ⟨_, hv2, by rw [cellsOf_app, List.length_append]; exact hown'.kept (grownBy_setCell' w1 (w.heap.size + 2) _) (.inr (hv1.not_row (by decide) hown').symm), trivial⟩, hB.trans hb2, Nat.le_trans hsz hb2.size⟩
    case done2 =>
      rintro D ys W hD rfl ⟨⟨v, hv, hrow, _⟩, hB, hsz⟩ hK
      have hc := hv.cell
      gi_wp2
      refine ⟨by simp, .inl ⟨_, _, rfl, run_takeDeferred hK, ?_⟩⟩
      exact ⟨_, results_tmp rfl _ _ _, v, rfl, row_base (by omega) (ownsRow_putObj hrow _ hK rfl), hB.trans (belowK_b (w := w) (Nat.le_refl _) W D _ _ (by omega) hK rfl rfl)⟩
theorem globs_below {F : Nat → Prop} {w w' : World} (hG : Globs F w) (h : Below w.heap.size w w') : Globs F w' := hG.step (fun _ h => h) (fun b hb => h.block b (hG.1 b hb)) (fun b hb => Nat.lt_of_lt_of_le (hG.1 b hb) h.size)
theorem repc_below {F : Nat → Prop} {w w' : World} (hG : Globs F w) (h : Below w.heap.size w w') {v : Value} {c : CV} (hv : RepC (E0 F) w v c) : RepC (E0 F) w' v c := RepC.evo ⟨fun _ _ h => h, fun _ _ h => h, fun _ h => h, fun b hb => h.block b (hG.1 b hb)⟩ hv
theorem topo_val {F : Nat → Prop} {w : World} {v : Value} {x : T5477.T} (h : RepC (E0 F) w v (.agg (encC .any T5477 x))) : ∃ A c, v = .agg #[.int .i64 x.1, .int .i64 x.2.1, .slice A x.2.2.length c] := by
  obtain ⟨cs, rfl, hl⟩ := h
  match hz : cs.toList, hl with
  | [v1, v2, v3], ⟨h1, h2, h3, _⟩ =>
    obtain ⟨A, c, inner, e, _⟩ := h3.1
    simp only [List.cons.injEq, and_true] at e
    obtain rfl : v1 = .int .i64 x.1 := h1
    obtain rfl : v2 = .int .i64 x.2.1 := h2
    subst e
    exact ⟨A, c, by rw [← Array.toArray_toList (xs := cs), hz]⟩
abbrev ps : Sg := [(true, T5477), (false, (.slice (.slice T1383))), (true, T70a7)]
abbrev rs : Sg := [(false, (.slice Td8a9))]
abbrev R := Tup rs
noncomputable def f (k : Nat) (a1 : T5477.T) (a2 : List (List T1383.T)) (a3 : T70a7.T) : Option R := (walkR k a1 a2 100 (clampT a3)).bind fun l => if l.length * 56 ≤ 140737488355328 then some (l, ()) else none
noncomputable def S : Spec := ⟨ps, rs, .any, none, fun x r => ∃ k, f k x.1 x.2.1 x.2.2.1 = some r⟩
theorem rl {k a1 a2 a3 r} (e : f k a1 a2 a3 = some r) : S.rel (a1, a2, a3, ()) r := ⟨k, e⟩
theorem fits : Fits P 17 S := by
  refine ⟨fun args w => ?_, fun x r hrel F w args hF hargs => ?_⟩
  · exact enter_of (c := (Go.Proofs.Try.f17.body).getD .skip) Go.Proofs.Try.func17 (by kernel_rfl) (by decide) args w
  · obtain ⟨k, hk⟩ := hrel
    obtain ⟨a1, a2, a3, u⟩ := x
    dsimp only at hk
    unfold f at hk
    obtain ⟨l, hl, hk⟩ := of_bind hk
    split at hk
    case isFalse => cases hk
    case isTrue hmx =>
      obtain rfl := Option.some.inj hk
      match hz : args.toList, hargs with
      | [v1, v2, v3], h =>
        have e : args = #[v1, v2, v3] := by rw [← Array.toArray_toList (xs := args), hz]
        subst e
        have q1 : RepC (E0 F) w v1 (.agg (encC .any T5477 a1)) := by have := h.1; rw [cvOf_true] at this; exact this
        have q2 : RepC (E0 F) w v2 (.one (.sl (.slice T1383) a2 .any)) := h.2.1
        have q3 : RepC (E0 F) w v3 (.agg (encC .any T70a7 a3)) := by have := h.2.2.1; rw [cvOf_true] at this; exact this
        obtain rfl := fly_val q3
        obtain ⟨A, ct, rfl⟩ := topo_val q1
        obtain ⟨A2, cc, inner, e, _⟩ := q2.1
        obtain rfl : v2 = .slice A2 a2.length cc := by simpa using e
        have hh := wlk_in Fence.wide (fun _ => trivial) rfl 4 (Nat.le_refl _) a1.1 a1.2.1 A A2 a1.2.2.length ct a2.length cc a3 w k 100 a1 a2 l hl hmx (fun W' x x' h m hb he => callsIn_wide.2 (step_calls he (globs_below hF hb) (repc_below hF hb q1) (repc_below hF hb q2)))
        refine (callsIn_wide.1 hh).mono ?_
        rintro e w' ⟨v, rfl, hr, hb⟩
        refine ⟨v, rfl, hb, fun b => F b ∨ w.heap.size ≤ b ∧ b < w'.heap.size, fun _ h => .inl h, fun _ h => h.imp id And.left, fun b h => h.elim (fun h => Nat.lt_of_lt_of_le (hF.1 b h) hb.size) And.right, ?_⟩
        exact ⟨row_rep hr, trivial⟩

end f_path_Walk
/-! ### function 26, wayfinder/audit.cut -/
namespace f_audit_cut
noncomputable def c0 : Code := (Go.Proofs.Try.f26.body).getD .skip
abbrev ps : Sg := [(true, Td8a9), (true, Td8a9)]
abbrev rs : Sg := [(false, .bool)]
noncomputable def V : Env := { tt := tt, Γ := slk [] }
theorem V_ok : EnvOk P V := { ck := tt_ck, fits := slk_nil, mixed := mixed }
abbrev R := Tup rs
noncomputable abbrev Q (r : R) : Exit → St → Prop := Qr tt Go.Proofs.Try.f26.results ⟨ps, rs, .any, none, fun _ _ => True⟩ r
noncomputable def f (k : Nat) (a1 a2 : Td8a9.T) : Option R :=
  if (a1.2.2.2.2.2.1 == (6 : Int)) = true then
    some (true, ())
  else
    if (a1.2.2.2.2.2.1 == (7 : Int)) = true then
      if (a1.2.2.2.2.2.2 == a2.2.2.2.2.2.2) = true then
        some ((a2.2.2.2.2.2.1 == (0 : Int)), ())
      else
        some (false, ())
    else
      some (false, ())
noncomputable def S : Spec := ⟨ps, rs, .any, none, fun x r => ∃ k, f k x.1 x.2.1 = some r⟩
theorem rl {k a1 a2 r} (e : f k a1 a2 = some r) : S.rel (a1, a2, ()) r := ⟨k, e⟩
theorem f_ok {r k a1 a2} (H : f k a1 a2 = some r) : Gw P 0 (Q r) (Px c0 1 []) (⟨25, [(0, .cv (.agg (encC .any Td8a9 a1))), (1, .cv (.agg (encC .any Td8a9 a2)))], []⟩) := by
  unfold f at H
  refine Rg V_ok 2 [(0, hb 0), (1, hb 1)] az ?_
  rcases of_ite H with ⟨hb1, H⟩ | ⟨hb1, H⟩
  · refine Rg V_ok 0 [(2, {bv := some true})] (ac hb1 az) ?_
    exact Lf (Eq.trans (by kernel_rfl) H)
  · rcases of_ite H with ⟨hb2, H⟩ | ⟨hb2, H⟩
    · rcases of_ite H with ⟨hb3, H⟩ | ⟨hb3, H⟩
      · refine Rg V_ok 0 [(2, {bv := some false}), (6, {bv := some true}), (13, {bv := some true})] (ac hb1 (ac hb2 (ac hb3 az))) ?_
        exact Lf (Eq.trans (by kernel_rfl) H)
      · refine Rg V_ok 0 [(2, {bv := some false}), (6, {bv := some true}), (13, {bv := some false})] (ac hb1 (ac hb2 (ac hb3 az))) ?_
        exact Lf (Eq.trans (by kernel_rfl) H)
    · refine Rg V_ok 0 [(2, {bv := some false}), (6, {bv := some false})] (ac hb1 (ac hb2 az)) ?_
      exact Lf (Eq.trans (by kernel_rfl) H)
theorem fits : Fits P 26 S := fits_of V_ok Go.Proofs.Try.func26 (by kernel_rfl) (by decide) (by decide) rfl (fun x r ⟨k, H⟩ => of_G (f_ok H))
end f_audit_cut
/-! ### function 16, wayfinder/audit.Follows -/
namespace f_audit_Follows
noncomputable def c0 : Code := (Go.Proofs.Try.f16.body).getD .skip
abbrev ps : Sg := [(true, T5477), (false, (.slice (.slice T1383))), (true, T70a7), (false, (.slice Td8a9))]
abbrev rs : Sg := [(false, .bool)]
noncomputable def V : Env := { tt := tt, Γ := slk [(17, f_path_Walk.S), (26, f_audit_cut.S)] }
theorem V_ok : EnvOk P V := { ck := tt_ck, fits := slk_cons f_path_Walk.fits (slk_cons f_audit_cut.fits (slk_nil)), mixed := mixed }
abbrev R := Tup rs
noncomputable abbrev Q (r : R) : Exit → St → Prop := Qr tt Go.Proofs.Try.f16.results ⟨ps, rs, .any, none, fun _ _ => True⟩ r
noncomputable def s1 (a4 p2 : List Td8a9.T) (p4 p5 : Int) : St := ⟨76, [(3, .cv (.one (.sl Td8a9 a4 .any))), (9, .cv (.one (.sl Td8a9 p2 .any))), (23, .cv (.one (.sl Td8a9 a4 .any))), (24, .cv (.one (.i p4))), (25, .cv (.one (.i p5)))], []⟩
noncomputable def s3 (a4 p2 : List Td8a9.T) (p3 : Int) (p4 : Bool) (p6 p7 : Int) (p8 p9 : Td8a9.T) : St := ⟨76, [(3, .cv (.one (.sl Td8a9 a4 .any))), (9, .cv (.one (.sl Td8a9 p2 .any))), (10, .cv (.one (.i p3))), (11, .cv (.one (.ptr 0 0))), (12, .cv (.one (.ptr 1 0))), (13, .cv (.one (.bool p4))), (23, .cv (.one (.sl Td8a9 a4 .any))), (24, .cv (.one (.i p6))), (25, .cv (.one (.i p7)))], [(.box 7, (encC .any Td8a9 p8)), (.box 7, (encC .any Td8a9 p9))]⟩
noncomputable def s2 (a4 p2 : List Td8a9.T) (p4 p5 : Int) (p6 : Bool) : St := ⟨76, [(3, .cv (.one (.sl Td8a9 a4 .any))), (9, .cv (.one (.sl Td8a9 p2 .any))), (23, .cv (.one (.sl Td8a9 a4 .any))), (24, .cv (.one (.i p4))), (25, .cv (.one (.i p5))), (74, .cv (.one (.bool p6)))], []⟩
noncomputable def j2 (a4 : List Td8a9.T) (L1 : List Td8a9.T → Int → Int → Option R) (k : Nat) (p2 : List Td8a9.T) (p4 p5 : Int) (p6 : Bool) : Option R :=
  if p6 = true then
  some (false, ())
else
  L1 p2 p4 (IntKind.i64.wrap (p5 + 1))
theorem j2_ok {r a4} {L1 : List Td8a9.T → Int → Int → Option R} {m1 : Nat} (hL1 : ∀ p2 p4 p5, L1 p2 p4 p5 = some r → Gw P 0 (Q r) (Pb c0 87 [] m1) (s1 a4 p2 p4 p5)) {k p2 p4 p5 p6} (H : j2 a4 L1 k p2 p4 p5 p6 = some r) : Gw P 0 (Q r) (Px c0 63895 [m1]) (s2 a4 p2 p4 p5 p6) := by
  unfold j2 at H
  rcases of_ite H with ⟨hb11, H⟩ | ⟨hb11, H⟩
  · refine C1 hb11 ?_
    refine Rg V_ok 0 [] az ?_
    exact Lf (Eq.trans (by kernel_rfl) H)
  · refine C0 hb11 ?_
    refine Rg V_ok 0 [] az ?_
    exact Jm (tn [3, 9, 23, 24, 25] 0) (hL1 p2 p4 (IntKind.i64.wrap (p5 + 1)) H)
noncomputable def j3 (a4 : List Td8a9.T) (L1 : List Td8a9.T → Int → Int → Option R) (k : Nat) (p2 : List Td8a9.T) (p3 : Int) (p4 : Bool) (p6 p7 : Int) (p8 p9 : Td8a9.T) : Option R :=
  if (p8.2.2.1 != p9.2.2.1) = true then
  j2 a4 L1 k p2 p6 p7 true
else
  if (p8.2.2.2.1 != p9.2.2.2.1) = true then
    j2 a4 L1 k p2 p6 p7 true
  else
    if (!p4) = true then
      if (decide (p3 < (IntKind.i64.wrap ((a4.length : Int) - 1)))) = true then
        j2 a4 L1 k p2 p6 p7 true
      else
        (f_audit_cut.f k p8 p9).bind fun y9 =>
          j2 a4 L1 k p2 p6 p7 (!y9.1)
    else
      j2 a4 L1 k p2 p6 p7 false
theorem j3_ok {r a4} {L1 : List Td8a9.T → Int → Int → Option R} {m1 : Nat} (hL1 : ∀ p2 p4 p5, L1 p2 p4 p5 = some r → Gw P 0 (Q r) (Pb c0 87 [] m1) (s1 a4 p2 p4 p5)) {k p2 p3 p4 p6 p7 p8 p9} (H : j3 a4 L1 k p2 p3 p4 p6 p7 p8 p9 = some r) : Gw P 0 (Q r) (Px c0 31127 [m1]) (s3 a4 p2 p3 p4 p6 p7 p8 p9) := by
  unfold j3 at H
  rcases of_ite H with ⟨hb10, H⟩ | ⟨hb10, H⟩
  · refine Rg V_ok 0 [(4, {bv := some true})] (ac hb10 az) ?_
    exact Jm (tn [3, 9, 23, 24, 25, 74] 0) (j2_ok hL1 H)
  · rcases of_ite H with ⟨hb12, H⟩ | ⟨hb12, H⟩
    · refine Rg V_ok 0 [(4, {bv := some false}), (11, {bv := some true})] (ac hb10 (ac hb12 az)) ?_
      exact Jm (tn [3, 9, 23, 24, 25, 74] 0) (j2_ok hL1 H)
    · rcases of_ite H with ⟨hb13, H⟩ | ⟨hb13, H⟩
      · rcases of_ite H with ⟨hb14, H⟩ | ⟨hb14, H⟩
        · refine Rg V_ok 0 [(4, {bv := some false}), (11, {bv := some false}), (14, {bv := some true}), (20, {bv := some true})] (ac hb10 (ac hb12 (ac hb13 (ac hb14 az)))) ?_
          exact Jm (tn [3, 9, 23, 24, 25, 74] 0) (j2_ok hL1 H)
        · obtain ⟨y9, e15, H⟩ := of_bind H
          refine Rg V_ok 0 [(4, {bv := some false}), (11, {bv := some false}), (14, {bv := some true}), (20, {bv := some false}), (24, hr f_audit_cut.S y9)] (ac hb10 (ac hb12 (ac hb13 (ac hb14 (ac (f_audit_cut.rl e15) az))))) ?_
          exact Jm (tn [3, 9, 23, 24, 25, 74] 0) (j2_ok hL1 H)
      · refine Rg V_ok 0 [(4, {bv := some false}), (11, {bv := some false}), (14, {bv := some false})] (ac hb10 (ac hb12 (ac hb13 az))) ?_
        exact Jm (tn [3, 9, 23, 24, 25, 74] 0) (j2_ok hL1 H)
noncomputable def b1 (a4 : List Td8a9.T) (L1 : List Td8a9.T → Int → Int → Option R) (k : Nat) (p2 : List Td8a9.T) (p4 p5 : Int) : Option R :=
  if (decide (p5 < p4)) = true then
  if 0 ≤ p5 then
    if p5 < (a4.length : Int) then
      if p5 < (p2.length : Int) then
        if ((((((((att Td8a9 a4 p5).2).2).2).2).2).1) == (((((((att Td8a9 p2 p5).2).2).2).2).2).1)) = true then
          j3 a4 L1 k p2 p5 ((((((((att Td8a9 a4 p5).2).2).2).2).2).2) == (((((((att Td8a9 p2 p5).2).2).2).2).2).2)) p4 p5 (att Td8a9 a4 p5) (att Td8a9 p2 p5)
        else
          j3 a4 L1 k p2 p5 false p4 p5 (att Td8a9 a4 p5) (att Td8a9 p2 p5)
      else none
    else none
  else none
else
  some (true, ())
theorem b1_ok {r a4} {L1 : List Td8a9.T → Int → Int → Option R} {m1 : Nat} (hL1 : ∀ p2 p4 p5, L1 p2 p4 p5 = some r → Gw P 0 (Q r) (Pb c0 87 [] m1) (s1 a4 p2 p4 p5)) {k p2 p4 p5} (H : b1 a4 L1 k p2 p4 p5 = some r) : Gw P 0 (Q r) (Px c0 151 [m1]) (s1 a4 p2 p4 p5) := by
  unfold b1 at H
  refine Rg V_ok 0 [] az ?_
  rcases of_ite H with ⟨hb4, H⟩ | ⟨hb4, H⟩
  · refine C1 hb4 ?_
    obtain ⟨n5, H⟩ := of_if H
    obtain ⟨n6, H⟩ := of_if H
    refine Rg V_ok 1 [(3, hb 0)] (ac n5 (ac n6 az)) ?_
    obtain ⟨n7, H⟩ := of_if H
    refine Rg V_ok 1 [(4, hb 1)] (ac n5 (ac n7 az)) ?_
    rcases of_ite H with ⟨hb8, H⟩ | ⟨hb8, H⟩
    · refine Rg V_ok 0 [(4, {bv := some true})] (ac hb8 az) ?_
      exact Jm (tn [3, 9, 10, 11, 12, 13, 23, 24, 25] 2) (j3_ok hL1 H)
    · refine Rg V_ok 0 [(4, {bv := some false})] (ac hb8 az) ?_
      exact Jm (tn [3, 9, 10, 11, 12, 13, 23, 24, 25] 2) (j3_ok hL1 H)
  · refine C0 hb4 ?_
    refine Rg V_ok 0 [] az ?_
    exact Lf (Eq.trans (by kernel_rfl) H)
noncomputable def l1 (a4 : List Td8a9.T) (k : Nat) : Nat → List Td8a9.T → Int → Int → Option R
  | 0, _, _, _ => none
  | m + 1, p2, p4, p5 => b1 a4 (l1 a4 k m) k p2 p4 p5
theorem l1_ok {r a4} (k : Nat) : ∀ (m1 : Nat) (p2 : List Td8a9.T) (p4 : Int) (p5 : Int), l1 a4 k m1 p2 p4 p5 = some r → Gw P 0 (Q r) (Pb c0 87 [] m1) (s1 a4 p2 p4 p5)
  | 0, _, _, _, H => by cases H
  | m1 + 1, p2, p4, p5, H => SU (by kernel_rfl) (b1_ok (l1_ok k m1) H)
noncomputable def f (k : Nat) (a1 : T5477.T) (a2 : List (List T1383.T)) (a3 : T70a7.T) (a4 : List Td8a9.T) : Option R :=
  (f_path_Walk.f k a1 a2 a3).bind fun y1 =>
    if (decide ((a4.length : Int) > (y1.1.length : Int))) = true then
      some (false, ())
    else
      l1 a4 k k y1.1 (a4.length : Int) 0
noncomputable def S : Spec := ⟨ps, rs, .any, none, fun x r => ∃ k, f k x.1 x.2.1 x.2.2.1 x.2.2.2.1 = some r⟩
theorem rl {k a1 a2 a3 a4 r} (e : f k a1 a2 a3 a4 = some r) : S.rel (a1, a2, a3, a4, ()) r := ⟨k, e⟩
theorem f_ok {r k a1 a2 a3 a4} (H : f k a1 a2 a3 a4 = some r) : Gw P 0 (Q r) (Px c0 1 []) (⟨76, [(0, .cv (.agg (encC .any T5477 a1))), (1, .cv (.one (.sl (.slice T1383) a2 .any))), (2, .cv (.agg (encC .any T70a7 a3))), (3, .cv (.one (.sl Td8a9 a4 .any)))], []⟩) := by
  unfold f at H
  refine Rg V_ok 2 [(0, hb 0), (1, hb 1)] az ?_
  obtain ⟨y1, e2, H⟩ := of_bind H
  refine Rg V_ok 0 [(3, hr f_path_Walk.S y1)] (ac (f_path_Walk.rl e2) az) ?_
  refine Rg V_ok 0 [] az ?_
  rcases of_ite H with ⟨hb3, H⟩ | ⟨hb3, H⟩
  · refine C1 hb3 ?_
    refine Rg V_ok 0 [] az ?_
    exact Lf (Eq.trans (by kernel_rfl) H)
  · refine C0 hb3 ?_
    refine Rg V_ok 0 [] az ?_
    exact LP k (Jm (tn [3, 9, 23, 24, 25] 0) (l1_ok k k y1.1 (a4.length : Int) 0 H))
theorem fits : Fits P 16 S := fits_of V_ok Go.Proofs.Try.func16 (by kernel_rfl) (by decide) (by decide) rfl (fun x r ⟨k, H⟩ => of_G (f_ok H))
end f_audit_Follows

namespace f_audit_Tag
attribute [local go_sem] Oper.semAt_some
structure Aside0 (p : Prop) : Prop where mk :: (out : p)
def hA (x : Td8a9.T) : Array Value := #[.int .i64 x.1, .int .i64 x.2.1, .int .i64 x.2.2.1, .int .i64 x.2.2.2.1, .int .i64 x.2.2.2.2.1, .int .i64 x.2.2.2.2.2.1, .int .i64 x.2.2.2.2.2.2]
def hE (x : Td8a9.T) : Array Value := #[.agg (hA x)]
/-- hops that may be read, wherever the world goes on from here -/
def Hops (w : World) (A : Option Addr) (xs : List Td8a9.T) : Prop := ∀ (i : Nat) (x : Td8a9.T), xs[i]? = some x → ∃ ad, A = some ad ∧ w.cell? (ad.add (i * 7)) = some (.int .i64 x.1) ∧ w.cell? ⟨(ad.add (i * 7)).block, (ad.add (i * 7)).off + 1, none⟩ = some (.int .i64 x.2.1) ∧ w.cell? ⟨(ad.add (i * 7)).block, (ad.add (i * 7)).off + 2, none⟩ = some (.int .i64 x.2.2.1) ∧ w.cell? ⟨(ad.add (i * 7)).block, (ad.add (i * 7)).off + 3, none⟩ = some (.int .i64 x.2.2.2.1) ∧ w.cell? ⟨(ad.add (i * 7)).block, (ad.add (i * 7)).off + 4, none⟩ = some (.int .i64 x.2.2.2.2.1) ∧ w.cell? ⟨(ad.add (i * 7)).block, (ad.add (i * 7)).off + 5, none⟩ = some (.int .i64 x.2.2.2.2.2.1) ∧ w.cell? ⟨(ad.add (i * 7)).block, (ad.add (i * 7)).off + 6, none⟩ = some (.int .i64 x.2.2.2.2.2.2)
theorem hops_of {F : Nat → Prop} {w : World} {A : Option Addr} {n c : Nat} {xs : List Td8a9.T} (h : RepD F w (.slice Td8a9) xs [.slice A n c]) : n = xs.length ∧ Hops w A xs := by
  obtain ⟨A', c', inner, e, hc, hE, hr⟩ := h
  simp only [List.cons.injEq, Value.slice.injEq, and_true] at e
  obtain ⟨rfl, rfl, rfl⟩ := e
  refine ⟨rfl, fun i x hx => ?_⟩
  obtain ⟨cs, h1, h2⟩ := El.get (s := 7) (fun x c h => RepD.len h) hE hx
  obtain ⟨q1, r1, rfl, rfl, q2, r2, rfl, rfl, q3, r3, rfl, rfl, q4, r4, rfl, rfl, q5, r5, rfl, rfl, q6, r6, rfl, rfl, rfl⟩ := h1
  have h3 : ∀ j u, ([Value.int .i64 x.1] ++ ([Value.int .i64 x.2.1] ++ ([Value.int .i64 x.2.2.1] ++ ([Value.int .i64 x.2.2.2.1] ++ ([Value.int .i64 x.2.2.2.2.1] ++ ([Value.int .i64 x.2.2.2.2.2.1] ++ [Value.int .i64 x.2.2.2.2.2.2]))))))[j]? = some u → ∃ b o, A = some ⟨b, o, none⟩ ∧ w.cell? ⟨b, o + (i * 7 + j), none⟩ = some u := fun j u hu => by
    obtain ⟨b, o, k1, _, k3⟩ := hr _ _ (h2 j u hu)
    exact ⟨b, o, k1, k3⟩
  obtain ⟨b, o, rfl, k0⟩ := h3 0 _ rfl
  have g : ∀ j u, ([Value.int .i64 x.1] ++ ([Value.int .i64 x.2.1] ++ ([Value.int .i64 x.2.2.1] ++ ([Value.int .i64 x.2.2.2.1] ++ ([Value.int .i64 x.2.2.2.2.1] ++ ([Value.int .i64 x.2.2.2.2.2.1] ++ [Value.int .i64 x.2.2.2.2.2.2]))))))[j]? = some u → w.cell? ⟨b, o + i * 7 + j, none⟩ = some u := fun j u hu => by
    obtain ⟨b', o', e, k⟩ := h3 j u hu
    cases e
    rw [Nat.add_assoc]
    exact k
  refine ⟨⟨b, o, none⟩, rfl, ?_⟩
  rw [Addr.add_plain]
  exact ⟨g 0 _ rfl, g 1 _ rfl, g 2 _ rfl, g 3 _ rfl, g 4 _ rfl, g 5 _ rfl, g 6 _ rfl⟩
theorem cell_alloc {wr : World} {B : Nat} {v : Value} (h : wr.cell? ⟨B, 0, none⟩ = some v) (o : Obj) : (wr.alloc o).cell? ⟨B, 0, none⟩ = some v := by
  by_cases hB : B < wr.heap.size
  · exact (World.cell?_of_block (w := wr) (a := ⟨B, 0, none⟩) (heap_alloc_old wr o hB)).trans h
  · unfold World.cell? at h
    rw [Array.getElem?_eq_none (by dsimp only; omega)] at h
    cases h
theorem row_cells {W : World} {b t : Nat} {x : Td8a9.T} (h : W.heap[b]? = some (.cells (hA x) t (0, 0))) : W.cell? ⟨b, 0, none⟩ = some (.int .i64 x.1) ∧ W.cell? ⟨b, 1, none⟩ = some (.int .i64 x.2.1) ∧ W.cell? ⟨b, 2, none⟩ = some (.int .i64 x.2.2.1) ∧ W.cell? ⟨b, 3, none⟩ = some (.int .i64 x.2.2.2.1) ∧ W.cell? ⟨b, 4, none⟩ = some (.int .i64 x.2.2.2.2.1) ∧ W.cell? ⟨b, 5, none⟩ = some (.int .i64 x.2.2.2.2.2.1) ∧ W.cell? ⟨b, 6, none⟩ = some (.int .i64 x.2.2.2.2.2.2) := by
  refine ⟨?_, ?_, ?_, ?_, ?_, ?_, ?_⟩ <;> (rw [cell_of_row _ _ _ _ _ _ h]; rfl)
theorem abides_below {J : List Td8a9.T → World → Prop} {B : Nat} (hJ : AbidesFrom B J) {ys : List Td8a9.T} {W W' : World} (h : J ys W) (hb : Below W.heap.size W W') : J ys W' :=
  hJ _ _ _ none h ⟨hb.os, hb.tape, hb.output, hb.size, fun k hk _ => hb.block k hk⟩ (fun r e => by cases e)
theorem filter_take {p : Td8a9.T → Bool} {xs : List Td8a9.T} {k : Nat} {x : Td8a9.T} (h : xs[k]? = some x) : (xs.take (k + 1)).filter p = (xs.take k).filter p ++ (if p x = true then [x] else []) := by
  rw [List.take_add_one, h, List.filter_append]
  simp only [Option.toList, List.filter_cons, List.filter_nil]
theorem below_then {B : Nat} {w w1 w2 : World} (h : Below B w w1) (hB : B ≤ w1.heap.size) (k : Below w1.heap.size w1 w2) : Below B w w2 :=
  h.trans ⟨k.os, k.tape, k.output, k.size, fun i hi => k.block i (Nat.lt_of_lt_of_le hi hB)⟩
/-- what tells which hops are meant: a function value that answers p -/
def Tells (F : Fence) (q : Nat) (p : Td8a9.T → Bool) (W : World) : Prop := ∀ m x, CallsIn F m Go.Proofs.Try.prog 25 (hE x ++ #[]) W fun e w' => e = .returned (.bool (p x)) ∧ Below W.heap.size W w'
set_option maxRecDepth 100000 in
set_option maxHeartbeats 4000000 in
theorem those_in (F : Fence) (hF : ∀ f, F.fn f) (hro : F.round = none) (n : Nat) (A : Option Addr) (len cap : Nat) (q : Nat) (w : World) :
    CallsIn F n Go.Proofs.Try.prog 22 #[.slice A len cap, .func (.func 25) #[] #[]] w fun e w' => e = .returned (.func (.func 39) #[] #[.pointer (some ⟨w.heap.size, 0, none⟩), .pointer (some ⟨w.heap.size + 1, 0, none⟩)]) ∧ w' = (w.alloc (.cells #[.slice A len cap] 31)).alloc (.cells #[.func (.func 25) #[] #[]] 64) := by
  refine callsIn_of_wp Go.Proofs.Try.func22 rfl (hF _) ?_ hro
  simp only [Go.Proofs.Try.ntmps22, List.size_toArray, List.length_cons, List.length_nil, Nat.reduceAdd, Nat.reduceSub, Array.replicate_succ, Array.replicate_zero, List.push_toArray, List.append_toArray, List.nil_append, List.cons_append]
  gi_wp2
  go_ret
  exact ⟨rfl, rfl⟩
set_option maxRecDepth 100000 in
set_option maxHeartbeats 4000000 in
theorem those1_in (F : Fence) (hF : ∀ f, F.fn f) (hro : F.round = none) (n : Nat) (hn : 1 ≤ n) (l Bs Bf n₀ cap : Nat) (A : Option Addr) (xs : List Td8a9.T) (q : Nat) (p : Td8a9.T → Bool) (Kp : World → World → Prop) (hKr : ∀ A, Kp A A) (hKt : ∀ A B C, Kp A B → Kp B C → Kp A C) (hKs : ∀ A B, Kp A B → A.heap.size ≤ B.heap.size) (hKa : ∀ A B, n₀ ≤ A.heap.size → Below A.heap.size A B → Kp A B) (hmx : xs.length ≤ 9223372036854775807) (J Jx : List Td8a9.T → World → Prop) (W : World)
    (hJ : AbidesFrom W.heap.size J) (hn0 : n₀ ≤ W.heap.size)
    (hY : ∀ pre x W1, J pre W1 → pre.length < xs.length → YieldAt F (n - 1) Go.Proofs.Try.prog l (hE x) W1 fun e W' =>
      (e = .returned (.bool true) ∧ J (pre ++ [x]) W' ∧ Kp W1 W') ∨ (e = .returned (.bool false) ∧ Jx (pre ++ [x]) W'))
    (hBs : ∀ W', Kp W W' → W'.cell? ⟨Bs, 0, none⟩ = some (.slice A xs.length cap)) (hBf : ∀ W', Kp W W' → W'.cell? ⟨Bf, 0, none⟩ = some (.func (.func 25) #[] #[])) (hC : ∀ W', Kp W W' → Hops W' A xs) (hT : ∀ W', Kp W W' → Tells F q p W') (h0 : J [] W) :
    CallsIn F n Go.Proofs.Try.prog 39 #[.func (.yield l) #[] #[], .pointer (some ⟨Bs, 0, none⟩), .pointer (some ⟨Bf, 0, none⟩)] W fun e W' => (∃ v, e = .returned v) ∧
      ((∃ ys, ys = xs.filter p ∧ J ys W') ∨ (∃ pre, (∃ k, pre = (xs.take k).filter p) ∧ Jx pre W')) := by
  have hBs0 := hBs W (hKr W)
  have HC := Aside0.mk hC
  have HBS := Aside0.mk hBs
  have HBF := Aside0.mk hBf
  have HKT := Aside0.mk hKt
  have HKA := Aside0.mk hKa
  have HT := Aside0.mk hT
  have HBR := Aside0.mk (hKr W)
  have HKS := Aside0.mk hKs
  clear hC hT hBs hBf hKt hKa hKr hKs
  refine callsIn_of_wp Go.Proofs.Try.func39 rfl (hF _) ?_ hro
  simp only [Go.Proofs.Try.ntmps39, List.size_toArray, List.length_cons, List.length_nil, Nat.reduceAdd, Nat.reduceSub, Array.replicate_succ, Array.replicate_zero, List.push_toArray, List.append_toArray, List.nil_append, List.cons_append]
  gi_wp2
  gi_loopw [8] (fun i wr => ∃ k : Nat, k ≤ xs.length ∧ i = .int .i64 (k : Int) ∧ Aside0 (J ((xs.take k).filter p) wr) ∧ Aside0 (Kp W wr))
    (fun i _ => ((xs.length : Int) - intOf i).toNat)
  case atStart => exact ⟨0, Nat.zero_le _, rfl, ⟨h0⟩, HBR⟩
  case round =>
    obtain ⟨k, hk, rfl, HJ, HB⟩ := hrel
    have hbx : wr.cell? ⟨Bs, 0, none⟩ = some (.slice A xs.length cap) := HBS.out wr HB.out
    have hbg : wr.cell? ⟨Bf, 0, none⟩ = some (.func (.func 25) #[] #[]) := HBF.out wr HB.out
    clear hBs0 h0
    by_cases hlt : k < xs.length
    · obtain ⟨x, HX⟩ : ∃ x, Aside0 (xs[k]? = some x) := ⟨_, ⟨List.getElem?_eq_getElem hlt⟩⟩
      obtain ⟨ad, e, c0, c1, c2, c3, c4, c5, c6⟩ := HC.out wr HB.out k x HX.out
      subst e
      have HW := Aside0.mk (show n₀ ≤ wr.heap.size from Nat.le_trans hn0 (HKS.out _ _ HB.out))
      have HJ1 := Aside0.mk (hJ _ _ _ none HJ.out (World.grownBy_alloc wr (.cells (hA x) 41) none) (fun r e => by cases e))
      have HB1 := Aside0.mk (HKT.out _ _ _ HB.out (HKA.out _ _ HW.out ((Below.refl _ wr).alloc (Nat.le_refl _) (.cells (hA x) 41))))
      have HT1 := Aside0.mk (HT.out _ HB1.out (n - 1) x)
      have hw : IntKind.i64.wrap ((k : Int) + 1) = ((k + 1 : Nat) : Int) := by rw [IntKind.wrap_i64]; omega
      have hbg1 : (wr.alloc (.cells (hA x) 41)).cell? ⟨Bf, 0, none⟩ = some (.func (.func 25) #[] #[]) := cell_alloc hbg _
      have HR1 := Aside0.mk (heap_alloc_new wr (.cells (hA x) 41))
      obtain ⟨d0, d1, d2, d3, d4, d5, d6⟩ := row_cells HR1.out
      simp only [hA] at hbg1 d0 d1 d2 d3 d4 d5 d6
      simp only [hA, hE] at HT1
      have HFT := Aside0.mk (filter_take (p := p) HX.out)
      have HJA := Aside0.mk hJ
      have HY := Aside0.mk hY
      have HLT := Aside0.mk (show ((xs.take k).filter p).length < xs.length from Nat.lt_of_le_of_lt (List.length_filter_le _ _) (by rw [List.length_take]; omega))
      clear hJ hY
      have hfg : F.fn 25 := hF _
      cases hp : p x
      · rw [hp] at HT1 HFT
        rw [if_neg Bool.false_ne_true, List.append_nil] at HFT
        gi_wp2_with (gi_at_call 25; refine HT1.out.mono ?_; rintro e w5 ⟨rfl, hB5⟩; have HB5 := Aside0.mk hB5; clear hB5)
        go_roundw
        case rel => exact ⟨k + 1, by omega, congrArg (Value.int .i64) (by omega), ⟨HFT.out ▸ abides_below HJA.out HJ1.out HB5.out⟩, ⟨HKT.out _ _ _ HB1.out (HKA.out _ _ (Nat.le_trans HW.out (by simp)) HB5.out)⟩⟩
        case measure => simp [intOf]; omega
      · rw [hp] at HT1 HFT
        rw [if_pos rfl] at HFT
        gi_wp2_with (gi_at_call 25; refine HT1.out.mono ?_; rintro e w5 ⟨rfl, hB5⟩; have HB5 := Aside0.mk hB5; clear hB5; clear d0 d1 d2 d3 d4 d5 d6; obtain ⟨d0, d1, d2, d3, d4, d5, d6⟩ := row_cells ((HB5.out.block wr.heap.size (by simp)).trans HR1.out); obtain ⟨fn, tmps, assign, body, hy, hR⟩ := HY.out _ x w5 (abides_below HJA.out HJ1.out HB5.out) HLT.out; simp only [hE, hA] at hy)
        refine hR.mono ?_
        rintro e W3 (⟨rfl, hJ3, hk3⟩ | ⟨rfl, hJx3⟩)
        · rw [← HFT.out] at hJ3
          have HJ3 := Aside0.mk hJ3
          have HK3 := Aside0.mk hk3
          clear hJ3 hk3
          gi_wp2
          go_roundw
          case rel => exact ⟨k + 1, by omega, congrArg (Value.int .i64) (by omega), HJ3, ⟨HKT.out _ _ _ (HKT.out _ _ _ HB1.out (HKA.out _ _ (Nat.le_trans HW.out (by simp)) HB5.out)) HK3.out⟩⟩
          case measure => simp [intOf]; omega
        · rw [← HFT.out] at hJx3
          gi_wp2
          refine bodyPost_ret (results_none rfl _ _ _) rfl ?_
          exact ⟨⟨_, rfl⟩, .inr ⟨_, ⟨k + 1, rfl⟩, hJx3⟩⟩
    · obtain rfl : k = xs.length := by omega
      gi_wp2
      go_end0
      exact ⟨⟨_, rfl⟩, .inl ⟨_, rfl, by rw [List.take_length] at HJ; exact HJ.out⟩⟩
theorem those_stops (F : Fence) (hF : ∀ f, F.fn f) (hro : F.round = none) (n : Nat) (hn : 1 ≤ n) (Bs Bf n₀ cap : Nat) (A : Option Addr) (xs : List Td8a9.T) (q : Nat) (p : Td8a9.T → Bool) (w : World) (hn0 : n₀ ≤ w.heap.size) (Kp : World → World → Prop) (hKr : ∀ A, Kp A A) (hKt : ∀ A B C, Kp A B → Kp B C → Kp A C) (hKs : ∀ A B, Kp A B → A.heap.size ≤ B.heap.size) (hKa : ∀ A B, n₀ ≤ A.heap.size → Below A.heap.size A B → Kp A B) (hmx : xs.length ≤ 9223372036854775807)
    (hBs : ∀ W', Kp w W' → W'.cell? ⟨Bs, 0, none⟩ = some (.slice A xs.length cap)) (hBf : ∀ W', Kp w W' → W'.cell? ⟨Bf, 0, none⟩ = some (.func (.func 25) #[] #[])) (hC : ∀ W', Kp w W' → Hops W' A xs) (hT : ∀ W', Kp w W' → Tells F q p W') :
    SeqStopsK F n Go.Proofs.Try.prog 39 #[.pointer (some ⟨Bs, 0, none⟩), .pointer (some ⟨Bf, 0, none⟩)] hE Kp (fun ys => ys = xs.filter p) (fun pre => ∃ k, pre = (xs.take k).filter p) xs.length w := fun l J Jx W hW hJ _ hY h0 =>
  have hK := hKa w W hn0 hW
  those1_in F hF hro n hn l Bs Bf n₀ cap A xs q p Kp hKr hKt hKs hKa hmx J Jx W hJ (Nat.le_trans hn0 hW.size) hY (fun W' h => hBs W' (hKt _ _ _ hK h)) (fun W' h => hBf W' (hKt _ _ _ hK h)) (fun W' h => hC W' (hKt _ _ _ hK h)) (fun W' h => hT W' (hKt _ _ _ hK h)) h0
def tg (x : Td8a9.T) : Int := x.2.2.2.2.1
def hT (l : List Td8a9.T) : Int := (l.head?.map tg).getD 0
def open_ (x : Td8a9.T) : Bool := x.2.2.2.2.2.1 != (6 : Int)
def tagR (l : List Td8a9.T) : Int := if l.all (fun a => tg a == hT l) = true then hT l else -1
theorem hT_app {pre : List Td8a9.T} (h : pre ≠ []) (r : List Td8a9.T) : hT (pre ++ r) = hT pre := by
  cases pre with
  | nil => exact absurd rfl h
  | cons a r => rfl
theorem tagR_bad (xs : List Td8a9.T) (k : Nat) (a : Td8a9.T) (h1 : a ∈ (xs.take k).filter open_) (h2 : tg a ≠ hT ((xs.take k).filter open_)) : tagR (xs.filter open_) = -1 := by
  have hs : xs.filter open_ = (xs.take k).filter open_ ++ (xs.drop k).filter open_ := by rw [← List.filter_append, List.take_append_drop]
  unfold tagR
  rw [if_neg]
  intro h
  have h3 := beq_iff_eq.1 (List.all_eq_true.1 h a (by rw [hs]; exact List.mem_append_left _ h1))
  rw [hs, hT_app (List.ne_nil_of_mem h1)] at h3
  exact h2 h3
theorem enter_of {P : Program} {f : Nat} {fn : Func} {c : Code} (hf : P.funcs[f]? = some fn) (hb : fn.body = some c) (hn : fn.name ≠ "runtime.NumGoroutine") (args : Array Value) (w : World) : (callFunc f args).run P w = .ok (.enter f args) w := by
  simp [callFunc, hf, hb, hn]
set_option maxRecDepth 100000 in
set_option maxHeartbeats 4000000 in
theorem tag1_in (F : Fence) (hF : ∀ f, F.fn f) (hro : F.round = none) (q : Nat) (W : World) : Tells F q open_ W := by
  intro m x
  obtain ⟨x0, x1, x2, x3, x4, x5, x6⟩ := x
  refine callsIn_of_wp Go.Proofs.Try.func25 rfl (hF _) ?_ hro
  simp only [hE, hA, Go.Proofs.Try.ntmps25, List.size_toArray, List.length_cons, List.length_nil, Nat.reduceAdd, Nat.reduceSub, Array.replicate_succ, Array.replicate_zero, List.push_toArray, List.append_toArray, List.nil_append, List.cons_append]
  gi_wp2
  go_ret
  exact ⟨rfl, (Below.refl _ _).alloc (Nat.le_refl _) _⟩
theorem zeroHop : ∀ w, (zeroValue 41).run Go.Proofs.Try.prog w = .ok (.agg #[.int .i64 0, .int .i64 0, .int .i64 0, .int .i64 0, .int .i64 0, .int .i64 0, .int .i64 0]) w := (zero_of_info (n := 7) (by kernel_rfl : (Go.Proofs.Try.prog.info? 41).map (fun i => (i.zero, i.size)) = some (some (.agg #[.int .i64 0, .int .i64 0, .int .i64 0, .int .i64 0, .int .i64 0, .int .i64 0, .int .i64 0]), 7))).1
def KpT (s : Nat) (A B : World) : Prop := Below s A B ∧ (B.heap[s + 1 + 1 + 1]? = A.heap[s + 1 + 1 + 1]? ∧ B.heap[s + 1 + 1 + 1 + 1]? = A.heap[s + 1 + 1 + 1 + 1]?)
theorem KpT_r (s : Nat) (A : World) : KpT s A A := ⟨Below.refl _ _, rfl, rfl⟩
theorem KpT_t {s : Nat} {A B C : World} (h : KpT s A B) (k : KpT s B C) : KpT s A C := ⟨h.1.trans k.1, k.2.1.trans h.2.1, k.2.2.trans h.2.2⟩
theorem KpT_a {s : Nat} {A B : World} (hs : s + 5 ≤ A.heap.size) (h : Below A.heap.size A B) : KpT s A B :=
  ⟨⟨h.os, h.tape, h.output, h.size, fun i hi => h.block i (by omega)⟩, h.block _ (by omega), h.block _ (by omega)⟩
theorem KpT_b {s : Nat} {w : World} (hs : s + 5 ≤ w.heap.size) (W : World) (l : Nat) (o o' : Obj) (hl : w.heap.size ≤ l) (h : W.heap[l]? = some o) (h1 : o.isCells = false) (h2 : o.isWalk = false) : KpT s W (W.putObj l o') :=
  ⟨belowK_b (w := w) (by omega) W l o o' hl h h1 h2, World.putObj_heap_other (by omega), World.putObj_heap_other (by omega)⟩
theorem KpT_s {s : Nat} (W : World) (b : Nat) (v : Value) (hW : s + 5 ≤ W.heap.size) (hb : s ≤ b) (h3 : b ≠ s + 1 + 1 + 1) (h4 : b ≠ s + 1 + 1 + 1 + 1) : KpT s W (W.setCell ⟨b, 0, none⟩ v) :=
  ⟨(Below.refl _ W).setCell (p := ⟨b, 0, none⟩) hb v, (grownBy_setCell' W b v).block _ (by omega) (fun e => h3 (Option.some.inj e).symm), (grownBy_setCell' W b v).block _ (by omega) (fun e => h4 (Option.some.inj e).symm)⟩
set_option maxRecDepth 100000 in
set_option maxHeartbeats 4000000 in
theorem tag_in (F : Fence) (hF : ∀ f, F.fn f) (hro : F.round = none) (n : Nat) (hn : 4 ≤ n) (A : Option Addr) (cap : Nat) (xs : List Td8a9.T) (w : World) (hmx : xs.length ≤ 9223372036854775807) (hC : ∀ W', Below w.heap.size w W' → Hops W' A xs) :
    CallsIn F n Go.Proofs.Try.prog 14 #[.slice A xs.length cap] w fun e w' => e = .returned (.int .i64 (tagR (xs.filter open_))) ∧ Below w.heap.size w w' := by
  have h1 : 1 ≤ n := by omega
  have hfa : F.fn 22 := hF _
  refine callsIn_of_wp_marks Go.Proofs.Try.func14 rfl (hF _) ?_ hro
  simp only [Go.Proofs.Try.ntmps14, List.size_toArray, List.length_cons, List.length_nil, Nat.reduceAdd, Nat.reduceSub, Array.replicate_succ, Array.replicate_zero, List.push_toArray, List.append_toArray, List.nil_append, List.cons_append]
  gi_wp2_with (gi_at_call 22; refine (those_in F hF hro (n - 1) A xs.length cap 0 _).mono ?_; rintro e w' ⟨rfl, rfl⟩)
  obtain ⟨W1, hW1⟩ : ∃ W1, w.alloc (.cells #[.int .i64 0] 3) = W1 := ⟨_, rfl⟩
  have b2 : Boxed W1 w.heap.size 3 (.int .i64 0) := hW1 ▸ Boxed.new w _ _
  have z1 : W1.heap.size = w.heap.size + 1 := by rw [← hW1]; simp
  have B1 : Below w.heap.size w W1 := hW1 ▸ (Below.refl _ w).alloc (Nat.le_refl _) _
  obtain ⟨W2, hW2⟩ : ∃ W2, W1.alloc (.cells #[.int .i64 0] 3) = W2 := ⟨_, rfl⟩
  have b3 : Boxed W2 (w.heap.size + 1) 3 (.int .i64 0) := by rw [← hW2, ← z1]; exact Boxed.new W1 _ _
  have z2 : W2.heap.size = w.heap.size + 2 := by rw [← hW2]; simp [z1]
  have B2 : Below w.heap.size w W2 := hW2 ▸ B1.alloc (by omega) _
  have b2 : Boxed W2 w.heap.size 3 (.int .i64 0) := hW2 ▸ b2.alloc _
  obtain ⟨W3, hW3⟩ : ∃ W3, W2.alloc (.cells #[.bool false] 4) = W3 := ⟨_, rfl⟩
  have b4 : Boxed W3 (w.heap.size + 2) 4 (.bool false) := by rw [← hW3, ← z2]; exact Boxed.new W2 _ _
  have z3 : W3.heap.size = w.heap.size + 3 := by rw [← hW3]; simp [z2]
  have B3 : Below w.heap.size w W3 := hW3 ▸ B2.alloc (by omega) _
  have b2 : Boxed W3 w.heap.size 3 (.int .i64 0) := hW3 ▸ b2.alloc _
  have b3 : Boxed W3 (w.heap.size + 1) 3 (.int .i64 0) := hW3 ▸ b3.alloc _
  obtain ⟨W4, hW4⟩ : ∃ W4, W3.alloc (.cells #[.slice A xs.length cap] 31) = W4 := ⟨_, rfl⟩
  have b5 : Boxed W4 (w.heap.size + 3) 31 (.slice A xs.length cap) := by rw [← hW4, ← z3]; exact Boxed.new W3 _ _
  have z4 : W4.heap.size = w.heap.size + 4 := by rw [← hW4]; simp [z3]
  have B4 : Below w.heap.size w W4 := hW4 ▸ B3.alloc (by omega) _
  have b2 : Boxed W4 w.heap.size 3 (.int .i64 0) := hW4 ▸ b2.alloc _
  have b3 : Boxed W4 (w.heap.size + 1) 3 (.int .i64 0) := hW4 ▸ b3.alloc _
  have b4 : Boxed W4 (w.heap.size + 2) 4 (.bool false) := hW4 ▸ b4.alloc _
  obtain ⟨W0, hW0⟩ : ∃ W0, W4.alloc (.cells #[.func (.func 25) #[] #[]] 64) = W0 := ⟨_, rfl⟩
  have b6 : Boxed W0 (w.heap.size + 4) 64 (.func (.func 25) #[] #[]) := by rw [← hW0, ← z4]; exact Boxed.new W4 _ _
  have z0 : W0.heap.size = w.heap.size + 5 := by rw [← hW0]; simp [z4]
  have B0 : Below w.heap.size w W0 := hW0 ▸ B4.alloc (by omega) _
  have b2 : Boxed W0 w.heap.size 3 (.int .i64 0) := hW0 ▸ b2.alloc _
  have b3 : Boxed W0 (w.heap.size + 1) 3 (.int .i64 0) := hW0 ▸ b3.alloc _
  have b4 : Boxed W0 (w.heap.size + 2) 4 (.bool false) := hW0 ▸ b4.alloc _
  have b5 : Boxed W0 (w.heap.size + 3) 31 (.slice A xs.length cap) := hW0 ▸ b5.alloc _
  rw [hW1, hW2, hW3, hW4, hW0]
  clear hW1 hW2 hW3 hW4 hW0 z1 z2 z3 z4 B1 B2 B3 B4
  refine wpIn_rangeFunc_ownH hro h1 (gf := 39) (lb := #[.pointer (some ⟨w.heap.size + 1 + 1 + 1, 0, none⟩), .pointer (some ⟨w.heap.size + 1 + 1 + 1 + 1, 0, none⟩)]) rfl (hF _) (fun args w => enter_of (c := (Go.Proofs.Try.f39.body).getD .skip) Go.Proofs.Try.func39 (by kernel_rfl) (by decide) args w)
    (those_stops F hF hro (n - 1) (by omega) (w.heap.size + 1 + 1 + 1) (w.heap.size + 1 + 1 + 1 + 1) W0.heap.size cap A xs 0 open_ W0 (Nat.le_refl _) (KpT w.heap.size) (KpT_r _) (fun _ _ _ h k => KpT_t h k) (fun _ _ h => h.1.size) (fun _ _ h k => KpT_a (by omega) k) hmx (fun W' h => (World.cell?_of_block (w := W0) (a := ⟨w.heap.size + 1 + 1 + 1, 0, none⟩) h.2.1).trans b5.cell) (fun W' h => (World.cell?_of_block (w := W0) (a := ⟨w.heap.size + 1 + 1 + 1 + 1, 0, none⟩) h.2.2).trans b6.cell) (fun W' hW' => hC W' (B0.trans hW'.1)) (fun W' _ => tag1_in F hF hro 0 W')) KpT_t (KpT_b (by omega)) (Below.refl _ _) (fun _ => rfl)
    (fun pre W => ((((Boxed W w.heap.size 3 (.int .i64 0) ∧ Boxed W (w.heap.size + 1) 3 (.int .i64 (hT pre))) ∧ Boxed W (w.heap.size + 2) 4 (.bool (!pre.isEmpty))) ∧ Boxed W (w.heap.size + 4) 64 (.func (.func 25) #[] #[])) ∧ (∀ a ∈ pre, tg a = hT pre)) ∧ Below w.heap.size w W)
    (fun c pre W => ((c = .ret ∧ ∃ a ∈ pre, tg a ≠ hT pre) ∧ Boxed W w.heap.size 3 (.int .i64 (-1))) ∧ Below w.heap.size w W)
    (OwnFrom.and (OwnFrom.and (OwnFrom.and (OwnFrom.and (OwnFrom.and (Own.from (boxed_own _ _ _) _) (Own.from (boxed_own _ _ _) _)) (Own.from (boxed_own _ _ _) _)) (Own.from (boxed_own _ _ _) _)) (ownFrom_pure _ _)) (ownFrom_below (Nat.le_refl _) (by omega)))
    (fun c => OwnFrom.and (OwnFrom.and (ownFrom_pure _ _) (Own.from (boxed_own _ _ _) _)) (ownFrom_below (Nat.le_refl _) (by omega)))
    ⟨⟨⟨⟨⟨b2, b3⟩, b4⟩, b6⟩, by simp⟩, B0⟩
    (fun x a' W => ∃ Bx, w.heap.size + 4 < Bx ∧ W.heap[Bx]? = some (.cells (hA x) 41 (0, 0)) ∧ a' = { tmps := #[.slice A xs.length cap, undef, .pointer (some ⟨w.heap.size, 0, none⟩), .pointer (some ⟨w.heap.size + 1, 0, none⟩), .pointer (some ⟨w.heap.size + 1 + 1, 0, none⟩), .pointer (some ⟨Bx, 0, none⟩), .slice A xs.length cap, .func (.func 39) #[] #[.pointer (some ⟨w.heap.size + 1 + 1 + 1, 0, none⟩), .pointer (some ⟨w.heap.size + 1 + 1 + 1 + 1, 0, none⟩)], .agg (hA x), undef, undef, undef, undef, undef, undef, undef, undef, undef, undef], defers := [] })
    ?hAx ?assign ?body ?done ?stop
  case hAx =>
    rintro x a' s W W' row ⟨Bx, hB1, hB2, rfl⟩ hg hr
    refine ⟨Bx, hB1, ?_, rfl⟩
    rw [hg.block Bx (Array.getElem?_eq_some_iff.1 hB2).1 (fun e => ?_)]
    · exact hB2
    · obtain ⟨_, o, ho, hc⟩ := hr Bx e.symm
      rw [hB2] at ho
      cases ho
      cases hc
  case assign =>
    rintro l pre x W K ⟨⟨⟨⟨⟨h2, h3⟩, h4⟩, h6⟩, hP⟩, hB⟩ hK
    have hWs : w.heap.size + 4 < W.heap.size := h6.lt
    simp only [hE, hA]
    have hz := zeroHop
    gi_wp2
    exact hK _ _ ((KeepsOthers.alloc _ _).from _) (KpT_a (by omega) ((Below.refl _ W).alloc (Nat.le_refl _) _)) ⟨⟨⟨⟨⟨h2.alloc _, h3.alloc _⟩, h4.alloc _⟩, h6.alloc _⟩, hP⟩, hB.alloc hB.size _⟩ ⟨W.heap.size, hWs, heap_alloc_new _ _, rfl⟩
  case body =>
    rintro l pre x a' W hl ⟨r, hr⟩ ⟨⟨⟨⟨⟨h2, h3⟩, h4⟩, h6⟩, hP⟩, hB⟩ ⟨Bx, hBx, hX, rfl⟩ hlt
    obtain ⟨d0, d1, d2, d3, d4, d5, d6⟩ := row_cells hX
    have c2 := h2.cell
    have c3 := h3.cell
    have c4 := h4.cell
    have f2 := h2.frozen
    have f3 := h3.frozen
    have f4 := h4.frozen
    have HX := Aside0.mk hX
    have HP := Aside0.mk hP
    clear hX hP
    have hWs : w.heap.size + 5 ≤ W.heap.size := h6.lt
    have hne1 : w.heap.size ≠ w.heap.size + 1 := by omega
    have hne2 : w.heap.size ≠ w.heap.size + 1 + 1 := by omega
    have hne3 : w.heap.size + 1 ≠ w.heap.size + 1 + 1 := by omega
    have hne4 : w.heap.size + 4 ≠ w.heap.size + 1 := by omega
    have hne5 : w.heap.size + 4 ≠ w.heap.size + 1 + 1 := by omega
    have hst : (∀ a ∈ pre ++ [x], tg a = hT (pre ++ [x])) → hT (pre ++ [x]) = tg x → KeepsFrom W0.heap.size W ((W.setCell ⟨w.heap.size + 1, 0, none⟩ (.int .i64 (tg x))).setCell ⟨w.heap.size + 1 + 1, 0, none⟩ (.bool true)) ∧ KpT w.heap.size W ((W.setCell ⟨w.heap.size + 1, 0, none⟩ (.int .i64 (tg x))).setCell ⟨w.heap.size + 1 + 1, 0, none⟩ (.bool true)) ∧ ((((Boxed ((W.setCell ⟨w.heap.size + 1, 0, none⟩ (.int .i64 (tg x))).setCell ⟨w.heap.size + 1 + 1, 0, none⟩ (.bool true)) w.heap.size 3 (.int .i64 0) ∧ Boxed ((W.setCell ⟨w.heap.size + 1, 0, none⟩ (.int .i64 (tg x))).setCell ⟨w.heap.size + 1 + 1, 0, none⟩ (.bool true)) (w.heap.size + 1) 3 (.int .i64 (hT (pre ++ [x])))) ∧ Boxed ((W.setCell ⟨w.heap.size + 1, 0, none⟩ (.int .i64 (tg x))).setCell ⟨w.heap.size + 1 + 1, 0, none⟩ (.bool true)) (w.heap.size + 2) 4 (.bool (!(pre ++ [x]).isEmpty))) ∧ Boxed ((W.setCell ⟨w.heap.size + 1, 0, none⟩ (.int .i64 (tg x))).setCell ⟨w.heap.size + 1 + 1, 0, none⟩ (.bool true)) (w.heap.size + 4) 64 (.func (.func 25) #[] #[])) ∧ (∀ a ∈ pre ++ [x], tg a = hT (pre ++ [x]))) ∧ Below w.heap.size w ((W.setCell ⟨w.heap.size + 1, 0, none⟩ (.int .i64 (tg x))).setCell ⟨w.heap.size + 1 + 1, 0, none⟩ (.bool true)) := by
      intro k1 k2
      refine ⟨((KeepsOthers.setCell _ _ _).trans (KeepsOthers.setCell _ _ _)).from _, KpT_t (KpT_s _ _ _ hWs (by omega) (by omega) (by omega)) (KpT_s _ _ _ (Nat.le_trans hWs (grownBy_setCell' _ _ _).size) (by omega) (by omega) (by omega)), ⟨⟨⟨⟨(h2.other hne1 _).other hne2 _, ?_⟩, ?_⟩, (h6.other hne4 _).other hne5 _⟩, k1⟩, (hB.setCell (p := ⟨w.heap.size + 1, 0, none⟩) (by simp) _).setCell (p := ⟨w.heap.size + 1 + 1, 0, none⟩) (by simp; omega) _⟩
      · rw [k2]; exact (h3.set _).other hne3 _
      · rw [show (!(pre ++ [x]).isEmpty) = true by cases pre <;> rfl]; exact (h4.other (by omega) _).set _
    cases pre with
    | nil =>
      simp only [List.isEmpty_nil, Bool.not_true] at c4
      gi_wp2
      exact hst (fun a ha => by rw [List.nil_append, List.mem_singleton] at ha; rw [ha]; rfl) rfl
    | cons y ys =>
      simp only [List.isEmpty_cons, Bool.not_false] at c4
      have hTc : hT (y :: ys ++ [x]) = hT (y :: ys) := rfl
      by_cases he : tg x = tg y
      · have he' : (x.2.2.2.2.1 != hT (y :: ys)) = false := by rw [bne_eq_false_iff_eq]; exact he
        gi_wp2
        exact hst (fun a ha => (List.mem_append.1 ha).elim (fun ha => HP.out a ha) (fun ha => by rw [List.mem_singleton.1 ha]; exact he)) he.symm
      · have he' : (x.2.2.2.2.1 != hT (y :: ys)) = true := by rw [bne_iff_ne]; exact he
        gi_wp2
        exact ⟨(KeepsOthers.setCell _ _ _).from _, ⟨⟨rfl, x, by simp, he⟩, h2.set _⟩, hB.setCell (p := ⟨w.heap.size, 0, none⟩) (Nat.le_refl _) _⟩
  case done =>
    rintro D ys W hD rfl ⟨⟨⟨⟨⟨h2, h3⟩, h4⟩, h6⟩, hP⟩, hB⟩ hK
    have c3 := h3.cell
    have f3 := h3.frozen
    have c2 := h2.cell
    have f2 := h2.frozen
    have HN := Aside0.mk (show tagR (xs.filter open_) = hT (xs.filter open_) from if_pos (List.all_eq_true.2 fun a ha => beq_iff_eq.2 (hP a ha)))
    clear hP
    gi_wp2
    have hK' := (KeepsOthers.setCell W ⟨w.heap.size, 0, none⟩ (.int .i64 (hT (xs.filter open_)))).same D _ hK rfl
    refine ⟨by simp, .inl ⟨_, _, rfl, run_takeDeferred hK', ?_⟩⟩
    have hc5 := cell_kept (World.cell?_setCell_same' W ⟨w.heap.size, 0, none⟩ (.int .i64 (hT (xs.filter open_))) (by rw [c2]; rfl)) (grownBy_putObj' _ D (.deferred none)) (fun r e => by cases e; exact ⟨_, hK', rfl⟩)
    refine ⟨.int .i64 (hT (xs.filter open_)), ?_, by rw [HN.out], (hB.setCell (p := ⟨w.heap.size, 0, none⟩) (Nat.le_refl _) _).trans (belowK_b (w := w) (Nat.le_refl _) _ D _ _ (by omega) hK' rfl rfl)⟩
    simp [results, Go.Proofs.Try.f14, go_sem, hc5]
  case stop =>
    rintro D c pre W hD ⟨k, rfl⟩ ⟨⟨⟨rfl, a, ha1, ha2⟩, h2⟩, hB⟩ hK
    have HN := Aside0.mk (tagR_bad xs k a ha1 ha2)
    clear ha1 ha2
    gi_wp2
    refine ⟨by simp, .inl ⟨_, _, rfl, run_takeDeferred hK, ?_⟩⟩
    have hc5 := cell_kept h2.cell (grownBy_putObj' _ D (.deferred none)) (fun r e => by cases e; exact ⟨_, hK, rfl⟩)
    refine ⟨.int .i64 (-1), ?_, by rw [HN.out], hB.trans (belowK_b (w := w) (Nat.le_refl _) W D _ _ (by omega) hK rfl rfl)⟩
    simp [results, Go.Proofs.Try.f14, go_sem, hc5]
abbrev ps : Sg := [(false, (.slice Td8a9))]
abbrev rs : Sg := [(false, (.int .i64))]
abbrev R := Tup rs
def f (k : Nat) (a1 : List Td8a9.T) : Option R := if a1.length * 56 ≤ 140737488355328 then some (tagR (a1.filter open_), ()) else none
noncomputable def S : Spec := ⟨ps, rs, .any, none, fun x r => ∃ k, f k x.1 = some r⟩
theorem rl {k a1 r} (e : f k a1 = some r) : S.rel (a1, ()) r := ⟨k, e⟩
theorem fits : Fits P 14 S := by
  refine ⟨fun args w => ?_, fun x r hrel F w args hF hargs => ?_⟩
  · exact enter_of (c := (Go.Proofs.Try.f14.body).getD .skip) Go.Proofs.Try.func14 (by kernel_rfl) (by decide) args w
  · obtain ⟨k, hk⟩ := hrel
    obtain ⟨a1, u⟩ := x
    dsimp only at hk
    unfold f at hk
    split at hk
    case isFalse => cases hk
    case isTrue hmx =>
      obtain rfl := Option.some.inj hk
      match hz : args.toList, hargs with
      | [v1], h =>
        have e : args = #[v1] := by rw [← Array.toArray_toList (xs := args), hz]
        subst e
        have h1 : RepD F w (.slice Td8a9) a1 [v1] := h.1.1
        obtain ⟨A, c, inner, e, _⟩ := h1
        obtain rfl : v1 = .slice A a1.length c := by simpa using e
        have hh := tag_in Fence.wide (fun _ => trivial) rfl 4 (Nat.le_refl _) A c a1 w (by omega) (fun W' hW' => (hops_of (h.1.1.step (F' := F) (fun _ h => h) (fun b hb => hW'.block b (hF.1 b hb)))).2)
        refine (callsIn_wide.1 hh).mono ?_
        rintro e w' ⟨rfl, hb⟩
        exact ⟨_, rfl, hb, F, fun _ h => h, fun _ h => .inl h, fun b h => Nat.lt_of_lt_of_le (hF.1 b h) hb.size, rfl⟩

end f_audit_Tag

namespace f_audit_Of
attribute [local go_sem] Oper.semAt_some
structure Aside0 (p : Prop) : Prop where mk :: (out : p)
def hA (x : Td8a9.T) : Array Value := #[.int .i64 x.1, .int .i64 x.2.1, .int .i64 x.2.2.1, .int .i64 x.2.2.2.1, .int .i64 x.2.2.2.2.1, .int .i64 x.2.2.2.2.2.1, .int .i64 x.2.2.2.2.2.2]
def hE (x : Td8a9.T) : Array Value := #[.agg (hA x)]
/-- hops that may be read, wherever the world goes on from here -/
def Hops (w : World) (A : Option Addr) (xs : List Td8a9.T) : Prop := ∀ (i : Nat) (x : Td8a9.T), xs[i]? = some x → ∃ ad, A = some ad ∧ w.cell? (ad.add (i * 7)) = some (.int .i64 x.1) ∧ w.cell? ⟨(ad.add (i * 7)).block, (ad.add (i * 7)).off + 1, none⟩ = some (.int .i64 x.2.1) ∧ w.cell? ⟨(ad.add (i * 7)).block, (ad.add (i * 7)).off + 2, none⟩ = some (.int .i64 x.2.2.1) ∧ w.cell? ⟨(ad.add (i * 7)).block, (ad.add (i * 7)).off + 3, none⟩ = some (.int .i64 x.2.2.2.1) ∧ w.cell? ⟨(ad.add (i * 7)).block, (ad.add (i * 7)).off + 4, none⟩ = some (.int .i64 x.2.2.2.2.1) ∧ w.cell? ⟨(ad.add (i * 7)).block, (ad.add (i * 7)).off + 5, none⟩ = some (.int .i64 x.2.2.2.2.2.1) ∧ w.cell? ⟨(ad.add (i * 7)).block, (ad.add (i * 7)).off + 6, none⟩ = some (.int .i64 x.2.2.2.2.2.2)
theorem hops_of {F : Nat → Prop} {w : World} {A : Option Addr} {n c : Nat} {xs : List Td8a9.T} (h : RepD F w (.slice Td8a9) xs [.slice A n c]) : n = xs.length ∧ Hops w A xs := by
  obtain ⟨A', c', inner, e, hc, hE, hr⟩ := h
  simp only [List.cons.injEq, Value.slice.injEq, and_true] at e
  obtain ⟨rfl, rfl, rfl⟩ := e
  refine ⟨rfl, fun i x hx => ?_⟩
  obtain ⟨cs, h1, h2⟩ := El.get (s := 7) (fun x c h => RepD.len h) hE hx
  obtain ⟨q1, r1, rfl, rfl, q2, r2, rfl, rfl, q3, r3, rfl, rfl, q4, r4, rfl, rfl, q5, r5, rfl, rfl, q6, r6, rfl, rfl, rfl⟩ := h1
  have h3 : ∀ j u, ([Value.int .i64 x.1] ++ ([Value.int .i64 x.2.1] ++ ([Value.int .i64 x.2.2.1] ++ ([Value.int .i64 x.2.2.2.1] ++ ([Value.int .i64 x.2.2.2.2.1] ++ ([Value.int .i64 x.2.2.2.2.2.1] ++ [Value.int .i64 x.2.2.2.2.2.2]))))))[j]? = some u → ∃ b o, A = some ⟨b, o, none⟩ ∧ w.cell? ⟨b, o + (i * 7 + j), none⟩ = some u := fun j u hu => by
    obtain ⟨b, o, k1, _, k3⟩ := hr _ _ (h2 j u hu)
    exact ⟨b, o, k1, k3⟩
  obtain ⟨b, o, rfl, k0⟩ := h3 0 _ rfl
  have g : ∀ j u, ([Value.int .i64 x.1] ++ ([Value.int .i64 x.2.1] ++ ([Value.int .i64 x.2.2.1] ++ ([Value.int .i64 x.2.2.2.1] ++ ([Value.int .i64 x.2.2.2.2.1] ++ ([Value.int .i64 x.2.2.2.2.2.1] ++ [Value.int .i64 x.2.2.2.2.2.2]))))))[j]? = some u → w.cell? ⟨b, o + i * 7 + j, none⟩ = some u := fun j u hu => by
    obtain ⟨b', o', e, k⟩ := h3 j u hu
    cases e
    rw [Nat.add_assoc]
    exact k
  refine ⟨⟨b, o, none⟩, rfl, ?_⟩
  rw [Addr.add_plain]
  exact ⟨g 0 _ rfl, g 1 _ rfl, g 2 _ rfl, g 3 _ rfl, g 4 _ rfl, g 5 _ rfl, g 6 _ rfl⟩
theorem cell_alloc {wr : World} {B : Nat} {v : Value} (h : wr.cell? ⟨B, 0, none⟩ = some v) (o : Obj) : (wr.alloc o).cell? ⟨B, 0, none⟩ = some v := by
  by_cases hB : B < wr.heap.size
  · exact (World.cell?_of_block (w := wr) (a := ⟨B, 0, none⟩) (heap_alloc_old wr o hB)).trans h
  · unfold World.cell? at h
    rw [Array.getElem?_eq_none (by dsimp only; omega)] at h
    cases h
theorem row_cells {W : World} {b t : Nat} {x : Td8a9.T} (h : W.heap[b]? = some (.cells (hA x) t (0, 0))) : W.cell? ⟨b, 0, none⟩ = some (.int .i64 x.1) ∧ W.cell? ⟨b, 1, none⟩ = some (.int .i64 x.2.1) ∧ W.cell? ⟨b, 2, none⟩ = some (.int .i64 x.2.2.1) ∧ W.cell? ⟨b, 3, none⟩ = some (.int .i64 x.2.2.2.1) ∧ W.cell? ⟨b, 4, none⟩ = some (.int .i64 x.2.2.2.2.1) ∧ W.cell? ⟨b, 5, none⟩ = some (.int .i64 x.2.2.2.2.2.1) ∧ W.cell? ⟨b, 6, none⟩ = some (.int .i64 x.2.2.2.2.2.2) := by
  refine ⟨?_, ?_, ?_, ?_, ?_, ?_, ?_⟩ <;> (rw [cell_of_row _ _ _ _ _ _ h]; rfl)
theorem abides_below {J : List Td8a9.T → World → Prop} {B : Nat} (hJ : AbidesFrom B J) {ys : List Td8a9.T} {W W' : World} (h : J ys W) (hb : Below W.heap.size W W') : J ys W' :=
  hJ _ _ _ none h ⟨hb.os, hb.tape, hb.output, hb.size, fun k hk _ => hb.block k hk⟩ (fun r e => by cases e)
theorem filter_take {p : Td8a9.T → Bool} {xs : List Td8a9.T} {k : Nat} {x : Td8a9.T} (h : xs[k]? = some x) : (xs.take (k + 1)).filter p = (xs.take k).filter p ++ (if p x = true then [x] else []) := by
  rw [List.take_add_one, h, List.filter_append]
  simp only [Option.toList, List.filter_cons, List.filter_nil]
theorem below_then {B : Nat} {w w1 w2 : World} (h : Below B w w1) (hB : B ≤ w1.heap.size) (k : Below w1.heap.size w1 w2) : Below B w w2 :=
  h.trans ⟨k.os, k.tape, k.output, k.size, fun i hi => k.block i (Nat.lt_of_lt_of_le hi hB)⟩
def cellsOf (l : List Td8a9.T) : List Value := l.flatMap fun x => (hA x).toList
theorem cellsOf_app (a b : List Td8a9.T) : cellsOf (a ++ b) = cellsOf a ++ cellsOf b := List.flatMap_append
theorem enter_of {P : Program} {f : Nat} {fn : Func} {c : Code} (hf : P.funcs[f]? = some fn) (hb : fn.body = some c) (hn : fn.name ≠ "runtime.NumGoroutine") (args : Array Value) (w : World) : (callFunc f args).run P w = .ok (.enter f args) w := by
  simp [callFunc, hf, hb, hn]
theorem infoHop : ∃ i, Go.Proofs.Try.prog.info? 41 = some i ∧ i.zero = some (.agg #[.int .i64 0, .int .i64 0, .int .i64 0, .int .i64 0, .int .i64 0, .int .i64 0, .int .i64 0]) ∧ i.size = 7 ∧ i.bytes = 56 := by
  have h : (Go.Proofs.Try.prog.info? 41).map (fun i => (i.zero, i.size, i.bytes)) = some (some (.agg #[.int .i64 0, .int .i64 0, .int .i64 0, .int .i64 0, .int .i64 0, .int .i64 0, .int .i64 0]), 7, 56) := by kernel_rfl
  cases hi : Go.Proofs.Try.prog.info? 41 with
  | none => rw [hi] at h; cases h
  | some i =>
    rw [hi] at h
    simp only [Option.map_some, Option.some.injEq, Prod.mk.injEq] at h
    exact ⟨i, rfl, h⟩
theorem cell_row_new (W : World) (c : Array Value) (t : Nat) : ∀ j u, c.toList[j]? = some u → (W.alloc (.cells c t)).cell? ((⟨W.heap.size, 0, none⟩ : Addr).add j) = some u := by
  intro j u h
  rw [Addr.add_plain, cell_of_row _ _ _ _ _ _ (heap_alloc_new W (.cells c t)), Nat.zero_add, ← Array.getElem?_toList]
  exact h
theorem hA_one (x : Td8a9.T) : ∀ u ∈ (hA x).toList, u.oneCell' = true := by
  intro u hu
  simp only [hA, List.mem_cons, List.not_mem_nil, or_false] at hu
  rcases hu with rfl | rfl | rfl | rfl | rfl | rfl | rfl <;> rfl
theorem row_base {w : World} {B B' e size n : Nat} {v : Value} {xs : List Value} (hb : B ≤ B') (h : w.ownsRow B' e size v n xs) : w.ownsRow B e size v n xs := by
  refine ⟨h.1, h.2.imp id ?_⟩
  rintro ⟨g, cap, cur, e, h1, h2⟩
  exact ⟨g, cap, cur, e, Nat.le_trans hb h1, h2⟩
theorem hA_rep (F : Nat → Prop) (w : World) (x : Td8a9.T) : RepD F w Td8a9 x (hA x).toList := ⟨_, _, rfl, rfl, _, _, rfl, rfl, _, _, rfl, rfl, _, _, rfl, rfl, _, _, rfl, rfl, _, _, rfl, rfl, rfl⟩
theorem cells_rep (F : Nat → Prop) (w : World) : ∀ l : List Td8a9.T, El (RepD F w Td8a9) l (cellsOf l)
  | [] => rfl
  | x :: r => ⟨_, _, rfl, hA_rep F w x, cells_rep F w r⟩
theorem row_rep {F : Nat → Prop} {w : World} {B : Nat} {v : Value} {l : List Td8a9.T} (h : w.ownsRow B 41 7 v l.length (cellsOf l)) : RepD (fun b => F b ∨ B ≤ b ∧ b < w.heap.size) w (.slice Td8a9) l [v] := by
  obtain ⟨hl, ⟨rfl, h0⟩ | ⟨g, cap, cur, rfl, hg, hc, h1, h2, h3, h4⟩⟩ := h
  · have : l = [] := List.length_eq_zero_iff.1 h0
    subst this
    exact ⟨none, 0, [], rfl, Nat.le_refl _, rfl, fun j u hu => by simp at hu⟩
  · refine ⟨_, _, cellsOf l, rfl, h1, cells_rep _ _ l, fun j u hu => ⟨g, 0, rfl, .inr ⟨hg, (Array.getElem?_eq_some_iff.1 hc).1⟩, ?_⟩⟩
    rw [cell_of_row _ _ _ _ _ _ hc, Nat.zero_add, ← Array.getElem?_toList]
    rw [← h4, List.getElem?_take] at hu
    split at hu
    · exact hu
    · cases hu
/-- what tells which hops are meant: a function value that answers p -/
def Tells (F : Fence) (q : Nat) (p : Td8a9.T → Bool) (W : World) : Prop := ∀ m x, CallsIn F m Go.Proofs.Try.prog 23 (hE x ++ #[.pointer (some ⟨q, 0, none⟩)]) W fun e w' => e = .returned (.bool (p x)) ∧ Below W.heap.size W w'
set_option maxRecDepth 100000 in
set_option maxHeartbeats 4000000 in
theorem those_in (F : Fence) (hF : ∀ f, F.fn f) (hro : F.round = none) (n : Nat) (A : Option Addr) (len cap : Nat) (q : Nat) (w : World) :
    CallsIn F n Go.Proofs.Try.prog 22 #[.slice A len cap, .func (.func 23) #[] #[.pointer (some ⟨q, 0, none⟩)]] w fun e w' => e = .returned (.func (.func 39) #[] #[.pointer (some ⟨w.heap.size, 0, none⟩), .pointer (some ⟨w.heap.size + 1, 0, none⟩)]) ∧ w' = (w.alloc (.cells #[.slice A len cap] 31)).alloc (.cells #[.func (.func 23) #[] #[.pointer (some ⟨q, 0, none⟩)]] 64) := by
  refine callsIn_of_wp Go.Proofs.Try.func22 rfl (hF _) ?_ hro
  simp only [Go.Proofs.Try.ntmps22, List.size_toArray, List.length_cons, List.length_nil, Nat.reduceAdd, Nat.reduceSub, Array.replicate_succ, Array.replicate_zero, List.push_toArray, List.append_toArray, List.nil_append, List.cons_append]
  gi_wp2
  go_ret
  exact ⟨rfl, rfl⟩
set_option maxRecDepth 100000 in
set_option maxHeartbeats 4000000 in
theorem those1_in (F : Fence) (hF : ∀ f, F.fn f) (hro : F.round = none) (n : Nat) (hn : 1 ≤ n) (l Bs Bf n₀ cap : Nat) (A : Option Addr) (xs : List Td8a9.T) (q : Nat) (p : Td8a9.T → Bool) (Kp : World → World → Prop) (hKr : ∀ A, Kp A A) (hKt : ∀ A B C, Kp A B → Kp B C → Kp A C) (hKs : ∀ A B, Kp A B → A.heap.size ≤ B.heap.size) (hKa : ∀ A B, n₀ ≤ A.heap.size → Below A.heap.size A B → Kp A B) (hmx : xs.length ≤ 9223372036854775807) (J Jx : List Td8a9.T → World → Prop) (W : World)
    (hJ : AbidesFrom W.heap.size J) (hn0 : n₀ ≤ W.heap.size)
    (hY : ∀ pre x W1, J pre W1 → pre.length < xs.length → YieldAt F (n - 1) Go.Proofs.Try.prog l (hE x) W1 fun e W' =>
      (e = .returned (.bool true) ∧ J (pre ++ [x]) W' ∧ Kp W1 W') ∨ (e = .returned (.bool false) ∧ Jx (pre ++ [x]) W'))
    (hBs : ∀ W', Kp W W' → W'.cell? ⟨Bs, 0, none⟩ = some (.slice A xs.length cap)) (hBf : ∀ W', Kp W W' → W'.cell? ⟨Bf, 0, none⟩ = some (.func (.func 23) #[] #[.pointer (some ⟨q, 0, none⟩)])) (hC : ∀ W', Kp W W' → Hops W' A xs) (hT : ∀ W', Kp W W' → Tells F q p W') (h0 : J [] W) :
    CallsIn F n Go.Proofs.Try.prog 39 #[.func (.yield l) #[] #[], .pointer (some ⟨Bs, 0, none⟩), .pointer (some ⟨Bf, 0, none⟩)] W fun e W' => (∃ v, e = .returned v) ∧
      ((∃ ys, ys = xs.filter p ∧ J ys W') ∨ (∃ pre, (∃ k, pre = (xs.take k).filter p) ∧ Jx pre W')) := by
  have hBs0 := hBs W (hKr W)
  have HC := Aside0.mk hC
  have HBS := Aside0.mk hBs
  have HBF := Aside0.mk hBf
  have HKT := Aside0.mk hKt
  have HKA := Aside0.mk hKa
  have HT := Aside0.mk hT
  have HBR := Aside0.mk (hKr W)
  have HKS := Aside0.mk hKs
  clear hC hT hBs hBf hKt hKa hKr hKs
  refine callsIn_of_wp Go.Proofs.Try.func39 rfl (hF _) ?_ hro
  simp only [Go.Proofs.Try.ntmps39, List.size_toArray, List.length_cons, List.length_nil, Nat.reduceAdd, Nat.reduceSub, Array.replicate_succ, Array.replicate_zero, List.push_toArray, List.append_toArray, List.nil_append, List.cons_append]
  gi_wp2
  gi_loopw [8] (fun i wr => ∃ k : Nat, k ≤ xs.length ∧ i = .int .i64 (k : Int) ∧ Aside0 (J ((xs.take k).filter p) wr) ∧ Aside0 (Kp W wr))
    (fun i _ => ((xs.length : Int) - intOf i).toNat)
  case atStart => exact ⟨0, Nat.zero_le _, rfl, ⟨h0⟩, HBR⟩
  case round =>
    obtain ⟨k, hk, rfl, HJ, HB⟩ := hrel
    have hbx : wr.cell? ⟨Bs, 0, none⟩ = some (.slice A xs.length cap) := HBS.out wr HB.out
    have hbg : wr.cell? ⟨Bf, 0, none⟩ = some (.func (.func 23) #[] #[.pointer (some ⟨q, 0, none⟩)]) := HBF.out wr HB.out
    clear hBs0 h0
    by_cases hlt : k < xs.length
    · obtain ⟨x, HX⟩ : ∃ x, Aside0 (xs[k]? = some x) := ⟨_, ⟨List.getElem?_eq_getElem hlt⟩⟩
      obtain ⟨ad, e, c0, c1, c2, c3, c4, c5, c6⟩ := HC.out wr HB.out k x HX.out
      subst e
      have HW := Aside0.mk (show n₀ ≤ wr.heap.size from Nat.le_trans hn0 (HKS.out _ _ HB.out))
      have HJ1 := Aside0.mk (hJ _ _ _ none HJ.out (World.grownBy_alloc wr (.cells (hA x) 41) none) (fun r e => by cases e))
      have HB1 := Aside0.mk (HKT.out _ _ _ HB.out (HKA.out _ _ HW.out ((Below.refl _ wr).alloc (Nat.le_refl _) (.cells (hA x) 41))))
      have HT1 := Aside0.mk (HT.out _ HB1.out (n - 1) x)
      have hw : IntKind.i64.wrap ((k : Int) + 1) = ((k + 1 : Nat) : Int) := by rw [IntKind.wrap_i64]; omega
      have hbg1 : (wr.alloc (.cells (hA x) 41)).cell? ⟨Bf, 0, none⟩ = some (.func (.func 23) #[] #[.pointer (some ⟨q, 0, none⟩)]) := cell_alloc hbg _
      have HR1 := Aside0.mk (heap_alloc_new wr (.cells (hA x) 41))
      obtain ⟨d0, d1, d2, d3, d4, d5, d6⟩ := row_cells HR1.out
      simp only [hA] at hbg1 d0 d1 d2 d3 d4 d5 d6
      simp only [hA, hE] at HT1
      have HFT := Aside0.mk (filter_take (p := p) HX.out)
      have HJA := Aside0.mk hJ
      have HY := Aside0.mk hY
      have HLT := Aside0.mk (show ((xs.take k).filter p).length < xs.length from Nat.lt_of_le_of_lt (List.length_filter_le _ _) (by rw [List.length_take]; omega))
      clear hJ hY
      have hfg : F.fn 23 := hF _
      cases hp : p x
      · rw [hp] at HT1 HFT
        rw [if_neg Bool.false_ne_true, List.append_nil] at HFT
        gi_wp2_with (gi_at_call 23; refine HT1.out.mono ?_; rintro e w5 ⟨rfl, hB5⟩; have HB5 := Aside0.mk hB5; clear hB5)
        go_roundw
        case rel => exact ⟨k + 1, by omega, congrArg (Value.int .i64) (by omega), ⟨HFT.out ▸ abides_below HJA.out HJ1.out HB5.out⟩, ⟨HKT.out _ _ _ HB1.out (HKA.out _ _ (Nat.le_trans HW.out (by simp)) HB5.out)⟩⟩
        case measure => simp [intOf]; omega
      · rw [hp] at HT1 HFT
        rw [if_pos rfl] at HFT
        gi_wp2_with (gi_at_call 23; refine HT1.out.mono ?_; rintro e w5 ⟨rfl, hB5⟩; have HB5 := Aside0.mk hB5; clear hB5; clear d0 d1 d2 d3 d4 d5 d6; obtain ⟨d0, d1, d2, d3, d4, d5, d6⟩ := row_cells ((HB5.out.block wr.heap.size (by simp)).trans HR1.out); obtain ⟨fn, tmps, assign, body, hy, hR⟩ := HY.out _ x w5 (abides_below HJA.out HJ1.out HB5.out) HLT.out; simp only [hE, hA] at hy)
        refine hR.mono ?_
        rintro e W3 (⟨rfl, hJ3, hk3⟩ | ⟨rfl, hJx3⟩)
        · rw [← HFT.out] at hJ3
          have HJ3 := Aside0.mk hJ3
          have HK3 := Aside0.mk hk3
          clear hJ3 hk3
          gi_wp2
          go_roundw
          case rel => exact ⟨k + 1, by omega, congrArg (Value.int .i64) (by omega), HJ3, ⟨HKT.out _ _ _ (HKT.out _ _ _ HB1.out (HKA.out _ _ (Nat.le_trans HW.out (by simp)) HB5.out)) HK3.out⟩⟩
          case measure => simp [intOf]; omega
        · rw [← HFT.out] at hJx3
          gi_wp2
          refine bodyPost_ret (results_none rfl _ _ _) rfl ?_
          exact ⟨⟨_, rfl⟩, .inr ⟨_, ⟨k + 1, rfl⟩, hJx3⟩⟩
    · obtain rfl : k = xs.length := by omega
      gi_wp2
      go_end0
      exact ⟨⟨_, rfl⟩, .inl ⟨_, rfl, by rw [List.take_length] at HJ; exact HJ.out⟩⟩
theorem those_stops (F : Fence) (hF : ∀ f, F.fn f) (hro : F.round = none) (n : Nat) (hn : 1 ≤ n) (Bs Bf n₀ cap : Nat) (A : Option Addr) (xs : List Td8a9.T) (q : Nat) (p : Td8a9.T → Bool) (w : World) (hn0 : n₀ ≤ w.heap.size) (Kp : World → World → Prop) (hKr : ∀ A, Kp A A) (hKt : ∀ A B C, Kp A B → Kp B C → Kp A C) (hKs : ∀ A B, Kp A B → A.heap.size ≤ B.heap.size) (hKa : ∀ A B, n₀ ≤ A.heap.size → Below A.heap.size A B → Kp A B) (hmx : xs.length ≤ 9223372036854775807)
    (hBs : ∀ W', Kp w W' → W'.cell? ⟨Bs, 0, none⟩ = some (.slice A xs.length cap)) (hBf : ∀ W', Kp w W' → W'.cell? ⟨Bf, 0, none⟩ = some (.func (.func 23) #[] #[.pointer (some ⟨q, 0, none⟩)])) (hC : ∀ W', Kp w W' → Hops W' A xs) (hT : ∀ W', Kp w W' → Tells F q p W') :
    SeqStopsK F n Go.Proofs.Try.prog 39 #[.pointer (some ⟨Bs, 0, none⟩), .pointer (some ⟨Bf, 0, none⟩)] hE Kp (fun ys => ys = xs.filter p) (fun pre => ∃ k, pre = (xs.take k).filter p) xs.length w := fun l J Jx W hW hJ _ hY h0 =>
  have hK := hKa w W hn0 hW
  those1_in F hF hro n hn l Bs Bf n₀ cap A xs q p Kp hKr hKt hKs hKa hmx J Jx W hJ (Nat.le_trans hn0 hW.size) hY (fun W' h => hBs W' (hKt _ _ _ hK h)) (fun W' h => hBf W' (hKt _ _ _ hK h)) (fun W' h => hC W' (hKt _ _ _ hK h)) (fun W' h => hT W' (hKt _ _ _ hK h)) h0
set_option maxRecDepth 100000 in
set_option maxHeartbeats 4000000 in
theorem of1_in (F : Fence) (hF : ∀ f, F.fn f) (hro : F.round = none) (q : Nat) (id : Int) (W : World) (hq : W.cell? ⟨q, 0, none⟩ = some (.int .i64 id)) : Tells F q (fun x => x.2.1 == id) W := by
  intro m x
  obtain ⟨x0, x1, x2, x3, x4, x5, x6⟩ := x
  have hq1 := cell_alloc hq (.cells #[.int .i64 x0, .int .i64 x1, .int .i64 x2, .int .i64 x3, .int .i64 x4, .int .i64 x5, .int .i64 x6] 41)
  refine callsIn_of_wp Go.Proofs.Try.func23 rfl (hF _) ?_ hro
  simp only [hE, hA, Go.Proofs.Try.ntmps23, List.size_toArray, List.length_cons, List.length_nil, Nat.reduceAdd, Nat.reduceSub, Array.replicate_succ, Array.replicate_zero, List.push_toArray, List.append_toArray, List.nil_append, List.cons_append]
  gi_wp2
  go_ret
  exact ⟨rfl, (Below.refl _ _).alloc (Nat.le_refl _) _⟩
set_option maxRecDepth 100000 in
set_option maxHeartbeats 4000000 in
theorem append_in (F : Fence) (hF : ∀ f, F.fn f) (hro : F.round = none) (n : Nat) (hn : 4 ≤ n) (Bs Bf cap : Nat) (A : Option Addr) (xs : List Td8a9.T) (q : Nat) (p : Td8a9.T → Bool) (w : World) (hmx : xs.length * 56 ≤ 140737488355328) (hbs : Bs < w.heap.size) (hbf : Bf < w.heap.size)
    (hBs : w.cell? ⟨Bs, 0, none⟩ = some (.slice A xs.length cap)) (hBf : w.cell? ⟨Bf, 0, none⟩ = some (.func (.func 23) #[] #[.pointer (some ⟨q, 0, none⟩)])) (hC : ∀ W', Below w.heap.size w W' → Hops W' A xs) (hT : ∀ W', Below w.heap.size w W' → Tells F q p W') :
    CallsIn F n Go.Proofs.Try.prog 38 #[.slice none 0 0, .func (.func 39) #[] #[.pointer (some ⟨Bs, 0, none⟩), .pointer (some ⟨Bf, 0, none⟩)]] w fun e w' => ∃ v, e = .returned v ∧ w'.ownsRow w.heap.size 41 7 v (xs.filter p).length (cellsOf (xs.filter p)) ∧ Below w.heap.size w w' := by
  have h1 : 1 ≤ n := by omega
  refine callsIn_of_wp_marks Go.Proofs.Try.func38 rfl (hF _) ?_ hro
  simp only [Go.Proofs.Try.ntmps38, List.size_toArray, List.length_cons, List.length_nil, Nat.reduceAdd, Nat.reduceSub, Array.replicate_succ, Array.replicate_zero, List.push_toArray, List.append_toArray, List.nil_append, List.cons_append]
  gi_wp2
  obtain ⟨i0, hi, hz0, hz1, hz2⟩ := infoHop
  obtain ⟨W0, hW0⟩ : ∃ W0, w.alloc (.cells #[.slice none 0 0] 31) = W0 := ⟨_, rfl⟩
  have bO : Boxed W0 w.heap.size 31 (.slice none 0 0) := hW0 ▸ Boxed.new w _ _
  have z0 : W0.heap.size = w.heap.size + 1 := by rw [← hW0]; simp
  have B0 : Below w.heap.size w W0 := hW0 ▸ (Below.refl _ w).alloc (Nat.le_refl _) _
  rw [hW0]
  clear hW0
  refine wpIn_rangeFunc_ownH hro h1 (gf := 39) (lb := #[.pointer (some ⟨Bs, 0, none⟩), .pointer (some ⟨Bf, 0, none⟩)]) rfl (hF _) (fun args w => enter_of (c := (Go.Proofs.Try.f39.body).getD .skip) Go.Proofs.Try.func39 (by kernel_rfl) (by decide) args w)
    (those_stops F hF hro (n - 1) (by omega) Bs Bf w.heap.size cap A xs q p W0 (by omega) (Below w.heap.size) (fun _ => Below.refl _ _) (fun _ _ _ h k => h.trans k) (fun _ _ h => h.size) (fun A B h k => ⟨k.os, k.tape, k.output, k.size, fun i hi => k.block i (by omega)⟩) (by omega) (fun W' h => ((B0.trans h).cell (p := ⟨Bs, 0, none⟩) hbs).trans hBs) (fun W' h => ((B0.trans h).cell (p := ⟨Bf, 0, none⟩) hbf).trans hBf) (fun W' h => hC W' (B0.trans h)) (fun W' h => hT W' (B0.trans h))) belowK_t (belowK_b (by omega)) (Below.refl _ _) (fun _ => rfl)
    (fun pre W => (∃ v, Boxed W w.heap.size 31 v ∧ W.ownsRow w.heap.size 41 7 v pre.length (cellsOf pre) ∧ True) ∧ Below w.heap.size w W)
    (fun _ _ _ => False)
    (OwnFrom.and (Own.from (holdsRow_own w.heap.size w.heap.size 31 41 7 (fun pre => pre.length) cellsOf (fun _ _ => True)) _) (ownFrom_below (Nat.le_refl _) (by omega)))
    (fun _ _ _ _ _ hs _ _ => hs)
    ⟨⟨_, bO, World.ownsRow_nil _ _ _ _, trivial⟩, B0⟩
    (fun x a' W => ∃ Bx, w.heap.size < Bx ∧ W.heap[Bx]? = some (.cells (hA x) 41 (0, 0)) ∧ a' = { tmps := #[.slice none 0 0, .func (.func 39) #[] #[.pointer (some ⟨Bs, 0, none⟩), .pointer (some ⟨Bf, 0, none⟩)], .pointer (some ⟨w.heap.size, 0, none⟩), undef, .slice none 0 0, .pointer (some ⟨Bx, 0, none⟩), .func (.func 39) #[] #[.pointer (some ⟨Bs, 0, none⟩), .pointer (some ⟨Bf, 0, none⟩)], .agg (hA x), undef, undef, undef, undef, undef], defers := [] })
    ?hAx ?assign ?body ?done ?stop
  case hAx =>
    rintro x a' s W W' row ⟨Bx, hB1, hB2, rfl⟩ hg hr
    refine ⟨Bx, hB1, ?_, rfl⟩
    rw [hg.block Bx (Array.getElem?_eq_some_iff.1 hB2).1 (fun e => ?_)]
    · exact hB2
    · obtain ⟨_, o, ho, hc⟩ := hr Bx e.symm
      rw [hB2] at ho
      cases ho
      cases hc
  case assign =>
    rintro l pre x W K ⟨⟨v, hv, hrow, _⟩, hB⟩ hK
    have hWs : w.heap.size < W.heap.size := hv.lt
    simp only [hE, hA]
    gi_wp2
    exact hK _ _ ((KeepsOthers.alloc _ _).from _) ((Below.refl _ W).alloc hB.size _) ⟨⟨_, hv.alloc _, hrow.alloc _, trivial⟩, hB.alloc hB.size _⟩ ⟨W.heap.size, hWs, heap_alloc_new _ _, rfl⟩
  case body =>
    rintro l pre x a' W hl ⟨r, hr⟩ ⟨⟨v, hv, hrow, _⟩, hB⟩ ⟨Bx, hBx, hX, rfl⟩ hlt
    obtain ⟨d0, d1, d2, d3, d4, d5, d6⟩ := row_cells hX
    have hc := hv.cell
    have hA1 := Aside0.mk (fun j u h => cell_row_new W (hA x) 41 j u h)
    have hO1 := Aside0.mk (hA_one x)
    simp only [hA] at hA1 hO1
    gi_wp2_with (gi_at_builtin; refine wpListIn_append_own _ rfl _ _ 31 rfl w.heap.size 41 i0 _ 7 56 Go.Proofs.Try.underlying31 hi hz0 hz1 hz2 rfl (by decide) _ _ _ rfl (hrow.alloc _) ⟨W.heap.size, 0, none⟩ 1 1 (hA x).toList rfl rfl hA1.out hO1.out (by have : maxLen = 9223372036854775807 := rfl; omega) (by omega) (by have := hB.size; simp; omega) ?_; intro v' w1 hown' hgrow _; obtain ⟨g', cap', rfl⟩ := ownsRow_succ hown'; obtain ⟨hv1, hv2, hr2, hk2, hb2⟩ := hv.appended (by decide) hrow hB.size (Nat.le_refl _) hown' hgrow; have hc1 := hv1.cell; have hf1 := hv1.frozen)
    exact ⟨hk2.from _, hb2, ⟨_, hv2, by rw [cellsOf_app, List.length_append]; exact hr2, trivial⟩, hB.trans hb2⟩
  case done =>
    rintro D ys W hD rfl ⟨⟨v, hv, hrow, _⟩, hB⟩ hK
    have hc := hv.cell
    gi_wp2
    refine ⟨by simp, .inl ⟨_, _, rfl, run_takeDeferred hK, ?_⟩⟩
    exact ⟨_, results_tmp rfl _ _ _, v, rfl, ownsRow_putObj hrow _ hK rfl, hB.trans (belowK_b (w := w) (Nat.le_refl _) W D _ _ (by omega) hK rfl rfl)⟩
  case stop =>
    rintro D c pre W _ _ h _
    exact h.elim
set_option maxRecDepth 100000 in
set_option maxHeartbeats 4000000 in
theorem collect_in (F : Fence) (hF : ∀ f, F.fn f) (hro : F.round = none) (n : Nat) (hn : 5 ≤ n) (Bs Bf cap : Nat) (A : Option Addr) (xs : List Td8a9.T) (q : Nat) (p : Td8a9.T → Bool) (w : World) (hmx : xs.length * 56 ≤ 140737488355328) (hbs : Bs < w.heap.size) (hbf : Bf < w.heap.size)
    (hBs : w.cell? ⟨Bs, 0, none⟩ = some (.slice A xs.length cap)) (hBf : w.cell? ⟨Bf, 0, none⟩ = some (.func (.func 23) #[] #[.pointer (some ⟨q, 0, none⟩)])) (hC : ∀ W', Below w.heap.size w W' → Hops W' A xs) (hT : ∀ W', Below w.heap.size w W' → Tells F q p W') :
    CallsIn F n Go.Proofs.Try.prog 21 #[.func (.func 39) #[] #[.pointer (some ⟨Bs, 0, none⟩), .pointer (some ⟨Bf, 0, none⟩)]] w fun e w' => ∃ v, e = .returned v ∧ w'.ownsRow w.heap.size 41 7 v (xs.filter p).length (cellsOf (xs.filter p)) ∧ Below w.heap.size w w' := by
  have h1 : 1 ≤ n := by omega
  have hfa : F.fn 38 := hF _
  have HC := Aside0.mk (append_in F hF hro (n - 1) (by omega) Bs Bf cap A xs q p w hmx hbs hbf hBs hBf hC hT)
  clear hC hT hBs hBf
  refine callsIn_of_wp Go.Proofs.Try.func21 rfl (hF _) ?_ hro
  simp only [Go.Proofs.Try.ntmps21, List.size_toArray, List.length_cons, List.length_nil, Nat.reduceAdd, Nat.reduceSub, Array.replicate_succ, Array.replicate_zero, List.push_toArray, List.append_toArray, List.nil_append, List.cons_append]
  gi_wp2_with (gi_at_call 38; refine HC.out.mono ?_; rintro e w' ⟨v, rfl, hr, hb⟩; have HR := Aside0.mk hr; have HB := Aside0.mk hb; clear hr hb)
  go_ret
  exact ⟨_, rfl, HR.out, HB.out⟩
set_option maxRecDepth 100000 in
set_option maxHeartbeats 4000000 in
theorem of_in (F : Fence) (hF : ∀ f, F.fn f) (hro : F.round = none) (n : Nat) (hn : 6 ≤ n) (cap : Nat) (A : Option Addr) (xs : List Td8a9.T) (id : Int) (w : World) (hmx : xs.length * 56 ≤ 140737488355328) (hC : ∀ W', Below w.heap.size w W' → Hops W' A xs) :
    CallsIn F n Go.Proofs.Try.prog 11 #[.slice A xs.length cap, .int .i64 id] w fun e w' => ∃ v, e = .returned v ∧ w'.ownsRow w.heap.size 41 7 v (xs.filter (fun x => x.2.1 == id)).length (cellsOf (xs.filter (fun x => x.2.1 == id))) ∧ Below w.heap.size w w' := by
  have h1 : 1 ≤ n := by omega
  have hfa : F.fn 22 := hF _
  have hfb : F.fn 21 := hF _
  obtain ⟨W1, hW1⟩ : ∃ W1, w.alloc (.cells #[.int .i64 id] 3) = W1 := ⟨_, rfl⟩
  have b1 : Boxed W1 w.heap.size 3 (.int .i64 id) := hW1 ▸ Boxed.new w _ _
  have z1 : W1.heap.size = w.heap.size + 1 := by rw [← hW1]; simp
  have B1 : Below w.heap.size w W1 := hW1 ▸ (Below.refl _ w).alloc (Nat.le_refl _) _
  obtain ⟨W2, hW2⟩ : ∃ W2, W1.alloc (.cells #[.slice A xs.length cap] 31) = W2 := ⟨_, rfl⟩
  have b2 : Boxed W2 (w.heap.size + 1) 31 (.slice A xs.length cap) := by rw [← hW2, ← z1]; exact Boxed.new W1 _ _
  have z2 : W2.heap.size = w.heap.size + 2 := by rw [← hW2]; simp [z1]
  have B2 : Below w.heap.size w W2 := hW2 ▸ B1.alloc (by omega) _
  have b1 : Boxed W2 w.heap.size 3 (.int .i64 id) := hW2 ▸ b1.alloc _
  obtain ⟨W3, hW3⟩ : ∃ W3, W2.alloc (.cells #[.func (.func 23) #[] #[.pointer (some ⟨w.heap.size, 0, none⟩)]] 64) = W3 := ⟨_, rfl⟩
  have b3 : Boxed W3 (w.heap.size + 2) 64 (.func (.func 23) #[] #[.pointer (some ⟨w.heap.size, 0, none⟩)]) := by rw [← hW3, ← z2]; exact Boxed.new W2 _ _
  have z3 : W3.heap.size = w.heap.size + 3 := by rw [← hW3]; simp [z2]
  have B3 : Below w.heap.size w W3 := hW3 ▸ B2.alloc (by omega) _
  have b1 : Boxed W3 w.heap.size 3 (.int .i64 id) := hW3 ▸ b1.alloc _
  have b2 : Boxed W3 (w.heap.size + 1) 31 (.slice A xs.length cap) := hW3 ▸ b2.alloc _
  have HCO := Aside0.mk (collect_in F hF hro (n - 1) (by omega) (w.heap.size + 1) (w.heap.size + 2) cap A xs w.heap.size (fun x => x.2.1 == id) W3 hmx (by omega) (by omega) b2.cell b3.cell (fun W' h => hC W' (B3.trans (h.mono (by omega)))) (fun W' h => of1_in F hF hro w.heap.size id W' ((h.cell (p := ⟨w.heap.size, 0, none⟩) (by simp; omega)).trans b1.cell)))
  have HB3 := Aside0.mk B3
  have HZ := Aside0.mk z3
  have HW1 := Aside0.mk hW1
  have HW2 := Aside0.mk hW2
  have HW3 := Aside0.mk hW3
  clear hC b1 b2 b3 B1 B2 B3 z1 z2 z3 hW1 hW2 hW3
  refine callsIn_of_wp Go.Proofs.Try.func11 rfl (hF _) ?_ hro
  simp only [Go.Proofs.Try.ntmps11, List.size_toArray, List.length_cons, List.length_nil, Nat.reduceAdd, Nat.reduceSub, Array.replicate_succ, Array.replicate_zero, List.push_toArray, List.append_toArray, List.nil_append, List.cons_append]
  gi_wp2_with (first | (gi_at_call 22; refine (those_in F hF hro (n - 1) A xs.length cap w.heap.size _).mono ?_; rintro e w' ⟨rfl, rfl⟩) | (gi_at_call 21; rw [HW1.out, HW2.out, HW3.out]; refine HCO.out.mono ?_; rintro e w' ⟨v, rfl, hr, hb⟩; have HR := Aside0.mk hr; have HB := Aside0.mk hb; clear hr hb))
  go_ret
  exact ⟨_, rfl, row_base (by have := HZ.out; omega) HR.out, HB3.out.trans (HB.out.mono (by have := HZ.out; omega))⟩
abbrev ps : Sg := [(false, (.slice Td8a9)), (false, (.int .i64))]
abbrev rs : Sg := [(false, (.slice Td8a9))]
abbrev R := Tup rs
def f (k : Nat) (a1 : List Td8a9.T) (a2 : Int) : Option R := if a1.length * 56 ≤ 140737488355328 then some (a1.filter (fun x => x.2.1 == a2), ()) else none
noncomputable def S : Spec := ⟨ps, rs, .any, none, fun x r => ∃ k, f k x.1 x.2.1 = some r⟩
theorem rl {k a1 a2 r} (e : f k a1 a2 = some r) : S.rel (a1, a2, ()) r := ⟨k, e⟩
theorem fits : Fits P 11 S := by
  refine ⟨fun args w => ?_, fun x r hrel F w args hF hargs => ?_⟩
  · exact enter_of (c := (Go.Proofs.Try.f11.body).getD .skip) Go.Proofs.Try.func11 (by kernel_rfl) (by decide) args w
  · obtain ⟨k, hk⟩ := hrel
    obtain ⟨a1, a2, u⟩ := x
    dsimp only at hk
    unfold f at hk
    split at hk
    case isFalse => cases hk
    case isTrue hmx =>
      obtain rfl := Option.some.inj hk
      match hz : args.toList, hargs with
      | [v1, v2], h =>
        have e : args = #[v1, v2] := by rw [← Array.toArray_toList (xs := args), hz]
        subst e
        have h1 : RepD F w (.slice Td8a9) a1 [v1] := h.1.1
        obtain rfl : v2 = .int .i64 a2 := h.2.1
        obtain ⟨A, c, inner, e, _⟩ := h1
        obtain rfl : v1 = .slice A a1.length c := by simpa using e
        have hh := of_in Fence.wide (fun _ => trivial) rfl 6 (Nat.le_refl _) c A a1 a2 w hmx (fun W' hW' => (hops_of (h.1.1.step (F' := F) (fun _ h => h) (fun b hb => hW'.block b (hF.1 b hb)))).2)
        refine (callsIn_wide.1 hh).mono ?_
        rintro e w' ⟨v, rfl, hr, hb⟩
        refine ⟨v, rfl, hb, fun b => F b ∨ w.heap.size ≤ b ∧ b < w'.heap.size, fun _ h => .inl h, fun _ h => h.imp id And.left, fun b h => h.elim (fun h => Nat.lt_of_lt_of_le (hF.1 b h) hb.size) And.right, ?_⟩
        exact ⟨row_rep hr, trivial⟩

end f_audit_Of
/-! ### function 48, wayfinder/topo.joined, where it is called -/
namespace h_topo_joined
noncomputable def c0 : Code := (Go.Proofs.Try.f48.body).getD .skip
noncomputable def V : Env := { tt := tt, Γ := slk [(66, f_topo_both.S)] }
theorem V_ok : EnvOk P V := { ck := tt_ck, fits := slk_cons f_topo_both.fits (slk_nil), mixed := mixed }
abbrev R := (List (T713d.T × T713d.T)) × Unit
noncomputable def s0 (p1 : T5477.T) : St := ⟨49, [(0, .cv (.agg (encC .any T5477 p1)))], []⟩
noncomputable def out (r : R) : St := ⟨49, [(2, .cv (.one (.mp 0)))], [(.dm true T713d T713d r.1, [])]⟩
abbrev Q (r : R) := CallQ 0 (out r)
noncomputable def s1 (p1 : List Td285.T) (p2 p3 : Int) (p4 : List (T713d.T × T713d.T)) : St := ⟨49, [(3, .cv (.one (.mp 0))), (14, .cv (.one (.sl Td285 p1 .any))), (15, .cv (.one (.i p2))), (16, .cv (.one (.i p3)))], [(.dm true T713d T713d p4, [])]⟩
noncomputable def s3 (p1 : List Td285.T) (p2 p3 : Int) (p4 : List (T713d.T × T713d.T)) (p5 p6 : T713d.T) : St := ⟨49, [(3, .cv (.one (.mp 0))), (6, .cv (.one (.ptr 1 0))), (7, .cv (.one (.ptr 2 0))), (14, .cv (.one (.sl Td285 p1 .any))), (15, .cv (.one (.i p2))), (16, .cv (.one (.i p3)))], [(.dm true T713d T713d p4, []), (.box 2, [.i p5.1, .i p5.2]), (.box 2, [.i p6.1, .i p6.2])]⟩
noncomputable def s2 (p1 : List Td285.T) (p2 p3 : Int) (p4 : List (T713d.T × T713d.T)) : St := ⟨49, [(3, .cv (.one (.mp 0))), (14, .cv (.one (.sl Td285 p1 .any))), (15, .cv (.one (.i p2))), (16, .cv (.one (.i p3)))], [(.dm true T713d T713d p4, [])]⟩
noncomputable def j2 (L1 : List Td285.T → Int → Int → List (T713d.T × T713d.T) → Option R) (k : Nat) (p1 : List Td285.T) (p2 p3 : Int) (p4 : List (T713d.T × T713d.T)) : Option R :=
  L1 p1 p2 (IntKind.i64.wrap (p3 + 1)) p4
theorem j2_ok {r} {L1 : List Td285.T → Int → Int → List (T713d.T × T713d.T) → Option R} {m1 : Nat} (hL1 : ∀ p1 p2 p3 p4, L1 p1 p2 p3 p4 = some r → Gw P 0 (Q r) (Pb c0 43 [] m1) (s1 p1 p2 p3 p4)) {k p1 p2 p3 p4} (H : j2 L1 k p1 p2 p3 p4 = some r) : Gw P 0 (Q r) (Px c0 971 [m1]) (s2 p1 p2 p3 p4) := by
  unfold j2 at H
  refine Rg V_ok 0 [] az ?_
  exact Jm (tn [3, 14, 15, 16] 1) (hL1 p1 p2 (IntKind.i64.wrap (p3 + 1)) p4 H)
noncomputable def j3 (L1 : List Td285.T → Int → Int → List (T713d.T × T713d.T) → Option R) (k : Nat) (p1 : List Td285.T) (p2 p3 : Int) (p4 : List (T713d.T × T713d.T)) (p5 p6 : T713d.T) : Option R :=
  if (!(dmHas (V := T713d) T713d p4 p6)) = true then
  j2 L1 k p1 p2 p3 (dmPut (V := T713d) T713d p4 p6 p5)
else
  j2 L1 k p1 p2 p3 p4
theorem j3_ok {r} {L1 : List Td285.T → Int → Int → List (T713d.T × T713d.T) → Option R} {m1 : Nat} (hL1 : ∀ p1 p2 p3 p4, L1 p1 p2 p3 p4 = some r → Gw P 0 (Q r) (Pb c0 43 [] m1) (s1 p1 p2 p3 p4)) {k p1 p2 p3 p4 p5 p6} (H : j3 L1 k p1 p2 p3 p4 p5 p6 = some r) : Gw P 0 (Q r) (Px c0 15563 [m1]) (s3 p1 p2 p3 p4 p5 p6) := by
  unfold j3 at H
  refine Rg V_ok 1 [(6, hb 3)] az ?_
  refine Rg V_ok 0 [] az ?_
  rcases of_ite H with ⟨hb7, H⟩ | ⟨hb7, H⟩
  · refine C1 hb7 ?_
    refine Rg V_ok 0 [] az ?_
    exact Jm (tn [3, 14, 15, 16] 1) (j2_ok hL1 H)
  · refine C0 hb7 ?_
    exact Jm (tn [3, 14, 15, 16] 1) (j2_ok hL1 H)
noncomputable def b1 (L1 : List Td285.T → Int → Int → List (T713d.T × T713d.T) → Option R) (k : Nat) (p1 : List Td285.T) (p2 p3 : Int) (p4 : List (T713d.T × T713d.T)) : Option R :=
  if (decide (p3 < p2)) = true then
  if 0 ≤ p3 then
    if p3 < (p1.length : Int) then
      (f_topo_both.f k (att Td285 p1 p3)).bind fun y4 =>
        if (!(dmHas (V := T713d) T713d p4 y4.1)) = true then
          j3 L1 k p1 p2 p3 (dmPut (V := T713d) T713d p4 y4.1 y4.2.1) y4.1 y4.2.1
        else
          j3 L1 k p1 p2 p3 p4 y4.1 y4.2.1
    else none
  else none
else
  some (p4, ())
theorem b1_ok {r} {L1 : List Td285.T → Int → Int → List (T713d.T × T713d.T) → Option R} {m1 : Nat} (hL1 : ∀ p1 p2 p3 p4, L1 p1 p2 p3 p4 = some r → Gw P 0 (Q r) (Pb c0 43 [] m1) (s1 p1 p2 p3 p4)) {k p1 p2 p3 p4} (H : b1 L1 k p1 p2 p3 p4 = some r) : Gw P 0 (Q r) (Px c0 75 [m1]) (s1 p1 p2 p3 p4) := by
  unfold b1 at H
  refine Rg V_ok 0 [] az ?_
  rcases of_ite H with ⟨hb1, H⟩ | ⟨hb1, H⟩
  · refine C1 hb1 ?_
    obtain ⟨n2, H⟩ := of_if H
    obtain ⟨n3, H⟩ := of_if H
    refine Rg V_ok 1 [(2, hb 1)] (ac n2 (ac n3 az)) ?_
    obtain ⟨y4, e5, H⟩ := of_bind H
    refine Rg V_ok 2 [(1, hr f_topo_both.S y4), (5, hb 2), (6, hb 3)] (ac (f_topo_both.rl e5) az) ?_
    refine Rg V_ok 1 [(6, hb 4)] az ?_
    refine Rg V_ok 0 [] az ?_
    rcases of_ite H with ⟨hb6, H⟩ | ⟨hb6, H⟩
    · refine C1 hb6 ?_
      refine Rg V_ok 0 [] az ?_
      exact Jm (tl [3, 6, 7, 14, 15, 16] [0, 2, 3]) (j3_ok hL1 H)
    · refine C0 hb6 ?_
      exact Jm (tl [3, 6, 7, 14, 15, 16] [0, 2, 3]) (j3_ok hL1 H)
  · refine C0 hb1 ?_
    refine Rg V_ok 0 [] az ?_
    obtain rfl := Option.some.inj H
    exact Lq (tn [2] 1)
noncomputable def l1 (k : Nat) : Nat → List Td285.T → Int → Int → List (T713d.T × T713d.T) → Option R
  | 0, _, _, _, _ => none
  | m + 1, p1, p2, p3, p4 => b1 (l1 k m) k p1 p2 p3 p4
theorem l1_ok {r} (k : Nat) : ∀ (m1 : Nat) (p1 : List Td285.T) (p2 p3 : Int) (p4 : List (T713d.T × T713d.T)), l1 k m1 p1 p2 p3 p4 = some r → Gw P 0 (Q r) (Pb c0 43 [] m1) (s1 p1 p2 p3 p4)
  | 0, _, _, _, _, H => by cases H
  | m1 + 1, p1, p2, p3, p4, H => SU (by kernel_rfl) (b1_ok (l1_ok k m1) H)
noncomputable def f (k : Nat) (p1 : T5477.T) : Option R :=
  l1 k k p1.2.2 (p1.2.2.length : Int) 0 []
theorem f_ok {r k p1} (H : f k p1 = some r) : Gw P 0 (Q r) (Px c0 1 []) (s0 p1) := by
  unfold f at H
  refine Rg V_ok 1 [(0, hb 0)] az ?_
  refine Rg V_ok 1 [(0, hb 1)] az ?_
  refine Rg V_ok 0 [] az ?_
  exact LP k (Jm (tl [3, 14, 15, 16] [1]) (l1_ok k k p1.2.2 (p1.2.2.length : Int) 0 [] H))
theorem ok {r k p1} (H : f k p1 = some r) : W P 0 c0 (s0 p1) (CallQ 0 (out r)) := of_G (f_ok H)
theorem at_ : FnAt P 48 49 c0 Go.Proofs.Try.f48.results := fnAt Go.Proofs.Try.func48 (by kernel_rfl) (by decide) (by kernel_rfl) (by kernel_rfl)
end h_topo_joined
namespace f_topo_May
structure Aside0 (p : Prop) : Prop where mk :: (out : p)
def isB (x : T713d.T) (t : T5477.T) : Bool := decide (x.1 ≥ (0 : Int)) && (decide (x.1 < t.1) && (decide (x.2 ≥ (0 : Int)) && decide (x.2 < t.2.1)))
theorem is_eq (k : Nat) (x : T713d.T) (t : T5477.T) : f_topo_end_is.f k x t = some (isB x t, ()) := by
  unfold f_topo_end_is.f isB
  cases decide (x.1 ≥ (0 : Int)) <;> cases decide (x.1 < t.1) <;> cases decide (x.2 ≥ (0 : Int)) <;> rfl
theorem joined_calls {k : Nat} {x : T5477.T} {y : h_topo_joined.R} (hk : h_topo_joined.f k x = some y) {F : Nat → Prop} {w : World} (hF : Globs F w) {v : Value} (hv : RepC (E0 F) w v (.agg (encC .any T5477 x))) :
    Calls Go.Proofs.Try.prog 48 #[v] w fun e w' => ∃ b, e = .returned (.map (some b)) ∧ w'.heap[b]? = some (.map (dmE true T713d T713d 0 y.1).toArray y.1.length) ∧ w.heap.size ≤ b ∧ Below w.heap.size w w' := by
  obtain ⟨fn, k1, k2, k3, k4, k5⟩ := h_topo_joined.at_
  refine (calls_W (V := h_topo_joined.V) (cvs := [.agg (encC .any T5477 x)]) (lr := [.one (.mp 0)]) tt_ck k1 k2 (by rw [k4]; exact Nat.le_of_ble_eq_true rfl) (by rw [k4]; exact h_topo_joined.ok hk) (by rw [k5]; kernel_rfl) hF (show All2 (RepC (E0 F) w) [v] _ from ⟨hv, trivial⟩)).mono ?_
  rintro e w' ⟨v, rfl, E', hI, hb, hβ, rfl⟩
  obtain ⟨b', h1, h2⟩ := hI.slot 0
  rw [hβ] at h1
  obtain rfl := Option.some.inj h1
  exact ⟨hb, rfl, h2, (hI.own 0 hb hβ).1, hI.below⟩
theorem dmE_mem {K V : Ty} {va : Bool} : ∀ (xs : List (K.T × V.T)) (i : Nat) {e : MapEntry}, e ∈ dmE va K V i xs → i ≤ e.born ∧ e.born < i + xs.length ∧ ∃ p, p ∈ xs ∧ e.key = .agg (flV K p.1).toArray
  | [], i, e, h => by cases h
  | p :: r, i, e, h => by
    rcases List.mem_cons.1 h with rfl | h
    · exact ⟨Nat.le_refl _, by simp, p, List.mem_cons_self, rfl⟩
    · obtain ⟨h1, h2, q, h3, h4⟩ := dmE_mem r (i + 1) h
      exact ⟨by omega, by simp only [List.length_cons]; omega, q, List.mem_cons_of_mem _ h3, h4⟩
theorem dmE_has {K V : Ty} {va : Bool} : ∀ (xs : List (K.T × V.T)) (i : Nat) {p : K.T × V.T}, p ∈ xs → ∃ e, e ∈ dmE va K V i xs ∧ e.key = .agg (flV K p.1).toArray
  | q :: r, i, p, h => by
    rcases List.mem_cons.1 h with rfl | h
    · exact ⟨_, List.mem_cons_self, rfl⟩
    · obtain ⟨e, h1, h2⟩ := dmE_has r (i + 1) h
      exact ⟨e, List.mem_cons_of_mem _ h1, h2⟩
theorem dmE_nodup {K V : Ty} {va : Bool} : ∀ (xs : List (K.T × V.T)) (i : Nat), ((dmE va K V i xs).map (·.born)).Nodup
  | [], _ => List.nodup_nil
  | p :: r, i => by
    simp only [dmE, List.map_cons, List.nodup_cons]
    refine ⟨fun h => ?_, dmE_nodup r (i + 1)⟩
    obtain ⟨e, h1, h2⟩ := List.mem_map.1 h
    have := (dmE_mem r (i + 1) h1).1
    omega
theorem born_eq : ∀ {l : List MapEntry} {e e2 : MapEntry}, (l.map (·.born)).Nodup → e2 ∈ l → e ∈ l → e2.born = e.born → e2 = e
  | x :: l, e, e2, hn, h2, h1, hb => by
    simp only [List.map_cons, List.nodup_cons] at hn
    rcases List.mem_cons.1 h2 with e3 | h2
    · rcases List.mem_cons.1 h1 with e4 | h1
      · rw [e3, e4]
      · exact absurd (List.mem_map.2 ⟨e, h1, by rw [← hb, e3]⟩) hn.1
    · rcases List.mem_cons.1 h1 with e4 | h1
      · exact absurd (List.mem_map.2 ⟨e2, h2, by rw [hb, e4]⟩) hn.1
      · exact born_eq hn.2 h2 h1 hb
section
variable {P : Program} {ops : Array Oper} {rest : List Oper} {o : Oper} {a : Act} {Q : Exit → Act → World → Prop} {w : World}
theorem gate_range {t : TypeId} {m : Operand} (_ : o.op = .range t m) (h : wpList P ops Q (o :: rest) a w) : wpList P ops Q (o :: rest) a w := h
theorem gate_next {m : Operand} (_ : o.op = .next m false) (h : wpList P ops Q (o :: rest) a w) : wpList P ops Q (o :: rest) a w := h
theorem gate_alloc {t : TypeId} (_ : o.op = .alloc t) (h : wpList P ops Q (o :: rest) a w) : wpList P ops Q (o :: rest) a w := h
theorem gate_storeX {t : TypeId} {x y : Operand} (_ : o.op = .store t x y) (h : wpList P ops Q (o :: rest) a w) : wpList P ops Q (o :: rest) a w := h
theorem wpList_alloc_row (hgd : o.guard = none) (t : TypeId) (ho : o.op = .alloc t) (Z : Array Value)
    (hz : ∀ w, (zeroValue t).run P w = .ok (.agg Z) w)
    (h : wpList P ops Q rest (a.put o.dst (.pointer (some ⟨w.heap.size, 0, none⟩))) (w.alloc (.cells Z t))) : wpList P ops Q (o :: rest) a w :=
  wpList_plain hgd fun _ hK => by
    unfold Oper.wp execOp
    simp only [ho, Instr.alloc, newVar, newRow, Value.cells, Sem.run_bind, hz, Sem.run_pure, Result.andThen_ok]
    exact hK _ _ h
theorem gate_len {t : TypeId} {x : Operand} (_ : o.op = .call { callee := .builtin .len, args := #[x], argTypes := #[t] }) (h : wpList P ops Q (o :: rest) a w) : wpList P ops Q (o :: rest) a w := h
theorem wpList_len_map (hg : o.guard = none) (x : Operand) (t : TypeId) (ho : o.op = .call { callee := .builtin .len, args := #[x], argTypes := #[t] }) (k e : TypeId) (ht : P.underlying t = some (.map k e)) (b : Nat) (es : Array MapEntry) (n : Nat) (hx : a.eval x = .map (some b)) (hb : w.heap[b]? = some (.map es n))
    (h : wpList P ops Q rest (a.put o.dst (.int .i64 (es.size : Int))) w) : wpList P ops Q (o :: rest) a w :=
  wpList_plain hg fun K hK => by
    unfold Oper.wp
    simp [execOp, ho, resolve, invoke, builtin, Builtin.len_, run_underlying ht, hx, Go.MapKept.run_getObj_map hb, goInt]
    exact hK _ _ h
theorem wpList_range_d (hg : o.guard = none) (m : Operand) (t : TypeId) (hop : o.op = .range t m) (k e : TypeId) (ht : P.underlying t = some (.map k e)) (b : Nat) (es : Array MapEntry) (n : Nat) (hm : a.eval m = .map (some b)) (hb : w.heap[b]? = some (.map es n))
    (hK : wpList P ops Q rest (a.put o.dst (.pointer (some ⟨w.heap.size, 0, none⟩))) (w.alloc (.mapIter (some b) n #[] n))) : wpList P ops Q (o :: rest) a w := by
  refine wpList_plain hg fun K' hK' => ?_
  have hrun := run_range_map (P := P) w t k e b es n ht hb
  unfold Oper.wp
  simp [execOp, hop, hm, hrun, Result.andThen]
  exact hK' _ _ hK
theorem wpList_next_d (hg : o.guard = none) (it : Operand) (hop : o.op = .next it false) (r b n c0 : Nat) (seen : Array Nat) (es : Array MapEntry) (hit : a.eval it = .pointer (some ⟨r, 0, none⟩)) (hr : w.heap[r]? = some (.mapIter (some b) n seen c0)) (hb : w.heap[b]? = some (.map es n)) (hold : ∀ x ∈ es.toList, x.born < n) (hsc : n ≤ c0)
    (hDone : (leftOf es seen).size = 0 → wpList P ops Q rest (a.put o.dst (.tuple #[.bool false])) w)
    (hMore : ∀ e w1, e ∈ (leftOf es seen).toList → (∀ j, j ≠ r → w1.heap[j]? = w.heap[j]?) → w1.heap[r]? = some (.mapIter (some b) n (seen.push e.born) n) → w1.heap.size = w.heap.size → w1.os = w.os → w1.tape = w.tape → w1.output = w.output → wpList P ops Q rest (a.put o.dst (.tuple #[.bool true, e.key, e.val])) w1) :
    wpList P ops Q (o :: rest) a w := by
  refine wpList_plain hg fun K' hK' => ?_
  unfold Oper.wp
  rcases run_next_at (P := P) w o.type r b n c0 seen es n hr hb hold hsc with ⟨h0, hrun⟩ | ⟨e, he, w1, hw1, hrun⟩
  · simp [execOp, hop, hit, hrun, Result.andThen]
    exact hK' _ _ (hDone h0)
  · simp [execOp, hop, hit, hrun, Result.andThen]
    have hlt : r < w.heap.size := (Array.getElem?_eq_some_iff.1 hr).1
    have hh : w1.heap = w.heap := by rcases hw1 with rfl | rfl <;> rfl
    refine hK' _ _ (hMore e _ he (fun j hj => ?_) ?_ ?_ ?_ ?_ ?_)
    · show (w1.heap.setIfInBounds r _)[j]? = _
      rw [hh, Array.getElem?_setIfInBounds_ne (Ne.symm hj)]
    · show (w1.heap.setIfInBounds r _)[r]? = _
      rw [hh]; simp [hlt]
    · show (w1.heap.setIfInBounds r _).size = _
      rw [hh]; simp
    · rcases hw1 with rfl | rfl <;> rfl
    · rcases hw1 with rfl | rfl <;> rfl
    · rcases hw1 with rfl | rfl <;> rfl
end
theorem zeroEnd : ∀ w, (zeroValue 108).run Go.Proofs.Try.prog w = .ok (.agg #[.int .i64 0, .int .i64 0]) w := (zero_of_info (n := 2) (by kernel_rfl : (Go.Proofs.Try.prog.info? 108).map (fun i => (i.zero, i.size)) = some (some (.agg #[.int .i64 0, .int .i64 0]), 2))).1
set_option maxHeartbeats 8000000 in
set_option maxRecDepth 100000 in
theorem may_bad (sw po : Int) (A : Option Addr) (n c : Nat) (w : World) (hb : sw < 1 ∨ sw > 6 ∨ po < 1 ∨ po > 8 ∨ (n : Int) > 12) :
    Calls Go.Proofs.Try.prog 34 #[.agg #[.int .i64 sw, .int .i64 po, .slice A n c]] w fun e w' => e = .returned (.bool false) ∧ Below w.heap.size w w' := by
  have hB : Below w.heap.size w (w.alloc (.cells #[.int .i64 sw, .int .i64 po, .slice A n c] 24)) := (Below.refl _ _).alloc (Nat.le_refl _) _
  by_cases h1 : sw < 1
  · clear hb
    go_enter Go.Proofs.Try.func34, Go.Proofs.Try.ntmps34
    go_wp2
    go_ret
    exact ⟨rfl, hB⟩
  by_cases h2 : sw > 6
  · clear hb
    go_enter Go.Proofs.Try.func34, Go.Proofs.Try.ntmps34
    go_wp2
    go_ret
    exact ⟨rfl, hB⟩
  by_cases h3 : po < 1
  · clear hb
    go_enter Go.Proofs.Try.func34, Go.Proofs.Try.ntmps34
    go_wp2
    go_ret
    exact ⟨rfl, hB⟩
  by_cases h4 : po > 8
  · clear hb
    go_enter Go.Proofs.Try.func34, Go.Proofs.Try.ntmps34
    go_wp2
    go_ret
    exact ⟨rfl, hB⟩
  have h5 : (n : Int) > 12 := by omega
  clear hb
  go_enter Go.Proofs.Try.func34, Go.Proofs.Try.ntmps34
  go_wp2
  go_ret
  exact ⟨rfl, hB⟩
theorem sizeEnd : (Go.Proofs.Try.prog.info? 108).map (·.size) = some 2 := by kernel_rfl
theorem sizeTopo : (Go.Proofs.Try.prog.info? 24).map (·.size) = some 3 := by kernel_rfl
theorem gate_load {P : Program} {ops : Array Oper} {rest : List Oper} {o : Oper} {a : Act} {Q : Exit → Act → World → Prop} {w : World} {t : TypeId} {x : Operand} (_ : o.op = .load t x) (h : wpList P ops Q (o :: rest) a w) : wpList P ops Q (o :: rest) a w := h
theorem globs_below {F : Nat → Prop} {w w' : World} (hG : Globs F w) (h : Below w.heap.size w w') : Globs F w' := hG.step (fun _ h => h) (fun b hb => h.block b (hG.1 b hb)) (fun b hb => Nat.lt_of_lt_of_le (hG.1 b hb) h.size)
theorem repc_below {F : Nat → Prop} {w w' : World} (hG : Globs F w) (h : Below w.heap.size w w') {v : Value} {c : CV} (hv : RepC (E0 F) w v c) : RepC (E0 F) w' v c := RepC.evo ⟨fun _ _ h => h, fun _ _ h => h, fun _ h => h, fun b hb => h.block b (hG.1 b hb)⟩ hv
theorem below_then {B : Nat} {w w1 w2 : World} (h : Below B w w1) (hB : B ≤ w1.heap.size) (k : Below w1.heap.size w1 w2) : Below B w w2 :=
  h.trans ⟨k.os, k.tape, k.output, k.size, fun i hi => k.block i (Nat.lt_of_lt_of_le hi hB)⟩
theorem is_calls (x : T713d.T) (t : T5477.T) {F : Nat → Prop} {w : World} (hF : Globs F w) {u : Value} (hv : RepC (E0 F) w u (.agg (encC .any T5477 t))) :
    Calls Go.Proofs.Try.prog 49 #[.agg #[.int .i64 x.1, .int .i64 x.2], u] w fun e w' => e = .returned (.bool (isB x t)) ∧ Below w.heap.size w w' := by
  refine (f_topo_end_is.fits.calls (x, t, ()) (isB x t, ()) ⟨0, is_eq 0 x t⟩ F w #[.agg #[.int .i64 x.1, .int .i64 x.2], u] hF (show All2 (RepC (E0 F) w) [.agg #[.int .i64 x.1, .int .i64 x.2], u] [cvOf true (encC .any T713d x), cvOf true (encC .any T5477 t)] from ⟨by rw [cvOf_true]; exact ⟨_, rfl, rfl, rfl, trivial⟩, by rw [cvOf_true]; exact hv, trivial⟩)).mono ?_
  rintro e w' ⟨v, rfl, bel, F', _, _, _, hv'⟩
  obtain rfl : v = .bool (isB x t) := hv'
  exact ⟨rfl, bel⟩
abbrev esOf (xs : List (T713d.T × T713d.T)) : Array MapEntry := (dmE true T713d T713d 0 xs).toArray
set_option maxHeartbeats 8000000 in
set_option maxRecDepth 100000 in
theorem may_ok (sw po : Int) (ls : List Td285.T) (A : Option Addr) (c : Nat) (F : Nat → Prop) (w : World) (hG : Globs F w) (hv : RepC (E0 F) w (.agg #[.int .i64 sw, .int .i64 po, .slice A ls.length c]) (.agg (encC .any T5477 (sw, (po, ls)))))
    (h1 : ¬ sw < 1) (h2 : ¬ sw > 6) (h3 : ¬ po < 1) (h4 : ¬ po > 8) (h5 : ¬ (ls.length : Int) > 12) (k : Nat) (y : h_topo_joined.R) (hk : h_topo_joined.f k (sw, (po, ls)) = some y) :
    Calls Go.Proofs.Try.prog 34 #[.agg #[.int .i64 sw, .int .i64 po, .slice A ls.length c]] w fun e w' => e = .returned (.bool (y.1.all (fun p => isB p.1 (sw, (po, ls))) && ((y.1.length : Int) == 2 * (ls.length : Int)))) ∧ Below w.heap.size w w' := by
  have HG := Aside0.mk hG
  have HV := Aside0.mk hv
  have HK := Aside0.mk hk
  have HB0 : Aside0 (Below w.heap.size w (w.alloc (.cells #[.int .i64 sw, .int .i64 po, .slice A ls.length c] 24))) := ⟨(Below.refl _ _).alloc (Nat.le_refl _) _⟩
  have HR0 := Aside0.mk (heap_alloc_new w (.cells #[.int .i64 sw, .int .i64 po, .slice A ls.length c] 24))
  clear hG hv hk
  go_enter Go.Proofs.Try.func34, Go.Proofs.Try.ntmps34
  go_wp2_with fail
  generalize hW1 : w.alloc (.cells #[.int .i64 sw, .int .i64 po, .slice A ls.length c] 24) = W1 at *
  refine (joined_calls HK.out (globs_below HG.out HB0.out) (repc_below HG.out HB0.out HV.out)).mono ?_
  rintro e w2 ⟨b, rfl, hb, hbl, hB2⟩
  have HM := Aside0.mk hb
  have HBL := Aside0.mk hbl
  have HB2 := Aside0.mk hB2
  have HR2 := Aside0.mk ((hB2.block w.heap.size (Array.getElem?_eq_some_iff.1 HR0.out).1).trans HR0.out)
  clear hb hbl hB2
  go_wp2_with ((with_reducible refine gate_range (t := 105) (m := .tmp 31) rfl ?_); refine wpList_range_d rfl (.tmp 31) 105 rfl 108 108 Go.Proofs.Try.underlying105 b _ y.1.length rfl HM.out ?_)
  go_frame
  have hw2 : (w2.alloc (.mapIter (some b) y.1.length #[] y.1.length)).heap.size = w2.heap.size + 1 := by simp
  have HS := Aside0.mk (show w2.heap.size < (w2.alloc (.mapIter (some b) y.1.length #[] y.1.length)).heap.size by rw [hw2]; omega)
  have H3b := Aside0.mk (below_then HB0.out HB0.out.size HB2.out)
  have H3 := Aside0.mk (H3b.out.alloc H3b.out.size (.mapIter (some b) y.1.length #[] y.1.length))
  have HI := Aside0.mk (heap_alloc_new w2 (.mapIter (some b) y.1.length #[] y.1.length))
  have HM3 := Aside0.mk ((heap_alloc_old w2 (.mapIter (some b) y.1.length #[] y.1.length) (Array.getElem?_eq_some_iff.1 HM.out).1).trans HM.out)
  have HR3 := Aside0.mk ((heap_alloc_old w2 (.mapIter (some b) y.1.length #[] y.1.length) (Array.getElem?_eq_some_iff.1 HR2.out).1).trans HR2.out)
  have HN := Aside0.mk (show w.heap.size ≤ w2.heap.size from H3b.out.size)
  have HNE := Aside0.mk (show b ≠ w2.heap.size from fun e => by have := (Array.getElem?_eq_some_iff.1 HM.out).1; omega)
  have HNB := Aside0.mk (show w.heap.size ≤ b by have := HB0.out.size; have := HBL.out; omega)
  have HNR := Aside0.mk (show w.heap.size ≠ w2.heap.size from fun e => by have := (Array.getElem?_eq_some_iff.1 HR2.out).1; omega)
  clear hw2
  generalize hW3 : w2.alloc (.mapIter (some b) y.1.length #[] y.1.length) = W3 at *
  generalize w2.heap.size = r at *
  clear hW3 hW1
  go_loopw [4] (fun _ wr => ∃ (seen : Array Nat) (c0 : Nat), Aside0 (wr.heap[r]? = some (.mapIter (some b) y.1.length seen c0)) ∧ Aside0 (y.1.length ≤ c0) ∧ Aside0 (wr.heap[b]? = some (.map (esOf y.1) y.1.length)) ∧ Aside0 (wr.heap[w.heap.size]? = some (.cells #[.int .i64 sw, .int .i64 po, .slice A ls.length c] 24 (0, 0))) ∧ Aside0 (Below w.heap.size w wr) ∧ Aside0 (∀ e ∈ (esOf y.1).toList, seen.contains e.born = true → ∃ p : T713d.T × T713d.T, e.key = .agg (flV T713d p.1).toArray ∧ isB p.1 (sw, (po, ls)) = true)) (fun _ wr => wr.rangeLeft b r)
  case atStart => exact ⟨#[], _, HI, ⟨Nat.le_refl _⟩, HM3, HR3, H3, ⟨fun e _ h => by simp at h⟩⟩
  case round =>
    obtain ⟨seen, c0, J1, J2, J3, J4, J5, J6⟩ := hrel
    go_wp2_with (first | ((with_reducible refine gate_next (m := .tmp 32) rfl ?_); refine wpList_next_d rfl (.tmp 32) rfl r b y.1.length c0 seen (esOf y.1) rfl J1.out J3.out (fun x hx => by have := (dmE_mem y.1 0 hx).2.1; omega) J2.out ?_ ?_))
    · intro h0
      have h00 : (leftOf (esOf y.1) seen).size = 0 := by simpa using h0
      have hall : (y.1.all fun p => isB p.1 (sw, (po, ls))) = true := by
        rw [List.all_eq_true]
        intro p hp
        obtain ⟨e, e1, e2⟩ := dmE_has (va := true) y.1 0 hp
        have hs : seen.contains e.born = true := by
          cases hc : seen.contains e.born
          · have : e ∈ leftOf (esOf y.1) seen := by unfold leftOf; simp [e1]; simpa using hc
            have := Array.size_pos_of_mem this
            omega
          · rfl
        obtain ⟨q, q1, q2⟩ := J6.out e e1 hs
        have hq : flV T713d q.1 = flV T713d p.1 := by
          have := q1.symm.trans e2
          simpa using this
        obtain ⟨⟨qa, qb⟩, qv⟩ := q
        obtain ⟨⟨pa, pb⟩, pv⟩ := p
        have hq' : [Value.int .i64 qa, Value.int .i64 qb] = [Value.int .i64 pa, Value.int .i64 pb] := hq
        simp only [List.cons.injEq, Value.int.injEq, true_and, and_true] at hq'
        dsimp only at q2 ⊢
        rw [← hq'.1, ← hq'.2]
        exact q2
      have HA := Aside0.mk hall
      have c2 : wr.cell? ⟨w.heap.size, 2, none⟩ = some (.slice A ls.length c) := by rw [cell_of_row _ _ _ _ _ _ J4.out]; rfl
      have HL := Aside0.mk (show (esOf y.1).size = y.1.length from by simp [dmE_len])
      clear hall h0
      go_wp2_with (first | ((with_reducible refine gate_len (x := .tmp 41) (t := 105) rfl ?_); refine wpList_len_map rfl (.tmp 41) 105 rfl 108 108 Go.Proofs.Try.underlying105 b (esOf y.1) y.1.length rfl J3.out ?_; rw [HL.out]))
      go_ret
      exact ⟨by rw [HA.out]; simp, J5.out⟩
    · intro e w1 he hsame hit hsz hos htp hout
      have heM : e ∈ (esOf y.1).toList := by unfold leftOf at he; simp at he; simpa using he.1
      have hnew : seen.contains e.born = false := by unfold leftOf at he; simp at he; simpa using he.2
      obtain ⟨_, _, p, hp, hpk⟩ := dmE_mem y.1 0 heM
      have hb1 : w1.heap[b]? = some (.map (esOf y.1) y.1.length) := (hsame b HNE.out).trans J3.out
      have hen := run_entry_at (P := Go.Proofs.Try.prog) w1 r b y.1.length seen (esOf y.1) y.1.length e hit hb1 heM (dmE_nodup y.1 0)
      have HR1 := Aside0.mk ((hsame w.heap.size HNR.out).trans J4.out)
      have HB1 := Aside0.mk (show Below w.heap.size w w1 from J5.out.trans ⟨hos, htp, hout, by omega, fun j hj => hsame j (by have := HN.out; omega)⟩)
      have HM1 := Aside0.mk hb1
      have HI1 := Aside0.mk hit
      have HP := Aside0.mk hpk
      have HX := Aside0.mk heM
      obtain ⟨⟨pa, pb⟩, pv⟩ := p
      have hk' : e.key = .agg #[.int .i64 pa, .int .i64 pb] := hpk
      rw [hk'] at hen ⊢
      have HSZ := Aside0.mk hsz
      have HNW := Aside0.mk hnew
      clear hsame hit hos htp hout hb1 hpk hk' heM hsz hnew
      have L2 := Aside0.mk ((heap_alloc_old w1 (.cells #[.int .i64 pa, .int .i64 pb] 108) (Array.getElem?_eq_some_iff.1 HR1.out).1).trans HR1.out)
      have L3 := Aside0.mk ((heap_alloc_old w1 (.cells #[.int .i64 pa, .int .i64 pb] 108) (Array.getElem?_eq_some_iff.1 HM1.out).1).trans HM1.out)
      have L4 := Aside0.mk ((heap_alloc_old w1 (.cells #[.int .i64 pa, .int .i64 pb] 108) (Array.getElem?_eq_some_iff.1 HI1.out).1).trans HI1.out)
      have L5 := Aside0.mk (HB1.out.alloc HB1.out.size (.cells #[.int .i64 pa, .int .i64 pb] 108))
      have c0' : (w1.alloc (.cells #[.int .i64 pa, .int .i64 pb] 108)).cell? ⟨w.heap.size, 0, none⟩ = some (.int .i64 sw) := by rw [cell_of_row _ _ _ _ _ _ L2.out]; rfl
      have c1' : (w1.alloc (.cells #[.int .i64 pa, .int .i64 pb] 108)).cell? ⟨w.heap.size, 1, none⟩ = some (.int .i64 po) := by rw [cell_of_row _ _ _ _ _ _ L2.out]; rfl
      have c2' : (w1.alloc (.cells #[.int .i64 pa, .int .i64 pb] 108)).cell? ⟨w.heap.size, 2, none⟩ = some (.slice A ls.length c) := by rw [cell_of_row _ _ _ _ _ _ L2.out]; rfl
      have HALL := Aside0.mk (show isB (pa, pb) (sw, (po, ls)) = false → (y.1.all fun p => isB p.1 (sw, (po, ls))) = false from fun h => by
        rw [List.all_eq_false]
        exact ⟨_, hp, by dsimp only; rw [h]; exact Bool.false_ne_true⟩)
      have HLT := Aside0.mk (show (leftOf (esOf y.1) (seen.push e.born)).size < (leftOf (esOf y.1) seen).size from left_shrinks _ _ _ (by simpa using he))
      clear hp he
      go_wp2_with fail
      refine (is_calls (pa, pb) (sw, (po, ls)) (globs_below HG.out L5.out) (repc_below HG.out L5.out HV.out)).mono ?_
      rintro e' w5 ⟨rfl, hB5⟩
      have M1 := Aside0.mk ((hB5.block w.heap.size (Array.getElem?_eq_some_iff.1 L2.out).1).trans L2.out)
      have M2 := Aside0.mk ((hB5.block b (Array.getElem?_eq_some_iff.1 L3.out).1).trans L3.out)
      have M3 := Aside0.mk ((hB5.block r (Array.getElem?_eq_some_iff.1 L4.out).1).trans L4.out)
      have M4 := Aside0.mk (below_then L5.out L5.out.size hB5)
      clear hB5 c0' c1' c2'
      cases hB : isB (pa, pb) (sw, (po, ls))
      · go_wp2
        go_ret
        exact ⟨by rw [HALL.out hB]; rfl, M4.out⟩
      · have HBB := Aside0.mk hB
        clear hB
        go_wp2
        go_roundw
        case rel =>
          refine ⟨seen.push e.born, _, M3, ⟨Nat.le_refl _⟩, M2, M1, M4, ⟨fun e2 h2 hs => ?_⟩⟩
          by_cases hn : seen.contains e2.born = true
          · exact J6.out e2 h2 hn
          · have hb' : e2.born = e.born := by
              simp only [Array.contains_push, Bool.or_eq_true, beq_iff_eq] at hs
              rcases hs with hs | hs
              · exact absurd hs hn
              · exact hs
            have : e2 = e := by
              have hnd := dmE_nodup (va := true) y.1 0
              exact born_eq hnd h2 HX.out hb'
            subst this
            exact ⟨((pa, pb), pv), HP.out, HBB.out⟩
        case measure =>
          unfold World.rangeLeft
          rw [M2.out, M3.out, J3.out, J1.out]
          exact HLT.out
theorem topo_val {F : Nat → Prop} {w : World} {v : Value} {x : T5477.T} (h : RepC (E0 F) w v (.agg (encC .any T5477 x))) : ∃ A c, v = .agg #[.int .i64 x.1, .int .i64 x.2.1, .slice A x.2.2.length c] := by
  obtain ⟨cs, rfl, hl⟩ := h
  have hlen := hl.len
  match hz : cs.toList, hl with
  | [v1, v2, v3], ⟨h1, h2, h3, _⟩ =>
    obtain ⟨A, c, inner, e, _⟩ := h3.1
    simp only [List.cons.injEq, and_true] at e
    obtain rfl : v1 = .int .i64 x.1 := h1
    obtain rfl : v2 = .int .i64 x.2.1 := h2
    subst e
    exact ⟨A, c, by rw [← Array.toArray_toList (xs := cs), hz]⟩
theorem enter_of {P : Program} {f : Nat} {fn : Func} {c : Code} (hf : P.funcs[f]? = some fn) (hb : fn.body = some c) (hn : fn.name ≠ "runtime.NumGoroutine") (args : Array Value) (w : World) : (callFunc f args).run P w = .ok (.enter f args) w := by
  simp [callFunc, hf, hb, hn]
abbrev ps : Sg := [(true, T5477)]
abbrev rs : Sg := [(false, .bool)]
abbrev R := Tup rs
noncomputable def f (k : Nat) (a1 : T5477.T) : Option R :=
  if a1.1 < (1 : Int) ∨ a1.1 > (6 : Int) ∨ a1.2.1 < (1 : Int) ∨ a1.2.1 > (8 : Int) ∨ (a1.2.2.length : Int) > (12 : Int) then some (false, ())
  else (h_topo_joined.f k a1).bind fun y => some (y.1.all (fun p => isB p.1 a1) && ((y.1.length : Int) == 2 * (a1.2.2.length : Int)), ())
noncomputable def S : Spec := ⟨ps, rs, .any, none, fun x r => ∃ k, f k x.1 = some r⟩
theorem rl {k a1 r} (e : f k a1 = some r) : S.rel (a1, ()) r := ⟨k, e⟩
theorem fits : Fits P 34 S := by
  refine ⟨fun args w => ?_, fun x r hrel F w args hF hargs => ?_⟩
  · exact enter_of (c := (Go.Proofs.Try.f34.body).getD .skip) Go.Proofs.Try.func34 (by kernel_rfl) (by decide) args w
  · obtain ⟨k, hk⟩ := hrel
    obtain ⟨a1, u⟩ := x
    dsimp only at hk
    have ha : ∃ v, args = #[v] ∧ RepC (E0 F) w v (.agg (encC .any T5477 a1)) := by
      match hz : args.toList, hargs with
      | [v], h => exact ⟨v, by rw [← Array.toArray_toList (xs := args), hz], by have := h.1; rw [cvOf_true] at this; exact this⟩
    obtain ⟨v, rfl, hr⟩ := ha
    obtain ⟨A, c, rfl⟩ := topo_val hr
    obtain ⟨sw, po, ls⟩ := a1
    have key : ∃ b : Bool, r = (b, ()) ∧ Calls Go.Proofs.Try.prog 34 #[.agg #[.int .i64 sw, .int .i64 po, .slice A ls.length c]] w fun e w' => e = .returned (.bool b) ∧ Below w.heap.size w w' := by
      unfold f at hk
      by_cases hb : sw < (1 : Int) ∨ sw > (6 : Int) ∨ po < (1 : Int) ∨ po > (8 : Int) ∨ (ls.length : Int) > (12 : Int)
      · rw [if_pos hb] at hk
        exact ⟨false, (Option.some.inj hk).symm, may_bad sw po A ls.length c w hb⟩
      · rw [if_neg hb] at hk
        cases hy : h_topo_joined.f k (sw, (po, ls)) with
        | none => rw [hy] at hk; cases hk
        | some y =>
          rw [hy] at hk
          exact ⟨_, (Option.some.inj hk).symm, may_ok sw po ls A c F w hF hr (fun h => hb (.inl h)) (fun h => hb (.inr (.inl h))) (fun h => hb (.inr (.inr (.inl h)))) (fun h => hb (.inr (.inr (.inr (.inl h))))) (fun h => hb (.inr (.inr (.inr (.inr h))))) k y hy⟩
    obtain ⟨b, rfl, hc⟩ := key
    refine hc.mono ?_
    rintro e w' ⟨rfl, hb⟩
    exact ⟨_, rfl, hb, F, fun _ h => h, fun _ h => .inl h, fun b h => Nat.lt_of_lt_of_le (hF.1 b h) hb.size, rfl⟩
end f_topo_May

/-! ### function 35, wayfinder/control.New -/
namespace f_control_New
noncomputable def c0 : Code := (Go.Proofs.Try.f35.body).getD .skip
abbrev ps : Sg := [(true, T5477)]
abbrev rs : Sg := [(true, T26b3)]
noncomputable def V : Env := { tt := tt, Γ := slk [] }
theorem V_ok : EnvOk P V := { ck := tt_ck, fits := slk_nil, mixed := mixed }
abbrev R := Tup rs
noncomputable abbrev Q (r : R) : Exit → St → Prop := Qr tt Go.Proofs.Try.f35.results ⟨ps, rs, .any, none, fun _ _ => True⟩ r
noncomputable def f (k : Nat) (a1 : T5477.T) : Option R :=
  if 0 ≤ (if 100 < (if 0 > a1.1 then 0 else a1.1) then 100 else (if 0 > a1.1 then 0 else a1.1)) ∧ (if 100 < (if 0 > a1.1 then 0 else a1.1) then 100 else (if 0 > a1.1 then 0 else a1.1)) = (if 100 < (if 0 > a1.1 then 0 else a1.1) then 100 else (if 0 > a1.1 then 0 else a1.1)) ∧ (24 : Int) * (if 100 < (if 0 > a1.1 then 0 else a1.1) then 100 else (if 0 > a1.1 then 0 else a1.1)) ≤ 140737488355328 ∧ (if 100 < (if 0 > a1.1 then 0 else a1.1) then 100 else (if 0 > a1.1 then 0 else a1.1)) ≤ 140737488355328 then
    if 0 ≤ (if 100 < (if 0 > a1.1 then 0 else a1.1) then 100 else (if 0 > a1.1 then 0 else a1.1)) ∧ (if 100 < (if 0 > a1.1 then 0 else a1.1) then 100 else (if 0 > a1.1 then 0 else a1.1)) = (if 100 < (if 0 > a1.1 then 0 else a1.1) then 100 else (if 0 > a1.1 then 0 else a1.1)) ∧ (56 : Int) * (if 100 < (if 0 > a1.1 then 0 else a1.1) then 100 else (if 0 > a1.1 then 0 else a1.1)) ≤ 140737488355328 ∧ (if 100 < (if 0 > a1.1 then 0 else a1.1) then 100 else (if 0 > a1.1 then 0 else a1.1)) ≤ 140737488355328 then
      some (([(List.replicate (if 100 < (if 0 > a1.1 then 0 else a1.1) then 100 else (if 0 > a1.1 then 0 else a1.1)).toNat ([] : List T1383.T))], (0, (-1, (1, (0, (0, (0, ([], ((List.replicate (if 100 < (if 0 > a1.1 then 0 else a1.1) then 100 else (if 0 > a1.1 then 0 else a1.1)).toNat ((0, (0, (0, (0, [])))) : T23b6.T)), ([(1, 0)], ([], ([], 0)))))))))))), ())
    else none
  else none
noncomputable def S : Spec := ⟨ps, rs, .any, none, fun x r => ∃ k, f k x.1 = some r⟩
theorem rl {k a1 r} (e : f k a1 = some r) : S.rel (a1, ()) r := ⟨k, e⟩
theorem f_ok {r k a1} (H : f k a1 = some r) : Gw P 0 (Q r) (Px c0 1 []) (⟨16, [(0, .cv (.agg (encC .any T5477 a1)))], []⟩) := by
  unfold f at H
  refine Rg V_ok 2 [(0, hb 0), (1, hb 1)] az ?_
  refine Rg V_ok 0 [] az ?_
  obtain ⟨n1, H⟩ := of_if H
  obtain ⟨n2, H⟩ := of_if H
  refine Rg V_ok 1 [(1, ho), (4, hb 2)] (ac n1 (ac n2 az)) ?_
  exact Lf (Eq.trans (by kernel_rfl) H)
theorem fits : Fits P 35 S := fits_of V_ok Go.Proofs.Try.func35 (by kernel_rfl) (by decide) (by decide) rfl (fun x r ⟨k, H⟩ => of_G (f_ok H))
end f_control_New
/-! ### function 37, wayfinder/agent.New -/
namespace f_agent_New
noncomputable def c0 : Code := (Go.Proofs.Try.f37.body).getD .skip
abbrev ps : Sg := []
abbrev rs : Sg := [(true, Tf20b)]
noncomputable def V : Env := { tt := tt, Γ := slk [] }
theorem V_ok : EnvOk P V := { ck := tt_ck, fits := slk_nil, mixed := mixed }
abbrev R := Tup rs
noncomputable abbrev Q (r : R) : Exit → St → Prop := Qr tt Go.Proofs.Try.f37.results ⟨ps, rs, .any, none, fun _ _ => True⟩ r
noncomputable def f (k : Nat) : Option R :=
  some ((1, (0, (false, (0, (0, ([], 0)))))), ())
noncomputable def S : Spec := ⟨ps, rs, .any, none, fun x r => ∃ k, f k = some r⟩
theorem rl {k r} (e : f k = some r) : S.rel (()) r := ⟨k, e⟩
theorem f_ok {r k} (H : f k = some r) : Gw P 0 (Q r) (Px c0 1 []) (⟨2, [], []⟩) := by
  unfold f at H
  refine Rg V_ok 1 [(0, hb 0)] az ?_
  refine Rg V_ok 0 [] az ?_
  exact Lf (Eq.trans (by kernel_rfl) H)
theorem fits : Fits P 37 S := fits_of V_ok Go.Proofs.Try.func37 (by kernel_rfl) (by decide) (by decide) rfl (fun x r ⟨k, H⟩ => of_G (f_ok H))
end f_agent_New
/-! ### function 67, math/bits.Mul32 -/
namespace f_math_bits_Mul32
noncomputable def c0 : Code := (Go.Proofs.Try.f67.body).getD .skip
abbrev ps : Sg := [(false, (.int .u32)), (false, (.int .u32))]
abbrev rs : Sg := [(false, (.int .u32)), (false, (.int .u32))]
noncomputable def V : Env := { tt := tt, Γ := slk [] }
theorem V_ok : EnvOk P V := { ck := tt_ck, fits := slk_nil, mixed := mixed }
abbrev R := Tup rs
noncomputable abbrev Q (r : R) : Exit → St → Prop := Qr tt Go.Proofs.Try.f67.results ⟨ps, rs, .any, none, fun _ _ => True⟩ r
noncomputable def f (k : Nat) (a1 a2 : Int) : Option R :=
  some ((IntKind.u32.wrap (Int.fdiv (IntKind.u64.wrap ((IntKind.u64.wrap a1) * (IntKind.u64.wrap a2))) (2 ^ (min (32 : Int).toNat (IntKind.u64.bits))))), ((IntKind.u32.wrap (IntKind.u64.wrap ((IntKind.u64.wrap a1) * (IntKind.u64.wrap a2)))), ()))
noncomputable def S : Spec := ⟨ps, rs, .any, none, fun x r => ∃ k, f k x.1 x.2.1 = some r⟩
theorem rl {k a1 a2 r} (e : f k a1 a2 = some r) : S.rel (a1, a2, ()) r := ⟨k, e⟩
theorem f_ok {r k a1 a2} (H : f k a1 a2 = some r) : Gw P 0 (Q r) (Px c0 1 []) (⟨17, [(0, .cv (.one (.int .u32 a1))), (1, .cv (.one (.int .u32 a2)))], []⟩) := by
  unfold f at H
  refine Rg V_ok 0 [] az ?_
  refine Rg V_ok 0 [] az ?_
  refine Rg V_ok 0 [] (ac (show 0 ≤ (32 : Int) by decide) az) ?_
  exact Lf (Eq.trans (by kernel_rfl) H)
theorem fits : Fits P 67 S := fits_of V_ok Go.Proofs.Try.func67 (by kernel_rfl) (by decide) (by decide) rfl (fun x r ⟨k, H⟩ => of_G (f_ok H))
end f_math_bits_Mul32
/-! ### function 68, math/bits.Mul64 -/
namespace f_math_bits_Mul64
noncomputable def c0 : Code := (Go.Proofs.Try.f68.body).getD .skip
abbrev ps : Sg := [(false, (.int .u64)), (false, (.int .u64))]
abbrev rs : Sg := [(false, (.int .u64)), (false, (.int .u64))]
noncomputable def V : Env := { tt := tt, Γ := slk [] }
theorem V_ok : EnvOk P V := { ck := tt_ck, fits := slk_nil, mixed := mixed }
abbrev R := Tup rs
noncomputable abbrev Q (r : R) : Exit → St → Prop := Qr tt Go.Proofs.Try.f68.results ⟨ps, rs, .any, none, fun _ _ => True⟩ r
noncomputable def f (k : Nat) (a1 a2 : Int) : Option R :=
  some ((IntKind.u64.wrap ((IntKind.u64.wrap ((IntKind.u64.wrap ((Int.fdiv a1 (2 ^ (min (32 : Int).toNat (IntKind.u64.bits)))) * (Int.fdiv a2 (2 ^ (min (32 : Int).toNat (IntKind.u64.bits)))))) + (Int.fdiv (IntKind.u64.wrap ((IntKind.u64.wrap ((Int.fdiv a1 (2 ^ (min (32 : Int).toNat (IntKind.u64.bits)))) * (IntKind.u64.wrap (((BitVec.ofInt IntKind.u64.bits a2 &&& BitVec.ofInt IntKind.u64.bits 4294967295).toNat : Int))))) + (Int.fdiv (IntKind.u64.wrap ((IntKind.u64.wrap (((BitVec.ofInt IntKind.u64.bits a1 &&& BitVec.ofInt IntKind.u64.bits 4294967295).toNat : Int))) * (IntKind.u64.wrap (((BitVec.ofInt IntKind.u64.bits a2 &&& BitVec.ofInt IntKind.u64.bits 4294967295).toNat : Int))))) (2 ^ (min (32 : Int).toNat (IntKind.u64.bits)))))) (2 ^ (min (32 : Int).toNat (IntKind.u64.bits)))))) + (Int.fdiv (IntKind.u64.wrap ((IntKind.u64.wrap (((BitVec.ofInt IntKind.u64.bits (IntKind.u64.wrap ((IntKind.u64.wrap ((Int.fdiv a1 (2 ^ (min (32 : Int).toNat (IntKind.u64.bits)))) * (IntKind.u64.wrap (((BitVec.ofInt IntKind.u64.bits a2 &&& BitVec.ofInt IntKind.u64.bits 4294967295).toNat : Int))))) + (Int.fdiv (IntKind.u64.wrap ((IntKind.u64.wrap (((BitVec.ofInt IntKind.u64.bits a1 &&& BitVec.ofInt IntKind.u64.bits 4294967295).toNat : Int))) * (IntKind.u64.wrap (((BitVec.ofInt IntKind.u64.bits a2 &&& BitVec.ofInt IntKind.u64.bits 4294967295).toNat : Int))))) (2 ^ (min (32 : Int).toNat (IntKind.u64.bits)))))) &&& BitVec.ofInt IntKind.u64.bits 4294967295).toNat : Int))) + (IntKind.u64.wrap ((IntKind.u64.wrap (((BitVec.ofInt IntKind.u64.bits a1 &&& BitVec.ofInt IntKind.u64.bits 4294967295).toNat : Int))) * (Int.fdiv a2 (2 ^ (min (32 : Int).toNat (IntKind.u64.bits)))))))) (2 ^ (min (32 : Int).toNat (IntKind.u64.bits)))))), ((IntKind.u64.wrap (a1 * a2)), ()))
noncomputable def S : Spec := ⟨ps, rs, .any, none, fun x r => ∃ k, f k x.1 x.2.1 = some r⟩
theorem rl {k a1 a2 r} (e : f k a1 a2 = some r) : S.rel (a1, a2, ()) r := ⟨k, e⟩
theorem f_ok {r k a1 a2} (H : f k a1 a2 = some r) : Gw P 0 (Q r) (Px c0 1 []) (⟨51, [(0, .cv (.one (.int .u64 a1))), (1, .cv (.one (.int .u64 a2)))], []⟩) := by
  unfold f at H
  refine Rg V_ok 0 [] az ?_
  refine Rg V_ok 0 [] az ?_
  refine Rg V_ok 0 [] (ac (show 0 ≤ (32 : Int) by decide) az) ?_
  refine Rg V_ok 0 [] az ?_
  refine Rg V_ok 0 [] (ac (show 0 ≤ (32 : Int) by decide) az) ?_
  refine Rg V_ok 0 [] az ?_
  refine Rg V_ok 0 [] (ac (show 0 ≤ (32 : Int) by decide) az) ?_
  refine Rg V_ok 0 [] az ?_
  refine Rg V_ok 0 [] (ac (show 0 ≤ (32 : Int) by decide) az) ?_
  refine Rg V_ok 0 [] az ?_
  refine Rg V_ok 0 [] (ac (show 0 ≤ (32 : Int) by decide) az) ?_
  refine Rg V_ok 0 [] az ?_
  exact Lf (Eq.trans (by kernel_rfl) H)
theorem fits : Fits P 68 S := fits_of V_ok Go.Proofs.Try.func68 (by kernel_rfl) (by decide) (by decide) rfl (fun x r ⟨k, H⟩ => of_G (f_ok H))
end f_math_bits_Mul64

namespace f_slices_Repeat_Switch
structure Aside0 (p : Prop) : Prop where mk :: (out : p)
theorem enter_of {P : Program} {f : Nat} {fn : Func} {c : Code} (hf : P.funcs[f]? = some fn) (hb : fn.body = some c) (hn : fn.name ≠ "runtime.NumGoroutine") (args : Array Value) (w : World) : (callFunc f args).run P w = .ok (.enter f args) w := by
  simp [callFunc, hf, hb, hn]
def zS : Array Value := #[.int .i64 0, .int .i64 0, .bool false, .int .i64 0, .int .i64 0, .slice none 0 0, .int .i64 0]
theorem info_S : (Go.Proofs.Try.prog.info? 81).map (fun i => (i.zero, i.size, i.bytes)) = some (some (.agg zS), 7, 72) := by kernel_rfl
theorem run_copyS (w : World) (ty g o dLen dCap : Nat) (a : Addr) (sLen sCap : Nat) (cur : Array Value) (t : TypeId) (cs : List Value) (hg : w.heap[g]? = some (.cells cur t (0, 0))) (hn : cs.length = Nat.min sLen dLen * 7)
    (hsrc : ∀ j v, cs[j]? = some v → w.cell? (a.add j) = some v) (hfit : o + cs.length ≤ cur.size) (h1 : ∀ v ∈ cs, v.oneCell' = true) :
    (Builtin.copy_ #[53, 53] ty #[.slice (some ⟨g, o, none⟩) dLen dCap, .slice (some a) sLen sCap]).run Go.Proofs.Try.prog w = .ok (.int .i64 (Nat.min sLen dLen : Nat)) (w.setRow g (cur.toList.take o ++ cs ++ cur.toList.drop (o + cs.length)).toArray) := by
  have hl := run_loadCells_list (P := Go.Proofs.Try.prog) w a cs hsrc
  have hst := run_storeCells_at Go.Proofs.Try.prog g o t cs 0 cur w hg (by simpa using hfit) h1
  obtain ⟨i, hi, _, hs, _⟩ := info_parts info_S
  simp [Builtin.copy_, run_underlying Go.Proofs.Try.underlying53, Builtin.lenOf, Builtin.firstCells, sizeOf, typeInfo, hi, hs, ← hn, hl, hst, goInt]
theorem step_copyS {P : Program} {ops : Array Oper} {o : Oper} {a : Act} {w : World} {K : Act → World → Prop} {Q : Exit → Act → World → Prop} {E : Prop}
    (hg : o.guard = none) (d x : Operand) (dT sT : TypeId) (hop : o.op = Op.call { callee := Callee.builtin Builtin.copy, args := #[d, x], argTypes := #[dT, sT] })
    (v u : Value) (hd : a.eval d = v) (hx : a.eval x = u) {v' : Value} {w' : World} (hr : (Builtin.copy_ #[dT, sT] o.type #[v, u]).run P w = .ok v' w') (hK : K (a.put o.dst v') w') :
    if Region.wanted o (yielded ops a.tmps) = true then Oper.wp P o a w K Q else E := by
  have hw : Region.wanted o (yielded ops a.tmps) = true := by simp [Region.wanted, hg]
  rw [if_pos hw]
  unfold Oper.wp
  simp [execOp, hop, resolve, invoke, builtin, hd, hx, hr, Result.andThen]
  exact hK
theorem gate_copy {P : Program} {ops : Array Oper} {rest : List Oper} {o : Oper} {a : Act} {Q : Exit → Act → World → Prop} {w : World} {d s : Operand} {t t' : TypeId} (_ : o.op = .call { callee := .builtin .copy, args := #[d, s], argTypes := #[t, t'] }) (h : wpList P ops Q (o :: rest) a w) : wpList P ops Q (o :: rest) a w := h
theorem wp_copyS {P : Program} {ops : Array Oper} {rest : List Oper} {o : Oper} {a : Act} {w : World} {Q : Exit → Act → World → Prop} (hgd : o.guard = none) (d s : Operand) (t t' : TypeId)
    (ho : o.op = .call { callee := .builtin .copy, args := #[d, s], argTypes := #[t, t'] }) (v u : Value) (hd : a.eval d = v) (hs : a.eval s = u) {v' : Value} {w' : World}
    (hr : (Builtin.copy_ #[t, t'] o.type #[v, u]).run P w = .ok v' w') (h : wpList P ops Q rest (a.put o.dst v') w') : wpList P ops Q (o :: rest) a w :=
  wpList_plain hgd fun _ hK => by
    unfold Oper.wp
    simp [execOp, ho, resolve, invoke, builtin, hd, hs, hr, Result.andThen]
    exact hK _ _ h
theorem wp_makeS {ops : Array Oper} {rest : List Oper} {o : Oper} {a : Act} {w : World} {Q : Exit → Act → World → Prop} (hgd : o.guard = none) (l c : Operand) (hop : o.op = Op.makeSlice 53 l c)
    (n : Nat) (h6 : n ≤ 6) (hl : a.eval l = .int .i64 (n : Int)) (hc : a.eval c = .int .i64 (n : Int))
    (h : wpList Go.Proofs.Try.prog ops Q rest (a.put o.dst (.slice (some ⟨w.heap.size, 0, none⟩) n n)) (w.alloc (.cells (madeCells zS (n * 7)) 81))) : wpList Go.Proofs.Try.prog ops Q (o :: rest) a w :=
  wpList_plain hgd fun _ hK => by
    obtain ⟨i, hi, hz, hs, hb⟩ := info_parts info_S
    have hr := run_make (P := Go.Proofs.Try.prog) w 53 81 i _ Go.Proofs.Try.underlying53 hi hz .i64 .i64 ((n : Nat) : Int) ((n : Nat) : Int) (by omega) (Int.le_refl _) (by rw [hb]; omega) (by omega)
    simp only [Int.toNat_natCast, hs] at hr
    unfold Oper.wp
    simp [execOp, hop, hl, hc, hr, Result.andThen]
    exact hK _ _ h
theorem addB (A : Addr) (j : Nat) : (A.add j).block = A.block := by unfold Addr.add; split <;> rfl
def repl (n : Nat) (cs : List Value) : List Value := (List.replicate n cs).flatten
theorem repl_len (n : Nat) (cs : List Value) (h : cs.length = 7) : (repl n cs).length = n * 7 := by simp [repl, h]
theorem repl_add (m k : Nat) (cs : List Value) : repl (m + k) cs = repl m cs ++ repl k cs := by rw [repl, ← List.replicate_append_replicate, List.flatten_append]; rfl
set_option maxHeartbeats 8000000 in
set_option maxRecDepth 100000 in
theorem mul_calls (n : Nat) (h1 : 1 ≤ n) (h6 : n ≤ 6) (w : World) : Calls Go.Proofs.Try.prog 50 #[.int .u64 1, .int .u64 (n : Int)] w fun e w' => e = .returned (.tuple #[.int .u64 0, .int .u64 (n : Int)]) ∧ w' = w := by
  have : n = 1 ∨ n = 2 ∨ n = 3 ∨ n = 4 ∨ n = 5 ∨ n = 6 := by omega
  clear h1 h6
  rcases this with rfl | rfl | rfl | rfl | rfl | rfl
  all_goals
    go_enter Go.Proofs.Try.func50, Go.Proofs.Try.ntmps50
    go_wp2
    go_ret2
    exact ⟨rfl, rfl⟩
set_option maxHeartbeats 8000000 in
set_option maxRecDepth 100000 in
theorem rep_calls (cs : List Value) (hcs : cs.length = 7) (hone : ∀ v ∈ cs, v.oneCell' = true) (A : Addr) (c n : Nat) (h1 : 1 ≤ n) (h6 : n ≤ 6) (w : World) (hsrc : ∀ j v, cs[j]? = some v → w.cell? (A.add j) = some v) (hb : A.block < w.heap.size) :
    Calls Go.Proofs.Try.prog 36 #[.slice (some A) 1 c, .int .i64 (n : Int)] w fun e w' => e = .returned (.slice (some ⟨w.heap.size, 0, none⟩) n n) ∧ w'.heap[w.heap.size]? = some (.cells (repl n cs).toArray 81 (0, 0)) ∧ Below w.heap.size w w' := by
  have hw : IntKind.i64.wrap (n : Int) = (n : Int) := by rw [IntKind.wrap_i64]; omega
  have hu : IntKind.u64.wrap (n : Int) = (n : Int) := by rw [IntKind.wrap_u64]; omega
  have hn0 : ¬ (n : Int) < 0 := by omega
  have hn1 : ¬ (n : Int) > 9223372036854775807 := by omega
  have HS := Aside0.mk hsrc
  have HO := Aside0.mk hone
  have HB := Aside0.mk hb
  clear hsrc hone hb
  go_enter Go.Proofs.Try.func36, Go.Proofs.Try.ntmps36
  have hg0 := Aside0.mk (heap_alloc_new w (.cells (madeCells zS (n * 7)) 81))
  have hs0 := Aside0.mk (show ∀ j v, cs[j]? = some v → (w.alloc (.cells (madeCells zS (n * 7)) 81)).cell? (A.add j) = some v from fun j v h => (World.cell?_of_block (w := w) (by rw [addB]; exact heap_alloc_old w _ HB.out)).trans (HS.out j v h))
  have hr0 := Aside0.mk (run_copyS (w.alloc (.cells (madeCells zS (n * 7)) 81)) 2 w.heap.size 0 n n A 1 c _ _ cs hg0.out (by show cs.length = (min 1 n) * 7; rw [hcs, Nat.min_eq_left h1]) hs0.out (by rw [size_madeCells, hcs]; omega) HO.out)
  have hcs7 := Aside0.mk hcs
  rw [World.setRow_alloc_new] at hr0
  have hZ := Aside0.mk (show ((madeCells zS (n * 7)).toList.drop (0 + cs.length)).length = (n - 1) * 7 by rw [List.length_drop, Array.length_toList, size_madeCells, hcs]; omega)
  generalize (madeCells zS (n * 7)).toList.drop (0 + cs.length) = Z at hr0 hZ
  have hmin : (Nat.min 1 n : Nat) = 1 := Nat.min_eq_left h1
  rw [hmin] at hr0
  clear hmin hcs
  go_wp2_with (first | (go_at_call 50; refine (mul_calls n h1 h6 _).mono ?_; rintro e w1 ⟨rfl, rfl⟩) | (at_make; refine wp_makeS rfl _ _ rfl n h6 rfl rfl ?_) | ((with_reducible refine gate_copy (d := .tmp 31) (s := .tmp 32) (t := 53) (t' := 53) rfl ?_); refine wp_copyS rfl (.tmp 31) (.tmp 32) _ _ rfl _ _ rfl rfl hr0.out ?_))
  have hB0 := Aside0.mk ((Below.refl w1.heap.size w1).alloc (Nat.le_refl _) (.cells (cs ++ Z).toArray 81))
  have hg1 := Aside0.mk (heap_alloc_new w1 (.cells (cs ++ Z).toArray 81))
  clear hg0 hs0 hr0
  generalize w1.alloc (.cells (cs ++ Z).toArray 81) = W1 at *
  have HGG : Aside0 (w1.heap.size = w1.heap.size) := ⟨rfl⟩
  generalize hGG : w1.heap.size = g at HB hB0 hg1 ⊢
  replace HGG : Aside0 (w1.heap.size = g) := ⟨hGG⟩
  clear hGG
  go_loopw [8] (fun i wr => ∃ (m : Nat) (Z : List Value), 1 ≤ m ∧ m ≤ n ∧ i = .int .i64 (m : Int) ∧ Aside0 (Z.length = (n - m) * 7) ∧ Aside0 (wr.heap[g]? = some (.cells (repl m cs ++ Z).toArray 81 (0, 0))) ∧ Aside0 (Below g w1 wr)) (fun i _ => ((n : Int) - intOf i).toNat)
  case atStart => exact ⟨1, Z, Nat.le_refl _, h1, rfl, hZ, ⟨by rw [hg1.out]; simp [repl]⟩, hB0⟩
  case round =>
    obtain ⟨m, Z, hm1, hmn, rfl, JZ, JH, JB⟩ := hrel
    by_cases hlt : m < n
    · obtain ⟨K, hK⟩ : ∃ K, Nat.min m (n - m) = K := ⟨_, rfl⟩
      have hK1 : 1 ≤ K ∧ K ≤ m ∧ K ≤ n - m := by have : min m (n - m) = K := hK; omega
      have hl7 := repl_len m cs hcs7.out
      have hk7 := repl_len K cs hcs7.out
      have hsrc := Aside0.mk (show ∀ j v, (repl K cs)[j]? = some v → wr.drew.cell? ((⟨g, 0, none⟩ : Addr).add j) = some v from fun j v h => by
        rw [Addr.add_plain, cell_of_row _ _ _ _ _ _ (show wr.drew.heap[g]? = _ from JH.out), Nat.zero_add, ← Array.getElem?_toList]
        have hj : j < K * 7 := by rw [← hk7]; exact (List.getElem?_eq_some_iff.1 h).1
        rw [show (repl m cs ++ Z).toArray.toList = repl m cs ++ Z from rfl, show m = K + (m - K) by omega, repl_add, List.append_assoc, List.getElem?_append_left (by rw [hk7]; exact hj)]
        exact h)
      have hon := Aside0.mk (show ∀ v ∈ repl K cs, v.oneCell' = true from fun v hv => by
        obtain ⟨l, hl, hv⟩ := List.mem_flatten.1 hv
        exact HO.out v (List.eq_of_mem_replicate hl ▸ hv))
      have hr1 := Aside0.mk (run_copyS wr.drew 2 g (m * 7) (n - m) (n - m) ⟨g, 0, none⟩ m n _ _ (repl K cs) (show wr.drew.heap[g]? = _ from JH.out) (by rw [hk7, hK]) hsrc.out (by simp [hk7, hl7, JZ.out]; omega) hon.out)
      rw [hK] at hr1
      have hcur : ((repl m cs ++ Z).toArray.toList.take (m * 7) ++ repl K cs ++ (repl m cs ++ Z).toArray.toList.drop (m * 7 + (repl K cs).length)).toArray = (repl (m + K) cs ++ Z.drop (K * 7)).toArray := by
        rw [repl_add, hk7]
        congr 1
        rw [show (repl m cs ++ Z).toArray.toList = repl m cs ++ Z from rfl, List.take_append_of_le_length (by omega), List.take_of_length_le (by omega), List.drop_append, List.drop_eq_nil_of_le (by omega), hl7]
        simp
      rw [hcur] at hr1
      have hnew := Aside0.mk (setRow_heap wr.drew g _ (repl (m + K) cs ++ Z.drop (K * 7)).toArray _ (0, 0) (show wr.drew.heap[g]? = _ from JH.out))
      have hBn := Aside0.mk (show Below g w1 (wr.drew.setRow g (repl (m + K) cs ++ Z.drop (K * 7)).toArray) from JB.out.trans ⟨rfl, rfl, rfl, by show _ ≤ (wr.drew.heap.modify _ _).size; rw [Array.size_modify]; exact Nat.le_refl _, fun k hk => setRow_other wr.drew g k _ (Nat.ne_of_lt hk)⟩)
      have hZn := Aside0.mk (show (Z.drop (K * 7)).length = (n - (m + K)) * 7 by rw [List.length_drop, JZ.out]; omega)
      have hne : ¬ n = m := by omega
      have hm7 : ¬ (n : Int) < (m : Int) := by omega
      have hmw : IntKind.i64.wrap ((m : Int) + (K : Int)) = ((m + K : Nat) : Int) := by rw [IntKind.wrap_i64]; omega
      clear hcur hl7 hk7 hsrc hon hK JZ JH JB
      generalize hW2 : wr.drew.setRow g (repl (m + K) cs ++ Z.drop (K * 7)).toArray = W2 at *
      go_wp2_with fail
      go_region_law (refine step_copyS rfl (.tmp 41) (.tmp 44) 53 53 rfl (.slice (some ⟨g, m * 7, none⟩) (n - m) (n - m)) (.slice (some ⟨g, 0, none⟩) m n) (by simp [Act.eval, Act.put, hne]) (by simp [Act.eval, Act.put]) hr1.out ?_)
      simp only [Act.put, List.getElem_toArray, List.getElem_cons_succ, List.getElem_cons_zero, List.setIfInBounds_toArray, List.set_cons_succ, List.set_cons_zero]
      go_wp2
      go_roundw
      case rel => exact ⟨m + K, Z.drop (K * 7), by omega, by omega, congrArg (Value.int .i64) (by omega), hZn, hnew, hBn⟩
      case measure => simp [intOf]; omega
    · have hmn' : m = n := by omega
      subst hmn'
      have hZ0 : Z = [] := List.length_eq_zero_iff.1 (by rw [JZ.out]; simp)
      subst hZ0
      rw [List.append_nil] at JH
      go_wp2
      go_ret
      rw [HGG.out]
      exact ⟨rfl, JH.out, JB.out⟩
abbrev ps : Sg := [(false, (.slice Tf20b)), (false, (.int .i64))]
abbrev rs : Sg := [(false, (.slice Tf20b))]
abbrev R := Tup rs
def f (k : Nat) (a1 : List Tf20b.T) (a2 : Int) : Option R := if 1 ≤ a2 ∧ a2 ≤ 6 ∧ a1.length = 1 then some (List.replicate a2.toNat (att Tf20b a1 0), ()) else none
noncomputable def S : Spec := ⟨ps, rs, .any, none, fun x r => ∃ k, f k x.1 x.2.1 = some r⟩
theorem rl {k a1 a2 r} (e : f k a1 a2 = some r) : S.rel (a1, a2, ()) r := ⟨k, e⟩
theorem el_rep {α : Type} {R : α → List Value → Prop} {x : α} {cs : List Value} (h : R x cs) : ∀ n, El R (List.replicate n x) (repl n cs)
  | 0 => rfl
  | n + 1 => ⟨cs, repl n cs, by simp [repl, List.replicate_succ], h, el_rep h n⟩
theorem fits : Fits P 36 S := by
  refine ⟨fun args w => ?_, fun x r hrel F w args hF hargs => ?_⟩
  · exact enter_of (c := (Go.Proofs.Try.f36.body).getD .skip) Go.Proofs.Try.func36 (by kernel_rfl) (by decide) args w
  · obtain ⟨k, hk⟩ := hrel
    obtain ⟨a1, a2, u⟩ := x
    dsimp only at hk
    unfold f at hk
    split at hk
    case isFalse => cases hk
    case isTrue hc =>
      obtain ⟨h1, h6, hl⟩ := hc
      obtain rfl := Option.some.inj hk
      obtain ⟨x, rfl⟩ := List.length_eq_one_iff.1 hl
      obtain ⟨n, rfl⟩ := Int.eq_ofNat_of_zero_le (Int.le_trans (by decide) h1)
      match hz : args.toList, hargs with
      | [v1, v2], h =>
        have e : args = #[v1, v2] := by rw [← Array.toArray_toList (xs := args), hz]
        subst e
        have q1 : RepC (E0 F) w v1 (.one (.sl Tf20b [x] .any)) := h.1
        obtain rfl : v2 = .int .i64 (n : Int) := h.2.1
        obtain ⟨A, c, inner, e, hc, ⟨cs, rest, rfl, hx, hr⟩, hm⟩ := q1.1
        obtain rfl : rest = [] := hr
        obtain rfl : v1 = .slice A 1 c := by simpa using e
        rw [List.append_nil] at hm
        have hcs : cs.length = 7 := hx.len
        obtain ⟨b, o, rfl, hb, _⟩ := hm 0 _ (List.getElem?_eq_getElem (by omega))
        refine (rep_calls cs hcs hx.one ⟨b, o, none⟩ c n (by omega) (by omega) w (fun j v hj => ?_) (hF.1 b hb)).mono ?_
        · obtain ⟨b', o', e', _, hv⟩ := hm j v hj
          cases e'
          rw [Addr.add_plain]
          exact hv
        · rintro e w' ⟨rfl, hh, hB⟩
          refine ⟨_, rfl, hB, fun b => F b ∨ w.heap.size ≤ b ∧ b < w'.heap.size, fun _ h => .inl h, fun _ h => h.imp id And.left, fun b h => h.elim (fun h => Nat.lt_of_lt_of_le (hF.1 b h) hB.size) And.right, ?_⟩
          have hlt := (Array.getElem?_eq_some_iff.1 hh).1
          refine ⟨⟨some ⟨w.heap.size, 0, none⟩, n, repl n cs, ?_, ?_, el_rep (hx.step (fun _ h => .inl h) (fun b hb => hB.block b (hF.1 b hb))) _, fun j u hj => ⟨w.heap.size, 0, rfl, .inr ⟨Nat.le_refl _, hlt⟩, ?_⟩⟩, trivial⟩
          · simp
          · simp
          · rw [cell_of_row _ _ _ _ _ _ hh, Nat.zero_add]
            simpa using hj
end f_slices_Repeat_Switch

/-! ### function 20, wayfinder/fabric.New -/
namespace f_fabric_New
noncomputable def c0 : Code := (Go.Proofs.Try.f20.body).getD .skip
abbrev ps : Sg := [(true, T5477)]
abbrev rs : Sg := [(true, T64e3)]
noncomputable def V : Env := { tt := tt, Γ := slk [(34, f_topo_May.S), (35, f_control_New.S), (36, f_slices_Repeat_Switch.S), (37, f_agent_New.S)] }
theorem V_ok : EnvOk P V := { ck := tt_ck, fits := slk_cons f_topo_May.fits (slk_cons f_control_New.fits (slk_cons f_slices_Repeat_Switch.fits (slk_cons f_agent_New.fits (slk_nil)))), mixed := mixed }
abbrev R := Tup rs
noncomputable abbrev Q (r : R) : Exit → St → Prop := Qr tt Go.Proofs.Try.f20.results ⟨ps, rs, .any, none, fun _ _ => True⟩ r
noncomputable def f (k : Nat) (a1 : T5477.T) : Option R :=
  (f_topo_May.f k a1).bind fun y1 =>
    if (!y1.1) = true then
      some ((([], (0, (0, (0, (0, (0, (0, ([], ([], ([], ([], ([], 0)))))))))))), ([], ([], ([], ([], 0))))), ())
    else
      (f_control_New.f k a1).bind fun y4 =>
        (f_agent_New.f k).bind fun y5 =>
          (f_slices_Repeat_Switch.f k [y5.1] a1.1).bind fun y6 =>
            some ((y4.1, (y6.1, ([], ([], ([], 0))))), ())
noncomputable def S : Spec := ⟨ps, rs, .any, none, fun x r => ∃ k, f k x.1 = some r⟩
theorem rl {k a1 r} (e : f k a1 = some r) : S.rel (a1, ()) r := ⟨k, e⟩
theorem f_ok {r k a1} (H : f k a1 = some r) : Gw P 0 (Q r) (Px c0 1 []) (⟨15, [(0, .cv (.agg (encC .any T5477 a1)))], []⟩) := by
  unfold f at H
  refine Rg V_ok 2 [(0, hb 0), (1, hb 1)] az ?_
  obtain ⟨y1, e2, H⟩ := of_bind H
  refine Rg V_ok 0 [(1, hr f_topo_May.S y1)] (ac (f_topo_May.rl e2) az) ?_
  rcases of_ite H with ⟨hb3, H⟩ | ⟨hb3, H⟩
  · refine C1 hb3 ?_
    refine Rg V_ok 0 [] az ?_
    exact Lf (Eq.trans (by kernel_rfl) H)
  · refine C0 hb3 ?_
    obtain ⟨y4, e7, H⟩ := of_bind H
    obtain ⟨y5, e8, H⟩ := of_bind H
    obtain ⟨y6, e9, H⟩ := of_bind H
    refine Rg V_ok 0 [(1, hr f_control_New.S y4), (2, hr f_agent_New.S y5), (6, hr f_slices_Repeat_Switch.S y6)] (ac (f_control_New.rl e7) (ac (f_agent_New.rl e8) (ac (f_slices_Repeat_Switch.rl e9) az))) ?_
    exact Lf (Eq.trans (by kernel_rfl) H)
theorem fits : Fits P 20 S := fits_of V_ok Go.Proofs.Try.func20 (by kernel_rfl) (by decide) (by decide) rfl (fun x r ⟨k, H⟩ => of_G (f_ok H))
end f_fabric_New
/-! ### function 89, wayfinder/bits.May -/
namespace f_bits_May
noncomputable def c0 : Code := (Go.Proofs.Try.f89.body).getD .skip
abbrev ps : Sg := [(true, T713d)]
abbrev rs : Sg := [(false, .bool)]
noncomputable def V : Env := { tt := tt, Γ := slk [(99, f_bits_Mask.S)] }
theorem V_ok : EnvOk P V := { ck := tt_ck, fits := slk_cons f_bits_Mask.fits (slk_nil), mixed := mixed }
abbrev R := Tup rs
noncomputable abbrev Q (r : R) : Exit → St → Prop := Qr tt Go.Proofs.Try.f89.results ⟨ps, rs, .any, none, fun _ _ => True⟩ r
noncomputable def f (k : Nat) (a1 : T713d.T) : Option R :=
  if (decide (a1.2 ≥ (0 : Int))) = true then
    if (decide (a1.2 ≤ (32 : Int))) = true then
      if (decide (a1.1 ≥ (0 : Int))) = true then
        if (decide (a1.1 ≤ (4294967295 : Int))) = true then
          (f_bits_Mask.f k a1.2).bind fun y1 =>
            some (((IntKind.i64.wrap (((BitVec.ofInt IntKind.i64.bits a1.1 &&& ~~~ BitVec.ofInt IntKind.i64.bits y1.1).toNat : Int))) == (0 : Int)), ())
        else
          some (false, ())
      else
        some (false, ())
    else
      some (false, ())
  else
    some (false, ())
noncomputable def S : Spec := ⟨ps, rs, .any, none, fun x r => ∃ k, f k x.1 = some r⟩
theorem rl {k a1 r} (e : f k a1 = some r) : S.rel (a1, ()) r := ⟨k, e⟩
theorem f_ok {r k a1} (H : f k a1 = some r) : Gw P 0 (Q r) (Px c0 1 []) (⟨30, [(0, .cv (.agg [.i a1.1, .i a1.2]))], []⟩) := by
  unfold f at H
  refine Rg V_ok 1 [(0, hb 0)] az ?_
  rcases of_ite H with ⟨hb2, H⟩ | ⟨hb2, H⟩
  · rcases of_ite H with ⟨hb3, H⟩ | ⟨hb3, H⟩
    · rcases of_ite H with ⟨hb4, H⟩ | ⟨hb4, H⟩
      · rcases of_ite H with ⟨hb5, H⟩ | ⟨hb5, H⟩
        · obtain ⟨y1, e6, H⟩ := of_bind H
          refine Rg V_ok 0 [(2, {bv := some true}), (7, {bv := some true}), (12, {bv := some true}), (17, {bv := some true}), (23, hr f_bits_Mask.S y1)] (ac hb2 (ac hb3 (ac hb4 (ac hb5 (ac (f_bits_Mask.rl e6) az))))) ?_
          exact Lf (Eq.trans (by kernel_rfl) H)
        · refine Rg V_ok 0 [(2, {bv := some true}), (7, {bv := some true}), (12, {bv := some true}), (17, {bv := some false})] (ac hb2 (ac hb3 (ac hb4 (ac hb5 az)))) ?_
          exact Lf (Eq.trans (by kernel_rfl) H)
      · refine Rg V_ok 0 [(2, {bv := some true}), (7, {bv := some true}), (12, {bv := some false})] (ac hb2 (ac hb3 (ac hb4 az))) ?_
        exact Lf (Eq.trans (by kernel_rfl) H)
    · refine Rg V_ok 0 [(2, {bv := some true}), (7, {bv := some false})] (ac hb2 (ac hb3 az)) ?_
      exact Lf (Eq.trans (by kernel_rfl) H)
  · refine Rg V_ok 0 [(2, {bv := some false})] (ac hb2 az) ?_
    exact Lf (Eq.trans (by kernel_rfl) H)
theorem fits : Fits P 89 S := fits_of V_ok Go.Proofs.Try.func89 (by kernel_rfl) (by decide) (by decide) rfl (fun x r ⟨k, H⟩ => of_G (f_ok H))
end f_bits_May
/-! ### function 77, wayfinder/rule.May -/
namespace f_rule_May
noncomputable def c0 : Code := (Go.Proofs.Try.f77.body).getD .skip
abbrev ps : Sg := [(true, T1383)]
abbrev rs : Sg := [(false, .bool)]
noncomputable def V : Env := { tt := tt, Γ := slk [(89, f_bits_May.S)] }
theorem V_ok : EnvOk P V := { ck := tt_ck, fits := slk_cons f_bits_May.fits (slk_nil), mixed := mixed }
abbrev R := Tup rs
noncomputable abbrev Q (r : R) : Exit → St → Prop := Qr tt Go.Proofs.Try.f77.results ⟨ps, rs, .any, none, fun _ _ => True⟩ r
noncomputable def s1 (p1 : Bool) (p2 : T1383.T) : St := ⟨52, [(1, .cv (.one (.ptr 0 0))), (3, .cv (.one (.bool p1)))], [(.box 6, (encC .any T1383 p2))]⟩
noncomputable def j1 (k : Nat) (p1 : Bool) (p2 : T1383.T) : Option R :=
  if p1 = true then
  (f_bits_May.f k p2.1).bind fun y2 =>
    if y2.1 = true then
      if (decide (p2.2.1 ≥ (-1 : Int))) = true then
        if (decide (p2.2.1 ≤ (7 : Int))) = true then
          if (decide (p2.2.2.1 ≥ (0 : Int))) = true then
            some ((decide (p2.2.2.1 ≤ (255 : Int))), ())
          else
            some (false, ())
        else
          some (false, ())
      else
        some (false, ())
    else
      some (false, ())
else
  some (false, ())
theorem j1_ok {r} {k p1 p2} (H : j1 k p1 p2 = some r) : Gw P 0 (Q r) (Px c0 7 []) (s1 p1 p2) := by
  unfold j1 at H
  rcases of_ite H with ⟨hb3, H⟩ | ⟨hb3, H⟩
  · obtain ⟨y2, e4, H⟩ := of_bind H
    rcases of_ite H with ⟨hb5, H⟩ | ⟨hb5, H⟩
    · rcases of_ite H with ⟨hb6, H⟩ | ⟨hb6, H⟩
      · rcases of_ite H with ⟨hb7, H⟩ | ⟨hb7, H⟩
        · rcases of_ite H with ⟨hb8, H⟩ | ⟨hb8, H⟩
          · refine Rg V_ok 0 [(0, {bv := some true}), (4, hr f_bits_May.S y2), (5, {bv := some true}), (10, {bv := some true}), (15, {bv := some true}), (20, {bv := some true})] (ac hb3 (ac (f_bits_May.rl e4) (ac hb5 (ac hb6 (ac hb7 (ac hb8 az)))))) ?_
            exact Lf (Eq.trans (by kernel_rfl) H)
          · refine Rg V_ok 0 [(0, {bv := some true}), (4, hr f_bits_May.S y2), (5, {bv := some true}), (10, {bv := some true}), (15, {bv := some true}), (20, {bv := some false})] (ac hb3 (ac (f_bits_May.rl e4) (ac hb5 (ac hb6 (ac hb7 (ac hb8 az)))))) ?_
            exact Lf (Eq.trans (by kernel_rfl) H)
        · refine Rg V_ok 0 [(0, {bv := some true}), (4, hr f_bits_May.S y2), (5, {bv := some true}), (10, {bv := some true}), (15, {bv := some false})] (ac hb3 (ac (f_bits_May.rl e4) (ac hb5 (ac hb6 (ac hb7 az))))) ?_
          exact Lf (Eq.trans (by kernel_rfl) H)
      · refine Rg V_ok 0 [(0, {bv := some true}), (4, hr f_bits_May.S y2), (5, {bv := some true}), (10, {bv := some false})] (ac hb3 (ac (f_bits_May.rl e4) (ac hb5 (ac hb6 az)))) ?_
        exact Lf (Eq.trans (by kernel_rfl) H)
    · refine Rg V_ok 0 [(0, {bv := some true}), (4, hr f_bits_May.S y2), (5, {bv := some false})] (ac hb3 (ac (f_bits_May.rl e4) (ac hb5 az))) ?_
      exact Lf (Eq.trans (by kernel_rfl) H)
  · refine Rg V_ok 0 [(0, {bv := some false})] (ac hb3 az) ?_
    exact Lf (Eq.trans (by kernel_rfl) H)
noncomputable def f (k : Nat) (a1 : T1383.T) : Option R :=
  if ((a1.2.2.2.1 == (0 : Int)) && ((a1.2.2.2.2 == (0 : Int)) && true)) = true then
    j1 k true a1
  else
    if (a1.2.2.2.1 == (1 : Int)) = true then
      if (decide (a1.2.2.2.2 ≥ (0 : Int))) = true then
        j1 k (decide (a1.2.2.2.2 ≤ (7 : Int))) a1
      else
        j1 k false a1
    else
      j1 k false a1
noncomputable def S : Spec := ⟨ps, rs, .any, none, fun x r => ∃ k, f k x.1 = some r⟩
theorem rl {k a1 r} (e : f k a1 = some r) : S.rel (a1, ()) r := ⟨k, e⟩
theorem f_ok {r k a1} (H : f k a1 = some r) : Gw P 0 (Q r) (Px c0 1 []) (⟨52, [(0, .cv (.agg (encC .any T1383 a1)))], []⟩) := by
  unfold f at H
  refine Rg V_ok 1 [(0, hb 0)] az ?_
  rcases of_ite H with ⟨hb1, H⟩ | ⟨hb1, H⟩
  · refine Rg V_ok 0 [(3, {bv := some true})] (ac hb1 az) ?_
    exact Jm (tn [1, 3] 1) (j1_ok H)
  · rcases of_ite H with ⟨hb9, H⟩ | ⟨hb9, H⟩
    · rcases of_ite H with ⟨hb10, H⟩ | ⟨hb10, H⟩
      · refine Rg V_ok 0 [(3, {bv := some false}), (8, {bv := some true}), (14, {bv := some true})] (ac hb1 (ac hb9 (ac hb10 az))) ?_
        exact Jm (tn [1, 3] 1) (j1_ok H)
      · refine Rg V_ok 0 [(3, {bv := some false}), (8, {bv := some true}), (14, {bv := some false})] (ac hb1 (ac hb9 (ac hb10 az))) ?_
        exact Jm (tn [1, 3] 1) (j1_ok H)
    · refine Rg V_ok 0 [(3, {bv := some false}), (8, {bv := some false})] (ac hb1 (ac hb9 az)) ?_
      exact Jm (tn [1, 3] 1) (j1_ok H)
theorem fits : Fits P 77 S := fits_of V_ok Go.Proofs.Try.func77 (by kernel_rfl) (by decide) (by decide) rfl (fun x r ⟨k, H⟩ => of_G (f_ok H))
end f_rule_May
/-! ### function 90, wayfinder/octets.may -/
namespace f_octets_may
noncomputable def c0 : Code := (Go.Proofs.Try.f90.body).getD .skip
abbrev ps : Sg := [(false, (.int .i64))]
abbrev rs : Sg := [(false, .bool)]
noncomputable def V : Env := { tt := tt, Γ := slk [] }
theorem V_ok : EnvOk P V := { ck := tt_ck, fits := slk_nil, mixed := mixed }
abbrev R := Tup rs
noncomputable abbrev Q (r : R) : Exit → St → Prop := Qr tt Go.Proofs.Try.f90.results ⟨ps, rs, .any, none, fun _ _ => True⟩ r
noncomputable def f (k : Nat) (a1 : Int) : Option R :=
  if (decide (a1 ≥ (1 : Int))) = true then
    some ((decide (a1 ≤ (4 : Int))), ())
  else
    some (false, ())
noncomputable def S : Spec := ⟨ps, rs, .any, none, fun x r => ∃ k, f k x.1 = some r⟩
theorem rl {k a1 r} (e : f k a1 = some r) : S.rel (a1, ()) r := ⟨k, e⟩
theorem f_ok {r k a1} (H : f k a1 = some r) : Gw P 0 (Q r) (Px c0 1 []) (⟨9, [(0, .cv (.one (.i a1)))], []⟩) := by
  unfold f at H
  refine Rg V_ok 0 [] az ?_
  rcases of_ite H with ⟨hb1, H⟩ | ⟨hb1, H⟩
  · refine Rg V_ok 0 [(1, {bv := some true})] (ac hb1 az) ?_
    exact Lf (Eq.trans (by kernel_rfl) H)
  · refine Rg V_ok 0 [(1, {bv := some false})] (ac hb1 az) ?_
    exact Lf (Eq.trans (by kernel_rfl) H)
theorem fits : Fits P 90 S := fits_of V_ok Go.Proofs.Try.func90 (by kernel_rfl) (by decide) (by decide) rfl (fun x r ⟨k, H⟩ => of_G (f_ok H))
end f_octets_may
/-! ### function 78, wayfinder/octets.Put -/
namespace f_octets_Put
noncomputable def c0 : Code := (Go.Proofs.Try.f78.body).getD .skip
abbrev ps : Sg := [(false, (.int .i64)), (false, (.int .i64))]
abbrev rs : Sg := [(false, (.slice (.int .u8))), (false, (.int .i64))]
noncomputable def V : Env := { tt := tt, Γ := slk [(90, f_octets_may.S)] }
theorem V_ok : EnvOk P V := { ck := tt_ck, fits := slk_cons f_octets_may.fits (slk_nil), mixed := mixed }
abbrev R := Tup rs
noncomputable abbrev Q (r : R) : Exit → St → Prop := Qr tt Go.Proofs.Try.f78.results ⟨ps, rs, .any, none, fun _ _ => True⟩ r
noncomputable def s1 (p1 p2 : Int) (p3 : Bool) : St := ⟨42, [(0, .cv (.one (.i p1))), (1, .cv (.one (.i p2))), (21, .cv (.one (.bool p3)))], []⟩
noncomputable def s2 (p1 p2 p3 p4 : Int) (p5 : List Int) : St := ⟨42, [(0, .cv (.one (.i p1))), (1, .cv (.one (.i p2))), (6, .cv (.one (.own 0))), (25, .cv (.one (.i p3))), (26, .cv (.one (.i p4)))], [(.buf 5 (.int .u8) p5, [])]⟩
noncomputable def b2 (L2 : Int → Int → Int → Int → List Int → Option R) (k : Nat) (p1 p2 p3 p4 : Int) (p5 : List Int) : Option R :=
  if (decide (p4 < p3)) = true then
  if 0 ≤ (IntKind.i64.wrap (8 * (IntKind.i64.wrap ((IntKind.i64.wrap (p2 - 1)) - p4)))) then
    if 0 ≤ p4 then
      if p4 < (p5.length : Int) then
        L2 p1 p2 p3 (IntKind.i64.wrap (p4 + 1)) (p5.set p4.toNat (IntKind.u8.wrap (Int.fdiv p1 (2 ^ (min (IntKind.i64.wrap (8 * (IntKind.i64.wrap ((IntKind.i64.wrap (p2 - 1)) - p4)))).toNat (IntKind.i64.bits))))))
      else none
    else none
  else none
else
  some (p5, ((0 : Int), ()))
theorem b2_ok {r} {L2 : Int → Int → Int → Int → List Int → Option R} {m2 : Nat} (hL2 : ∀ p1 p2 p3 p4 p5, L2 p1 p2 p3 p4 p5 = some r → Gw P 0 (Q r) (Pb c0 87 [] m2) (s2 p1 p2 p3 p4 p5)) {k p1 p2 p3 p4 p5} (H : b2 L2 k p1 p2 p3 p4 p5 = some r) : Gw P 0 (Q r) (Px c0 151 [m2]) (s2 p1 p2 p3 p4 p5) := by
  unfold b2 at H
  refine Rg V_ok 0 [] az ?_
  rcases of_ite H with ⟨hb6, H⟩ | ⟨hb6, H⟩
  · refine C1 hb6 ?_
    refine Rg V_ok 0 [] az ?_
    obtain ⟨n7, H⟩ := of_if H
    obtain ⟨n8, H⟩ := of_if H
    obtain ⟨n9, H⟩ := of_if H
    refine Rg V_ok 0 [] (ac n7 (ac n8 (ac n9 az))) ?_
    refine Rg V_ok 0 [] az ?_
    exact Jm (tn [0, 1, 6, 25, 26] 1) (hL2 p1 p2 p3 (IntKind.i64.wrap (p4 + 1)) (p5.set p4.toNat (IntKind.u8.wrap (Int.fdiv p1 (2 ^ (min (IntKind.i64.wrap (8 * (IntKind.i64.wrap ((IntKind.i64.wrap (p2 - 1)) - p4)))).toNat (IntKind.i64.bits)))))) H)
  · refine C0 hb6 ?_
    refine Rg V_ok 0 [] az ?_
    exact Lf (Eq.trans (by kernel_rfl) H)
noncomputable def l2 (k : Nat) : Nat → Int → Int → Int → Int → List Int → Option R
  | 0, _, _, _, _, _ => none
  | m + 1, p1, p2, p3, p4, p5 => b2 (l2 k m) k p1 p2 p3 p4 p5
theorem l2_ok {r} (k : Nat) : ∀ (m2 : Nat) (p1 p2 p3 p4 : Int) (p5 : List Int), l2 k m2 p1 p2 p3 p4 p5 = some r → Gw P 0 (Q r) (Pb c0 87 [] m2) (s2 p1 p2 p3 p4 p5)
  | 0, _, _, _, _, _, H => by cases H
  | m2 + 1, p1, p2, p3, p4, p5, H => SU (by kernel_rfl) (b2_ok (l2_ok k m2) H)
noncomputable def j1 (k : Nat) (p1 p2 : Int) (p3 : Bool) : Option R :=
  if p3 = true then
  some ([], ((1 : Int), ()))
else
  if 0 ≤ p2 ∧ p2 = p2 ∧ (1 : Int) * p2 ≤ 140737488355328 ∧ p2 ≤ 140737488355328 then
    l2 k k p1 p2 ((List.replicate p2.toNat (0 : Int)).length : Int) 0 (List.replicate p2.toNat (0 : Int))
  else none
theorem j1_ok {r} {k p1 p2 p3} (H : j1 k p1 p2 p3 = some r) : Gw P 0 (Q r) (Px c0 13 []) (s1 p1 p2 p3) := by
  unfold j1 at H
  rcases of_ite H with ⟨hb4, H⟩ | ⟨hb4, H⟩
  · refine C1 hb4 ?_
    refine Rg V_ok 0 [] az ?_
    exact Lf (Eq.trans (by kernel_rfl) H)
  · refine C0 hb4 ?_
    obtain ⟨n5, H⟩ := of_if H
    refine Rg V_ok 1 [(1, hb 0)] (ac n5 az) ?_
    refine Rg V_ok 0 [] az ?_
    exact LP k (Jm (tn [0, 1, 6, 25, 26] 1) (l2_ok k k p1 p2 ((List.replicate p2.toNat (0 : Int)).length : Int) 0 (List.replicate p2.toNat (0 : Int)) H))
noncomputable def f (k : Nat) (a1 a2 : Int) : Option R :=
  (f_octets_may.f k a2).bind fun y1 =>
    if (!y1.1) = true then
      j1 k a1 a2 true
    else
      if (decide (a1 < (0 : Int))) = true then
        j1 k a1 a2 true
      else
        if 0 ≤ (IntKind.i64.wrap (8 * a2)) then
          j1 k a1 a2 ((Int.fdiv a1 (2 ^ (min (IntKind.i64.wrap (8 * a2)).toNat (IntKind.i64.bits)))) != (0 : Int))
        else none
noncomputable def S : Spec := ⟨ps, rs, .any, none, fun x r => ∃ k, f k x.1 x.2.1 = some r⟩
theorem rl {k a1 a2 r} (e : f k a1 a2 = some r) : S.rel (a1, a2, ()) r := ⟨k, e⟩
theorem f_ok {r k a1 a2} (H : f k a1 a2 = some r) : Gw P 0 (Q r) (Px c0 1 []) (⟨42, [(0, .cv (.one (.i a1))), (1, .cv (.one (.i a2)))], []⟩) := by
  unfold f at H
  refine Rg V_ok 0 [] az ?_
  obtain ⟨y1, e2, H⟩ := of_bind H
  rcases of_ite H with ⟨hb3, H⟩ | ⟨hb3, H⟩
  · refine Rg V_ok 0 [(1, hr f_octets_may.S y1), (2, {bv := some true})] (ac (f_octets_may.rl e2) (ac hb3 az)) ?_
    exact Jm (tn [0, 1, 21] 0) (j1_ok H)
  · rcases of_ite H with ⟨hb10, H⟩ | ⟨hb10, H⟩
    · refine Rg V_ok 0 [(1, hr f_octets_may.S y1), (2, {bv := some false}), (6, {bv := some true})] (ac (f_octets_may.rl e2) (ac hb3 (ac hb10 az))) ?_
      exact Jm (tn [0, 1, 21] 0) (j1_ok H)
    · obtain ⟨n11, H⟩ := of_if H
      refine Rg V_ok 0 [(1, hr f_octets_may.S y1), (2, {bv := some false}), (6, {bv := some false})] (ac (f_octets_may.rl e2) (ac hb3 (ac hb10 (ac n11 az)))) ?_
      exact Jm (tn [0, 1, 21] 0) (j1_ok H)
theorem fits : Fits P 78 S := fits_of V_ok Go.Proofs.Try.func78 (by kernel_rfl) (by decide) (by decide) rfl (fun x r ⟨k, H⟩ => of_G (f_ok H))
end f_octets_Put
/-! ### function 78, wayfinder/octets.Put, whose answer is then the caller's own -/
namespace f_octets_PutO
noncomputable def c0 : Code := (Go.Proofs.Try.f78.body).getD .skip
abbrev ps : Sg := [(false, (.int .i64)), (false, (.int .i64))]
abbrev rs : Sg := [(false, .slice (.int .u8)), (false, .int .i64)]
noncomputable def V : Env := { tt := tt, Γ := slk [(90, f_octets_may.S)] }
theorem V_ok : EnvOk P V := { ck := tt_ck, fits := slk_cons f_octets_may.fits (slk_nil), mixed := mixed }
abbrev R := Tup rs
noncomputable abbrev Q (r : R) : Exit → St → Prop := QrO2 Go.Proofs.Try.f78.results 5 (.int .u8) .i64 r
noncomputable def s1 (p1 p2 : Int) (p3 : Bool) : St := ⟨42, [(0, .cv (.one (.i p1))), (1, .cv (.one (.i p2))), (21, .cv (.one (.bool p3)))], []⟩
noncomputable def s2 (p1 p2 p3 p4 : Int) (p5 : List Int) : St := ⟨42, [(0, .cv (.one (.i p1))), (1, .cv (.one (.i p2))), (6, .cv (.one (.own 0))), (25, .cv (.one (.i p3))), (26, .cv (.one (.i p4)))], [(.buf 5 (.int .u8) p5, [])]⟩
noncomputable def b2 (L2 : Int → Int → Int → Int → List Int → Option R) (k : Nat) (p1 p2 p3 p4 : Int) (p5 : List Int) : Option R :=
  if (decide (p4 < p3)) = true then
  if 0 ≤ (IntKind.i64.wrap (8 * (IntKind.i64.wrap ((IntKind.i64.wrap (p2 - 1)) - p4)))) then
    if 0 ≤ p4 then
      if p4 < (p5.length : Int) then
        L2 p1 p2 p3 (IntKind.i64.wrap (p4 + 1)) (p5.set p4.toNat (IntKind.u8.wrap (Int.fdiv p1 (2 ^ (min (IntKind.i64.wrap (8 * (IntKind.i64.wrap ((IntKind.i64.wrap (p2 - 1)) - p4)))).toNat (IntKind.i64.bits))))))
      else none
    else none
  else none
else
  some (p5, ((0 : Int), ()))
theorem b2_ok {r} {L2 : Int → Int → Int → Int → List Int → Option R} {m2 : Nat} (hL2 : ∀ p1 p2 p3 p4 p5, L2 p1 p2 p3 p4 p5 = some r → Gw P 0 (Q r) (Pb c0 87 [] m2) (s2 p1 p2 p3 p4 p5)) {k p1 p2 p3 p4 p5} (H : b2 L2 k p1 p2 p3 p4 p5 = some r) : Gw P 0 (Q r) (Px c0 151 [m2]) (s2 p1 p2 p3 p4 p5) := by
  unfold b2 at H
  refine Rg V_ok 0 [] az ?_
  rcases of_ite H with ⟨hb6, H⟩ | ⟨hb6, H⟩
  · refine C1 hb6 ?_
    refine Rg V_ok 0 [] az ?_
    obtain ⟨n7, H⟩ := of_if H
    obtain ⟨n8, H⟩ := of_if H
    obtain ⟨n9, H⟩ := of_if H
    refine Rg V_ok 0 [] (ac n7 (ac n8 (ac n9 az))) ?_
    refine Rg V_ok 0 [] az ?_
    exact Jm (tn [0, 1, 6, 25, 26] 1) (hL2 p1 p2 p3 (IntKind.i64.wrap (p4 + 1)) (p5.set p4.toNat (IntKind.u8.wrap (Int.fdiv p1 (2 ^ (min (IntKind.i64.wrap (8 * (IntKind.i64.wrap ((IntKind.i64.wrap (p2 - 1)) - p4)))).toNat (IntKind.i64.bits)))))) H)
  · refine C0 hb6 ?_
    refine Rg V_ok 0 [] az ?_
    obtain rfl := Option.some.inj H
    exact LfO2 (by kernel_rfl)
noncomputable def l2 (k : Nat) : Nat → Int → Int → Int → Int → List Int → Option R
  | 0, _, _, _, _, _ => none
  | m + 1, p1, p2, p3, p4, p5 => b2 (l2 k m) k p1 p2 p3 p4 p5
theorem l2_ok {r} (k : Nat) : ∀ (m2 : Nat) (p1 p2 p3 p4 : Int) (p5 : List Int), l2 k m2 p1 p2 p3 p4 p5 = some r → Gw P 0 (Q r) (Pb c0 87 [] m2) (s2 p1 p2 p3 p4 p5)
  | 0, _, _, _, _, _, H => by cases H
  | m2 + 1, p1, p2, p3, p4, p5, H => SU (by kernel_rfl) (b2_ok (l2_ok k m2) H)
noncomputable def j1 (k : Nat) (p1 p2 : Int) (p3 : Bool) : Option R :=
  if p3 = true then
  some ([], ((1 : Int), ()))
else
  if 0 ≤ p2 ∧ p2 = p2 ∧ (1 : Int) * p2 ≤ 140737488355328 ∧ p2 ≤ 140737488355328 then
    l2 k k p1 p2 ((List.replicate p2.toNat (0 : Int)).length : Int) 0 (List.replicate p2.toNat (0 : Int))
  else none
theorem j1_ok {r} {k p1 p2 p3} (H : j1 k p1 p2 p3 = some r) : Gw P 0 (Q r) (Px c0 13 []) (s1 p1 p2 p3) := by
  unfold j1 at H
  rcases of_ite H with ⟨hb4, H⟩ | ⟨hb4, H⟩
  · refine C1 hb4 ?_
    refine Rg V_ok 0 [] az ?_
    refine GT {gr := 1, ad := [.ownT 4 0 5 (.int .u8)], live := [4, 5], src := [some 0]} ?_
    obtain rfl := Option.some.inj H
    exact LfO2 (by kernel_rfl)
  · refine C0 hb4 ?_
    obtain ⟨n5, H⟩ := of_if H
    refine Rg V_ok 1 [(1, hb 0)] (ac n5 az) ?_
    refine Rg V_ok 0 [] az ?_
    exact LP k (Jm (tn [0, 1, 6, 25, 26] 1) (l2_ok k k p1 p2 ((List.replicate p2.toNat (0 : Int)).length : Int) 0 (List.replicate p2.toNat (0 : Int)) H))
noncomputable def f (k : Nat) (a1 a2 : Int) : Option R :=
  (f_octets_may.f k a2).bind fun y1 =>
    if (!y1.1) = true then
      j1 k a1 a2 true
    else
      if (decide (a1 < (0 : Int))) = true then
        j1 k a1 a2 true
      else
        if 0 ≤ (IntKind.i64.wrap (8 * a2)) then
          j1 k a1 a2 ((Int.fdiv a1 (2 ^ (min (IntKind.i64.wrap (8 * a2)).toNat (IntKind.i64.bits)))) != (0 : Int))
        else none
noncomputable def S : Spec := ⟨ps, rs, .any, some 5, fun x r => ∃ k, f k x.1 x.2.1 = some r⟩
theorem rl {k a1 a2 r} (e : f k a1 a2 = some r) : S.rel (a1, a2, ()) r := ⟨k, e⟩
theorem f_ok {r k a1 a2} (H : f k a1 a2 = some r) : Gw P 0 (Q r) (Px c0 1 []) (⟨42, [(0, .cv (.one (.i a1))), (1, .cv (.one (.i a2)))], []⟩) := by
  unfold f at H
  refine Rg V_ok 0 [] az ?_
  obtain ⟨y1, e2, H⟩ := of_bind H
  rcases of_ite H with ⟨hb3, H⟩ | ⟨hb3, H⟩
  · refine Rg V_ok 0 [(1, hr f_octets_may.S y1), (2, {bv := some true})] (ac (f_octets_may.rl e2) (ac hb3 az)) ?_
    exact Jm (tn [0, 1, 21] 0) (j1_ok H)
  · rcases of_ite H with ⟨hb10, H⟩ | ⟨hb10, H⟩
    · refine Rg V_ok 0 [(1, hr f_octets_may.S y1), (2, {bv := some false}), (6, {bv := some true})] (ac (f_octets_may.rl e2) (ac hb3 (ac hb10 az))) ?_
      exact Jm (tn [0, 1, 21] 0) (j1_ok H)
    · obtain ⟨n11, H⟩ := of_if H
      refine Rg V_ok 0 [(1, hr f_octets_may.S y1), (2, {bv := some false}), (6, {bv := some false})] (ac (f_octets_may.rl e2) (ac hb3 (ac hb10 (ac n11 az)))) ?_
      exact Jm (tn [0, 1, 21] 0) (j1_ok H)
theorem fits : Fits P 78 S := fits_ofO2 V_ok Go.Proofs.Try.func78 (by kernel_rfl) (by decide) (by decide) (fun x r ⟨k, H⟩ => of_G (f_ok H))
end f_octets_PutO
/-! ### function 59, wayfinder/rule.Put -/
namespace f_rule_Put
noncomputable def c0 : Code := (Go.Proofs.Try.f59.body).getD .skip
abbrev ps : Sg := [(true, T1383)]
abbrev rs : Sg := [(false, (.slice (.int .u8))), (false, (.int .i64))]
noncomputable def V : Env := { tt := tt, Γ := slk [(77, f_rule_May.S), (78, f_octets_PutO.S)] }
theorem V_ok : EnvOk P V := { ck := tt_ck, fits := slk_cons f_rule_May.fits (slk_cons f_octets_PutO.fits (slk_nil)), mixed := mixed }
abbrev R := Tup rs
noncomputable abbrev Q (r : R) : Exit → St → Prop := Qr tt Go.Proofs.Try.f59.results ⟨ps, rs, .any, none, fun _ _ => True⟩ r
noncomputable def f (k : Nat) (a1 : T1383.T) : Option R :=
  (f_rule_May.f k a1).bind fun y1 =>
    if (!y1.1) = true then
      some ([], ((1 : Int), ()))
    else
      (f_octets_PutO.f k a1.1.1 (4 : Int)).bind fun y4 =>
        if (y4.1.length + 5) * 1 ≤ 140737488355328 then
          some ((y4.1 ++ [(IntKind.u8.wrap a1.1.2), (IntKind.u8.wrap (IntKind.i64.wrap (a1.2.1 + 1))), (IntKind.u8.wrap a1.2.2.1), (IntKind.u8.wrap a1.2.2.2.1), (IntKind.u8.wrap a1.2.2.2.2)]), (y4.2.1, ()))
        else none
noncomputable def S : Spec := ⟨ps, rs, .any, none, fun x r => ∃ k, f k x.1 = some r⟩
theorem rl {k a1 r} (e : f k a1 = some r) : S.rel (a1, ()) r := ⟨k, e⟩
theorem f_ok {r k a1} (H : f k a1 = some r) : Gw P 0 (Q r) (Px c0 1 []) (⟨39, [(0, .cv (.agg (encC .any T1383 a1)))], []⟩) := by
  unfold f at H
  refine Rg V_ok 1 [(0, hb 0)] az ?_
  obtain ⟨y1, e2, H⟩ := of_bind H
  refine Rg V_ok 0 [(1, hr f_rule_May.S y1)] (ac (f_rule_May.rl e2) az) ?_
  rcases of_ite H with ⟨hb3, H⟩ | ⟨hb3, H⟩
  · refine C1 hb3 ?_
    refine Rg V_ok 0 [] az ?_
    exact Lf (Eq.trans (by kernel_rfl) H)
  · refine C0 hb3 ?_
    obtain ⟨y4, e5, H⟩ := of_bind H
    refine Rg V_ok 1 [(3, {sb := 1, res := some ⟨f_octets_PutO.S.rs, y4⟩})] (ac (f_octets_PutO.rl e5) az) ?_
    obtain ⟨n6, H⟩ := of_if H
    refine Rg V_ok 1 [(21, hb 2)] (ac n6 az) ?_
    exact Lf (Eq.trans (by kernel_rfl) H)
theorem fits : Fits P 59 S := fits_of V_ok Go.Proofs.Try.func59 (by kernel_rfl) (by decide) (by decide) rfl (fun x r ⟨k, H⟩ => of_G (f_ok H))
end f_rule_Put
/-! ### function 44, wayfinder/octets.Sum -/
namespace f_octets_Sum
noncomputable def c0 : Code := (Go.Proofs.Try.f44.body).getD .skip
abbrev ps : Sg := [(false, (.slice (.int .u8)))]
abbrev rs : Sg := [(false, (.int .i64))]
noncomputable def V : Env := { tt := tt, Γ := slk [] }
theorem V_ok : EnvOk P V := { ck := tt_ck, fits := slk_nil, mixed := mixed }
abbrev R := Tup rs
noncomputable abbrev Q (r : R) : Exit → St → Prop := Qr tt Go.Proofs.Try.f44.results ⟨ps, rs, .any, none, fun _ _ => True⟩ r
noncomputable def s1 (p1 : Int) (p2 : List Int) (p3 p4 : Int) : St := ⟨32, [(3, .cv (.one (.i p1))), (6, .cv (.one (.sl (.int .u8) p2 .any))), (7, .cv (.one (.i p3))), (8, .cv (.one (.i p4)))], []⟩
noncomputable def s2 (p1 : Int) : St := ⟨32, [(3, .cv (.one (.i p1)))], []⟩
noncomputable def b2 (L2 : Int → Option R) (k : Nat) (p1 : Int) : Option R :=
  if (decide (p1 > (65535 : Int))) = true then
  L2 (IntKind.i64.wrap ((Int.fdiv p1 (2 ^ (min (16 : Int).toNat (IntKind.i64.bits)))) + (IntKind.i64.wrap (((BitVec.ofInt IntKind.i64.bits p1 &&& BitVec.ofInt IntKind.i64.bits 65535).toNat : Int)))))
else
  some ((IntKind.i64.wrap (65535 - p1)), ())
theorem b2_ok {r} {L2 : Int → Option R} {m2 : Nat} (hL2 : ∀ p1, L2 p1 = some r → Gw P 0 (Q r) (Pb c0 3 [] m2) (s2 p1)) {k p1} (H : b2 L2 k p1 = some r) : Gw P 0 (Q r) (Px c0 61 [m2]) (s2 p1) := by
  unfold b2 at H
  refine Rg V_ok 0 [] az ?_
  rcases of_ite H with ⟨hb5, H⟩ | ⟨hb5, H⟩
  · refine C1 hb5 ?_
    refine Rg V_ok 0 [] (ac (show 0 ≤ (16 : Int) by decide) az) ?_
    exact Jm (tn [3] 0) (hL2 (IntKind.i64.wrap ((Int.fdiv p1 (2 ^ (min (16 : Int).toNat (IntKind.i64.bits)))) + (IntKind.i64.wrap (((BitVec.ofInt IntKind.i64.bits p1 &&& BitVec.ofInt IntKind.i64.bits 65535).toNat : Int))))) H)
  · refine C0 hb5 ?_
    refine Rg V_ok 0 [] az ?_
    exact Lf (Eq.trans (by kernel_rfl) H)
noncomputable def l2 (k : Nat) : Nat → Int → Option R
  | 0, _ => none
  | m + 1, p1 => b2 (l2 k m) k p1
theorem l2_ok {r} (k : Nat) : ∀ (m2 : Nat) (p1 : Int), l2 k m2 p1 = some r → Gw P 0 (Q r) (Pb c0 3 [] m2) (s2 p1)
  | 0, _, H => by cases H
  | m2 + 1, p1, H => SU (by kernel_rfl) (b2_ok (l2_ok k m2) H)
noncomputable def b1 (L1 : Int → List Int → Int → Int → Option R) (k : Nat) (p1 : Int) (p2 : List Int) (p3 p4 : Int) : Option R :=
  if (decide (p4 < p3)) = true then
  if 0 ≤ p4 then
    if p4 < (p2.length : Int) then
      if 0 ≤ (IntKind.i64.wrap (8 * (Int.tmod (IntKind.i64.wrap (p4 + 1)) 2))) then
        L1 (IntKind.i64.wrap (p1 + (IntKind.i64.wrap ((IntKind.i64.wrap (att (.int .u8) p2 p4)) * (2 ^ (min (IntKind.i64.wrap (8 * (Int.tmod (IntKind.i64.wrap (p4 + 1)) 2))).toNat (IntKind.i64.bits))))))) p2 p3 (IntKind.i64.wrap (p4 + 1))
      else none
    else none
  else none
else
  b2 (l2 k 1000000) k p1
theorem b1_ok {r} {L1 : Int → List Int → Int → Int → Option R} {m1 : Nat} (hL1 : ∀ p1 p2 p3 p4, L1 p1 p2 p3 p4 = some r → Gw P 0 (Q r) (Pb c0 85 [1000000] m1) (s1 p1 p2 p3 p4)) {k p1 p2 p3 p4} (H : b1 L1 k p1 p2 p3 p4 = some r) : Gw P 0 (Q r) (Px c0 149 [1000000, m1]) (s1 p1 p2 p3 p4) := by
  unfold b1 at H
  refine Rg V_ok 0 [] az ?_
  rcases of_ite H with ⟨hb1, H⟩ | ⟨hb1, H⟩
  · refine C1 hb1 ?_
    obtain ⟨n2, H⟩ := of_if H
    obtain ⟨n3, H⟩ := of_if H
    refine Rg V_ok 0 [] (ac n2 (ac n3 az)) ?_
    obtain ⟨n4, H⟩ := of_if H
    refine Rg V_ok 0 [] (ac (show (2 : Int) ≠ 0 by decide) (ac n4 az)) ?_
    refine Rg V_ok 0 [] az ?_
    exact Jm (tn [3, 6, 7, 8] 0) (hL1 (IntKind.i64.wrap (p1 + (IntKind.i64.wrap ((IntKind.i64.wrap (att (.int .u8) p2 p4)) * (2 ^ (min (IntKind.i64.wrap (8 * (Int.tmod (IntKind.i64.wrap (p4 + 1)) 2))).toNat (IntKind.i64.bits))))))) p2 p3 (IntKind.i64.wrap (p4 + 1)) H)
  · refine C0 hb1 ?_
    exact Jm (tn [3] 0) (b2_ok (l2_ok k 1000000) H)
noncomputable def l1 (k : Nat) : Nat → Int → List Int → Int → Int → Option R
  | 0, _, _, _, _ => none
  | m + 1, p1, p2, p3, p4 => b1 (l1 k m) k p1 p2 p3 p4
theorem l1_ok {r} (k : Nat) : ∀ (m1 : Nat) (p1 : Int) (p2 : List Int) (p3 : Int) (p4 : Int), l1 k m1 p1 p2 p3 p4 = some r → Gw P 0 (Q r) (Pb c0 85 [1000000] m1) (s1 p1 p2 p3 p4)
  | 0, _, _, _, _, H => by cases H
  | m1 + 1, p1, p2, p3, p4, H => SU (by kernel_rfl) (b1_ok (l1_ok k m1) H)
noncomputable def f (k : Nat) (a1 : List Int) : Option R :=
  l1 k k 0 a1 (a1.length : Int) 0
noncomputable def S : Spec := ⟨ps, rs, .any, none, fun x r => ∃ k, f k x.1 = some r⟩
theorem rl {k a1 r} (e : f k a1 = some r) : S.rel (a1, ()) r := ⟨k, e⟩
theorem f_ok {r k a1} (H : f k a1 = some r) : Gw P 0 (Q r) (Px c0 1 []) (⟨32, [(0, .cv (.one (.sl (.int .u8) a1 .any)))], []⟩) := by
  unfold f at H
  refine Rg V_ok 0 [] az ?_
  refine SC 1000000 ?_
  refine Rg V_ok 0 [] az ?_
  refine Rg V_ok 0 [] az ?_
  exact LP k (Jm (tn [3, 6, 7, 8] 0) (l1_ok k k 0 a1 (a1.length : Int) 0 H))
theorem fits : Fits P 44 S := fits_of V_ok Go.Proofs.Try.func44 (by kernel_rfl) (by decide) (by decide) rfl (fun x r ⟨k, H⟩ => of_G (f_ok H))
end f_octets_Sum

namespace f_digest_Of
abbrev ps : Sg := [(false, .int .i64), (false, .slice T1383)]
abbrev rs : Sg := [(false, .int .i64)]
abbrev R := Tup rs
def f (k : Nat) (a1 : Int) (a2 : List T1383.T) : Option R := none
noncomputable def S : Spec := ⟨ps, rs, .any, none, fun x r => ∃ k, f k x.1 x.2.1 = some r⟩
theorem rl {k a1 a2 r} (e : f k a1 a2 = some r) : S.rel (a1, a2, ()) r := ⟨k, e⟩
theorem enter_of {P : Program} {f : Nat} {fn : Func} {c : Code} (hf : P.funcs[f]? = some fn) (hb : fn.body = some c) (hn : fn.name ≠ "runtime.NumGoroutine") (args : Array Value) (w : World) : (callFunc f args).run P w = .ok (.enter f args) w := by simp [callFunc, hf, hb, hn]
theorem fits : Fits P 29 S := ⟨fun args w => enter_of (c := (Go.Proofs.Try.f29.body).getD .skip) Go.Proofs.Try.func29 (by kernel_rfl) (by decide) args w, fun x r h => by obtain ⟨k, h⟩ := h; cases h⟩
end f_digest_Of
/-! ### function 28, wayfinder/audit.Clean$1 -/
namespace f_audit_Clean_1
noncomputable def c0 : Code := (Go.Proofs.Try.f28.body).getD .skip
abbrev ps : Sg := [(true, T814c), (true, T814c)]
abbrev rs : Sg := [(false, .bool)]
noncomputable def V : Env := { tt := tt, Γ := slk [(29, f_digest_Of.S)] }
theorem V_ok : EnvOk P V := { ck := tt_ck, fits := slk_cons f_digest_Of.fits (slk_nil), mixed := mixed }
abbrev R := Tup rs
noncomputable abbrev Q (r : R) : Exit → St → Prop := Qr tt Go.Proofs.Try.f28.results ⟨ps, rs, .any, none, fun _ _ => True⟩ r
noncomputable def f (k : Nat) (a1 a2 : T814c.T) : Option R :=
  if (a1.1 == a2.1) = true then
    (f_digest_Of.f k a1.1 a1.2).bind fun y1 =>
      (f_digest_Of.f k a1.1 a2.2).bind fun y2 =>
        some ((y1.1 == y2.1), ())
  else
    some (false, ())
noncomputable def S : Spec := ⟨ps, rs, .any, none, fun x r => ∃ k, f k x.1 x.2.1 = some r⟩
theorem rl {k a1 a2 r} (e : f k a1 a2 = some r) : S.rel (a1, a2, ()) r := ⟨k, e⟩
theorem f_ok {r k a1 a2} (H : f k a1 a2 = some r) : Gw P 0 (Q r) (Px c0 1 []) (⟨23, [(0, .cv (.agg [.i a1.1, .sl T1383 a1.2 .any])), (1, .cv (.agg [.i a2.1, .sl T1383 a2.2 .any]))], []⟩) := by
  unfold f at H
  refine Rg V_ok 2 [(0, hb 0), (1, hb 1)] az ?_
  rcases of_ite H with ⟨hb3, H⟩ | ⟨hb3, H⟩
  · obtain ⟨y1, e4, H⟩ := of_bind H
    obtain ⟨y2, e5, H⟩ := of_bind H
    refine Rg V_ok 0 [(4, {bv := some true}), (10, hr f_digest_Of.S y1), (15, hr f_digest_Of.S y2)] (ac hb3 (ac (f_digest_Of.rl e4) (ac (f_digest_Of.rl e5) az))) ?_
    exact Lf (Eq.trans (by kernel_rfl) H)
  · refine Rg V_ok 0 [(4, {bv := some false})] (ac hb3 az) ?_
    exact Lf (Eq.trans (by kernel_rfl) H)
theorem fits : Fits P 28 S := fits_of V_ok Go.Proofs.Try.func28 (by kernel_rfl) (by decide) (by decide) rfl (fun x r ⟨k, H⟩ => of_G (f_ok H))
end f_audit_Clean_1
/-! ### function 91, slices.Index[[]int,int] -/
namespace f_slices_Index_int
noncomputable def c0 : Code := (Go.Proofs.Try.f91.body).getD .skip
abbrev ps : Sg := [(false, (.slice (.int .i64))), (false, (.int .i64))]
abbrev rs : Sg := [(false, (.int .i64))]
noncomputable def V : Env := { tt := tt, Γ := slk [] }
theorem V_ok : EnvOk P V := { ck := tt_ck, fits := slk_nil, mixed := mixed }
abbrev R := Tup rs
noncomputable abbrev Q (r : R) : Exit → St → Prop := Qr tt Go.Proofs.Try.f91.results ⟨ps, rs, .any, none, fun _ _ => True⟩ r
noncomputable def s1 (p1 : List Int) (p2 p3 p4 : Int) : St := ⟨19, [(0, .cv (.one (.sl (.int .i64) p1 .any))), (1, .cv (.one (.i p2))), (7, .cv (.one (.i p3))), (8, .cv (.one (.i p4)))], []⟩
noncomputable def b1 (L1 : List Int → Int → Int → Int → Option R) (k : Nat) (p1 : List Int) (p2 p3 p4 : Int) : Option R :=
  if (decide (p4 < p3)) = true then
  if 0 ≤ p4 then
    if p4 < (p1.length : Int) then
      if (p2 == (att (.int .i64) p1 p4)) = true then
        some (p4, ())
      else
        L1 p1 p2 p3 (IntKind.i64.wrap (p4 + 1))
    else none
  else none
else
  some ((-1 : Int), ())
theorem b1_ok {r} {L1 : List Int → Int → Int → Int → Option R} {m1 : Nat} (hL1 : ∀ p1 p2 p3 p4, L1 p1 p2 p3 p4 = some r → Gw P 0 (Q r) (Pb c0 21 [] m1) (s1 p1 p2 p3 p4)) {k p1 p2 p3 p4} (H : b1 L1 k p1 p2 p3 p4 = some r) : Gw P 0 (Q r) (Px c0 37 [m1]) (s1 p1 p2 p3 p4) := by
  unfold b1 at H
  refine Rg V_ok 0 [] az ?_
  rcases of_ite H with ⟨hb1, H⟩ | ⟨hb1, H⟩
  · refine C1 hb1 ?_
    refine Rg V_ok 0 [] az ?_
    obtain ⟨n2, H⟩ := of_if H
    obtain ⟨n3, H⟩ := of_if H
    refine Rg V_ok 0 [] (ac n2 (ac n3 az)) ?_
    rcases of_ite H with ⟨hb4, H⟩ | ⟨hb4, H⟩
    · refine C1 hb4 ?_
      refine Rg V_ok 0 [] az ?_
      exact Lf (Eq.trans (by kernel_rfl) H)
    · refine C0 hb4 ?_
      refine Rg V_ok 0 [] az ?_
      exact Jm (tn [0, 1, 7, 8] 0) (hL1 p1 p2 p3 (IntKind.i64.wrap (p4 + 1)) H)
  · refine C0 hb1 ?_
    refine Rg V_ok 0 [] az ?_
    exact Lf (Eq.trans (by kernel_rfl) H)
noncomputable def l1 (k : Nat) : Nat → List Int → Int → Int → Int → Option R
  | 0, _, _, _, _ => none
  | m + 1, p1, p2, p3, p4 => b1 (l1 k m) k p1 p2 p3 p4
theorem l1_ok {r} (k : Nat) : ∀ (m1 : Nat) (p1 : List Int) (p2 p3 : Int) (p4 : Int), l1 k m1 p1 p2 p3 p4 = some r → Gw P 0 (Q r) (Pb c0 21 [] m1) (s1 p1 p2 p3 p4)
  | 0, _, _, _, _, H => by cases H
  | m1 + 1, p1, p2, p3, p4, H => SU (by kernel_rfl) (b1_ok (l1_ok k m1) H)
noncomputable def f (k : Nat) (a1 : List Int) (a2 : Int) : Option R :=
  l1 k k a1 a2 (a1.length : Int) 0
noncomputable def S : Spec := ⟨ps, rs, .any, none, fun x r => ∃ k, f k x.1 x.2.1 = some r⟩
theorem rl {k a1 a2 r} (e : f k a1 a2 = some r) : S.rel (a1, a2, ()) r := ⟨k, e⟩
theorem f_ok {r k a1 a2} (H : f k a1 a2 = some r) : Gw P 0 (Q r) (Px c0 1 []) (⟨19, [(0, .cv (.one (.sl (.int .i64) a1 .any))), (1, .cv (.one (.i a2)))], []⟩) := by
  unfold f at H
  refine Rg V_ok 0 [] az ?_
  refine Rg V_ok 0 [] az ?_
  exact LP k (Jm (tn [0, 1, 7, 8] 0) (l1_ok k k a1 a2 (a1.length : Int) 0 H))
theorem fits : Fits P 91 S := fits_of V_ok Go.Proofs.Try.func91 (by kernel_rfl) (by decide) (by decide) rfl (fun x r ⟨k, H⟩ => of_G (f_ok H))
end f_slices_Index_int
/-! ### function 79, slices.Contains[[]int,int] -/
namespace f_slices_Contains_int
noncomputable def c0 : Code := (Go.Proofs.Try.f79.body).getD .skip
abbrev ps : Sg := [(false, (.slice (.int .i64))), (false, (.int .i64))]
abbrev rs : Sg := [(false, .bool)]
noncomputable def V : Env := { tt := tt, Γ := slk [(91, f_slices_Index_int.S)] }
theorem V_ok : EnvOk P V := { ck := tt_ck, fits := slk_cons f_slices_Index_int.fits (slk_nil), mixed := mixed }
abbrev R := Tup rs
noncomputable abbrev Q (r : R) : Exit → St → Prop := Qr tt Go.Proofs.Try.f79.results ⟨ps, rs, .any, none, fun _ _ => True⟩ r
noncomputable def f (k : Nat) (a1 : List Int) (a2 : Int) : Option R :=
  (f_slices_Index_int.f k a1 a2).bind fun y1 =>
    some ((decide (y1.1 ≥ (0 : Int))), ())
noncomputable def S : Spec := ⟨ps, rs, .any, none, fun x r => ∃ k, f k x.1 x.2.1 = some r⟩
theorem rl {k a1 a2 r} (e : f k a1 a2 = some r) : S.rel (a1, a2, ()) r := ⟨k, e⟩
theorem f_ok {r k a1 a2} (H : f k a1 a2 = some r) : Gw P 0 (Q r) (Px c0 1 []) (⟨9, [(0, .cv (.one (.sl (.int .i64) a1 .any))), (1, .cv (.one (.i a2)))], []⟩) := by
  unfold f at H
  refine Rg V_ok 0 [] az ?_
  obtain ⟨y1, e2, H⟩ := of_bind H
  refine Rg V_ok 0 [(2, hr f_slices_Index_int.S y1)] (ac (f_slices_Index_int.rl e2) az) ?_
  exact Lf (Eq.trans (by kernel_rfl) H)
theorem fits : Fits P 79 S := fits_of V_ok Go.Proofs.Try.func79 (by kernel_rfl) (by decide) (by decide) rfl (fun x r ⟨k, H⟩ => of_G (f_ok H))
end f_slices_Contains_int
end Go.Proofs.Ytajddhechcneoaa.V
