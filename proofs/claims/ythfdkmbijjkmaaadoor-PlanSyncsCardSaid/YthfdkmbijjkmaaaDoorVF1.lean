/- Functions of the program, as Lean functions, and that the code answers so. Printed by vgen.py. -/
import Derived.Test.YthfdkmbijjkmaaaDoorVF0
namespace Go.Proofs.YthfdkmbijjkmaaaDoor.V
open Go Go.RowKit
set_option linter.unusedVariables false
set_option linter.unusedSimpArgs false
set_option maxRecDepth 100000
set_option maxHeartbeats 4000000
/-! ### slices.Delete of one thing: function 51 -/
theorem D51.zero : ∀ w, (zeroValue 61).run Go.Proofs.Tryd.prog w = .ok (.agg #[.int .i64 0, .slice none 0 0]) w :=
  (zero_of_info (n := 2) (by kernel_rfl : (Go.Proofs.Tryd.prog.info? 61).map (fun i => (i.zero, i.size)) = some (some (.agg #[.int .i64 0, .slice none 0 0]), 2))).1
theorem D51.info : (Go.Proofs.Tryd.prog.info? 61).map (fun i => (i.zero, i.size, i.bytes)) = some (some (.agg #[.int .i64 0, .slice none 0 0]), 2, 32) := by kernel_rfl
set_option maxHeartbeats 1600000 in
set_option maxRecDepth 1000000 in
theorem D51.walk (g n c i : Nat) (cur : Array Value) (w : World) (hi : i < n) (hl : n ≤ c) (hm : c ≤ 9223372036854775807) (hg : w.heap[g]? = some (.cells cur 61 (0, 0))) (hcs : n * 2 ≤ cur.size) (h1 : ∀ u ∈ cur.toList.take (n * 2), u.oneCell' = true) :
    Calls Go.Proofs.Tryd.prog 51 #[.slice (some ⟨g, 0, none⟩) n c, .int .i64 i, .int .i64 ((i : Int) + 1)] w fun e w' => e = .returned (.slice (some ⟨g, 0, none⟩) (n - 1) c) ∧ w' = (w.drew.setCells g (i * 2) ((cur.toList.drop ((i + 1) * 2)).take ((n - (i + 1)) * 2))).setCells g ((n - 1) * 2) (Value.cells (.agg #[.int .i64 0, .slice none 0 0])).toList := by
  obtain ⟨i0, hi0, hz0, hz1, hz2⟩ := info_parts D51.info
  have hcell : ∀ j u, cur[j]? = some u → w.drew.cell? ⟨g, j, none⟩ = some u := fun j u hu => by
    show w.cell? _ = _
    rw [cell_of_row _ _ _ _ _ _ hg, hu]
  obtain ⟨mv, hmv⟩ : ∃ mv, mv = (cur.toList.drop ((i + 1) * 2)).take ((n - (i + 1)) * 2) := ⟨_, rfl⟩
  have hml : mv.length = (n - (i + 1)) * 2 := by rw [hmv, List.length_take, List.length_drop, Array.length_toList]; omega
  obtain ⟨A, hA, hnews⟩ : ∃ A : Addr, (if c = i + 1 then some (⟨g, 0, none⟩ : Addr) else some ⟨g, (i + 1) * 2, none⟩) = some A ∧ Hid (∀ j u, mv[j]? = some u → w.drew.cell? (A.add j) = some u) := by
    by_cases h : c = i + 1
    · refine ⟨⟨g, 0, none⟩, by simp [h], fun j u hu => ?_⟩
      have h0 : mv.length = 0 := by rw [hml]; omega
      rw [List.length_eq_zero_iff.1 h0] at hu
      simp at hu
    · refine ⟨⟨g, (i + 1) * 2, none⟩, by simp [h], fun j u hu => ?_⟩
      have hj := (List.getElem?_eq_some_iff.1 hu).1
      rw [hmv, List.getElem?_take, if_pos (by omega), List.getElem?_drop, Array.getElem?_toList] at hu
      rw [Addr.add_lit]
      exact hcell _ _ hu
  have s1 : Hid (mv.length = (n - (i + 1)) * 2) := hml
  have s2 : Hid (∀ u ∈ mv, u.oneCell' = true) := by
    intro u hu
    rw [hmv] at hu
    refine h1 u ?_
    rw [show n * 2 = (i + 1) * 2 + (n - (i + 1)) * 2 by omega, List.take_add]
    exact List.mem_append_right _ hu
  have s3 : Hid (∀ j, j < mv.length → (w.drew.cell? ⟨g, 0 + i * 2 + j, none⟩).isSome = true ∧ w.drew.frozen? ⟨g, 0 + i * 2 + j, none⟩ = false) := by
    intro j hj
    rw [hml] at hj
    refine ⟨?_, frozen_of_row _ _ _ _ _ hg⟩
    rw [hcell (0 + i * 2 + j) cur[0 + i * 2 + j] (Array.getElem?_eq_getElem (by omega))]
    rfl
  have hic : i ≤ c := by omega
  have hwr : IntKind.i64.wrap ((i : Int) + 1) = (i : Int) + 1 := by rw [IntKind.wrap_i64]; omega
  have hp0 : (0 : Int) ≤ (i : Int) + 1 := by omega
  have hp1 : (i : Int) + 1 ≤ (n : Int) := by omega
  have hp2 : ((i : Int) + 1).toNat = i + 1 := by omega
  have hne : ((i : Int) == (i : Int) + 1) = false := beq_eq_false_iff_ne.mpr (by omega)
  have HG := Aside0.mk hg
  have HML := Aside0.mk hml
  have HMV := Aside0.mk hmv
  clear hcell hg hml hmv hp2
  go_enter Go.Proofs.Tryd.func51, Go.Proofs.Tryd.ntmps51
  go_wp2_with fail
  go_region_law (refine step_append_room rfl (.tmp 22) (.tmp 25) 22 rfl 61 i0 2 Go.Proofs.Tryd.underlying22 hi0 hz1 g 0 i c (by simp [Act.eval, Act.put]) A (n - (i + 1)) (c - (i + 1)) mv (by simp [Act.eval, Act.put]) s1.out hnews.out s2.out (by omega) s3.out ?_)
  obtain ⟨W2, HW2⟩ : ∃ W2, w.drew.setCells g (i * 2) mv = W2 := ⟨_, rfl⟩
  rw [HW2, show i + (n - (i + 1)) = n - 1 by omega]
  obtain ⟨cur2, hg2, hs2, hl2⟩ := sc_row mv (i * 2) w.drew cur HG.out (by rw [HML.out]; omega)
  rw [HW2] at hg2
  have HX := Aside0.mk HW2
  have HG2 := Aside0.mk hg2
  have hc2 : ∀ j, j < 2 → (W2.cell? ⟨g, (n - 1) * 2 + j, none⟩).isSome = true := fun j hj => by
    rw [cell_of_row _ _ _ _ _ _ hg2, Array.getElem?_eq_getElem (by omega)]
    rfl
  have hf2 : ∀ j, j < 2 → W2.frozen? ⟨g, (n - 1) * 2 + j, none⟩ = false := fun j hj => frozen_of_row _ _ _ _ _ hg2
  have HC2 := Aside0.mk hc2
  have HF2 := Aside0.mk hf2
  have hn1 : c - (n - 1) ≠ 0 := by omega
  have hn2 : ¬ c = n - 1 := by omega
  have hn3 : n - (n - 1) = 1 := by omega
  have hn4 : ((n - 1 : Nat) : Int) = (n : Int) - 1 := by omega
  clear HW2 hg2 hc2 hf2 hs2 hl2 hA
  go_wp2_with ((with_reducible refine gate_clear (t := 22) (x := .tmp 31) rfl ?_); refine wpList_clear_one rfl 22 61 (.tmp 31) rfl Go.Proofs.Tryd.underlying22 _ D51.zero (by decide) g ((n - 1) * 2) (c - (n - 1)) ?hx HC2.out HF2.out ?_; (case hx => simp [Act.eval, Act.put]))
  go_ret
  exact ⟨rfl, by rw [← HX.out, ← HMV.out]; rfl⟩
theorem D51.ok : DelOk Go.Proofs.Tryd.prog 51 61 2 where
  enter := enters_of Go.Proofs.Tryd.func51 (by kernel_rfl : Go.Proofs.Tryd.f51.body = some ((Go.Proofs.Tryd.f51.body).getD .skip)) (by decide)
  calls := fun g n cap i cur w hi hl hm hg hcs h1 => by
    have hnc : n * 2 ≤ cur.size := by rw [hcs]; exact Nat.mul_le_mul_right _ hl
    refine (D51.walk g n cap i cur w hi hl (by unfold maxLen at hm; exact hm) hg hnc h1).mono ?_
    rintro e w' ⟨rfl, hw'⟩
    obtain ⟨mv, hmv⟩ : ∃ mv, mv = (cur.toList.drop ((i + 1) * 2)).take ((n - (i + 1)) * 2) := ⟨_, rfl⟩
    have hc : cur.toList.length = cur.size := Array.length_toList
    have hml : mv.length = (n - (i + 1)) * 2 := by
      rw [hmv, List.length_take, List.length_drop]; omega
    rw [← hmv] at hw'
    have hzl : (Value.cells (.agg #[.int .i64 0, .slice none 0 0])).toList.length = 2 := rfl
    generalize (Value.cells (.agg #[.int .i64 0, .slice none 0 0])).toList = zs at hw' hzl
    obtain ⟨c2, hg2, hs2, hl2⟩ := sc_row mv (i * 2) w.drew cur hg (by rw [hml]; omega)
    obtain ⟨c3, hg3, hs3, hl3⟩ := sc_row zs ((n - 1) * 2) _ c2 hg2 (by omega)
    rw [← hw'] at hg3
    obtain ⟨a1, a2, a3, a4⟩ := sc_same g mv (i * 2) w.drew
    obtain ⟨b1, b2, b3, b4⟩ := sc_same g zs ((n - 1) * 2) (w.drew.setCells g (i * 2) mv)
    refine ⟨rfl, ⟨c3, hg3, by rw [hs3, hs2], ?_⟩, fun b hb => by rw [hw', sc_far _ _ _ hb, sc_far _ _ _ hb]; rfl, by rw [hw', b4, a4]; rfl, by rw [hw', b1, a1]; rfl, by rw [hw', b2, a2]; rfl, by rw [hw', b3, a3]; rfl⟩
    have e1 : (cur.toList.take (i * 2)).length = i * 2 := by rw [List.length_take]; omega
    have e2 : (cur.toList.take (i * 2) ++ mv).length = (n - 1) * 2 := by rw [List.length_append, e1, hml]; omega
    have e3 : (c2.toList.take ((n - 1) * 2)) = cur.toList.take (i * 2) ++ mv := by rw [hl2, List.take_append_of_le_length (Nat.le_of_eq e2.symm), List.take_of_length_le (Nat.le_of_eq e2)]
    rw [hl3, e3, List.append_assoc, List.take_append_of_le_length (Nat.le_of_eq e2.symm), List.take_of_length_le (Nat.le_of_eq e2), List.drop_take, hmv, show n * 2 - (i + 1) * 2 = (n - (i + 1)) * 2 by omega]

/-! ### function 43, wayfinder/table.own, where it is called -/
namespace i_table_own_301
noncomputable def c0 : Code := (Go.Proofs.Tryd.f43.body).getD .skip
noncomputable def V : Env := { tt := tt, Γ := slk [(66, f_slices_Clone_Rule.S)] }
theorem V_ok : EnvOk P V := { ck := tt_ck, fits := slk_cons f_slices_Clone_Rule.fits (slk_nil), mixed := mixed }
abbrev R := (List T814c.T) × Unit
noncomputable def s0 (p1 : List T814c.T) : St := ⟨23, [(0, .cv (.one (.sl T814c p1 .any)))], []⟩
noncomputable def out (r : R) : St := ⟨23, [(2, .cv (.one (.own 0)))], [(.buf 61 T814c r.1, [])]⟩
abbrev Q (r : R) := CallQ 0 (out r)
noncomputable def s1 (p1 : List T814c.T) (p2 : Int) (p3 : Int) (p4 : List T814c.T) : St := ⟨23, [(3, .cv (.one (.own 0))), (6, .cv (.one (.sl T814c p1 .any))), (7, .cv (.one (.int .i64 p2))), (8, .cv (.one (.int .i64 p3)))], [(.buf 61 T814c p4, [])]⟩
noncomputable def b1 (L1 : List T814c.T → Int → Int → List T814c.T → Option R) (k : Nat) (p1 : List T814c.T) (p2 : Int) (p3 : Int) (p4 : List T814c.T) : Option R :=
  if (decide (p3 < p2)) = true then
  if 0 ≤ p3 then
    if p3 < (p1.length : Int) then
      (f_slices_Clone_Rule.f k ((att T814c p1 p3).2)).bind fun y4 =>
        if (p4.length + 1) * 32 ≤ 140737488355328 then
          L1 p1 p2 (IntKind.i64.wrap (p3 + 1)) (p4 ++ [((att T814c p1 p3).1, y4.1)])
        else none
    else none
  else none
else
  some (p4, ())
theorem b1_ok {r} {L1 : List T814c.T → Int → Int → List T814c.T → Option R} {m1 : Nat} (hL1 : ∀ p1 p2 p3 p4, L1 p1 p2 p3 p4 = some r → Gw P 0 (Q r) (Pb c0 43 [] m1) (s1 p1 p2 p3 p4)) {k p1 p2 p3 p4} (H : b1 L1 k p1 p2 p3 p4 = some r) : Gw P 0 (Q r) (Px c0 75 [m1]) (s1 p1 p2 p3 p4) := by
  unfold b1 at H
  refine Rg V_ok 0 [] az (by kernel_rfl) ?_
  rcases of_ite H with ⟨hb1, H⟩ | ⟨hb1, H⟩
  · refine C1 hb1 (by kernel_rfl) ?_
    obtain ⟨n2, H⟩ := of_if H
    obtain ⟨n3, H⟩ := of_if H
    refine Rg V_ok 1 [(2, hb 1)] (ac n2 (ac n3 az)) (by kernel_rfl) ?_
    obtain ⟨y4, e5, H⟩ := of_bind H
    obtain ⟨n6, H⟩ := of_if H
    refine Rg V_ok 1 [(5, hr f_slices_Clone_Rule.S y4), (8, hb 2)] (ac (f_slices_Clone_Rule.rl e5) (ac n6 az)) (by kernel_rfl) ?_
    refine Rg V_ok 0 [] az (by kernel_rfl) ?_
    exact Jm {fz := [], gr := 0, ad := [], live := [3, 6, 7, 8], src := [some 2]} (by kernel_rfl) (by kernel_rfl) (hL1 p1 p2 (IntKind.i64.wrap (p3 + 1)) (p4 ++ [((att T814c p1 p3).1, y4.1)]) H)
  · refine C0 hb1 (by kernel_rfl) ?_
    refine Rg V_ok 0 [] az (by kernel_rfl) ?_
    obtain rfl := Option.some.inj H
    exact Lq {fz := [], gr := 0, ad := [], live := [2], src := [some 0]} (by kernel_rfl)
noncomputable def l1 (k : Nat) : Nat → List T814c.T → Int → Int → List T814c.T → Option R
  | 0, _, _, _, _ => none
  | m + 1, p1, p2, p3, p4 => b1 (l1 k m) k p1 p2 p3 p4
theorem l1_ok {r} (k : Nat) : ∀ (m1 : Nat) (p1 : List T814c.T) (p2 : Int) (p3 : Int) (p4 : List T814c.T), l1 k m1 p1 p2 p3 p4 = some r → Gw P 0 (Q r) (Pb c0 43 [] m1) (s1 p1 p2 p3 p4)
  | 0, _, _, _, _, H => by cases H
  | m1 + 1, p1, p2, p3, p4, H => SU (by kernel_rfl) (b1_ok (l1_ok k m1) H)
noncomputable def f (k : Nat) (p1 : List T814c.T) : Option R :=
  l1 k k p1 (p1.length : Int) 0 []
theorem f_ok {r k p1} (H : f k p1 = some r) : Gw P 0 (Q r) (Px c0 1 []) (s0 p1) := by
  unfold f at H
  refine Rg V_ok 0 [] az (by kernel_rfl) ?_
  refine Rg V_ok 0 [] az (by kernel_rfl) ?_
  refine Rg V_ok 0 [] az (by kernel_rfl) ?_
  exact LP k (Jm {fz := [], gr := 1, ad := [.ownT 3 0 61 T814c], live := [3, 6, 7, 8], src := [some 0]} (by kernel_rfl) (by kernel_rfl) (l1_ok k k p1 (p1.length : Int) 0 [] H))
theorem ok {r k p1} (H : f k p1 = some r) : W P 0 c0 (s0 p1) (CallQ 0 (out r)) := of_G (f_ok H)
theorem at_ : FnAt P 43 23 c0 Go.Proofs.Tryd.f43.results := fnAt Go.Proofs.Tryd.func43 (by kernel_rfl) (by decide) (by kernel_rfl) (by kernel_rfl)
end i_table_own_301
/-! ### function 19, wayfinder/table.Drop -/
namespace f_table_Drop
noncomputable def c0 : Code := (Go.Proofs.Tryd.f19.body).getD .skip
abbrev ps : Sg := [(false, (.slice T814c)), (false, (.int .i64))]
abbrev rs : Sg := [(false, (.slice T814c))]
noncomputable def V : Env := { tt := tt, Γ := slk [(44, f_table_at.S)], pr := plk [(51, .del 61 T814c)] }
theorem V_ok : EnvOk P V := { ck := tt_ck, fits := slk_cons f_table_at.fits (slk_nil), mixed := mixed, prims := plk_cons (show PrimOk P 51 _ from D51.ok) (plk_nil) }
abbrev R := Tup rs
noncomputable abbrev Q (r : R) : Exit → St → Prop := Qr tt Go.Proofs.Tryd.f19.results ⟨ps, rs, .any, none, fun _ _ => True⟩ r
noncomputable def s1 (p1 : List T814c.T) : St := ⟨21, [(0, .cv (.one (.own 0)))], [(.buf 61 T814c p1, [])]⟩
noncomputable def j1 (k : Nat) (p1 : List T814c.T) : Option R :=
  some (p1, ())
theorem j1_ok {r} {k p1} (H : j1 k p1 = some r) : Gw P 0 (Q r) (Px c0 15 []) (s1 p1) := by
  unfold j1 at H
  refine Rg V_ok 0 [] az (by kernel_rfl) ?_
  exact Lf (Eq.trans (by kernel_rfl) H)
noncomputable def f (k : Nat) (a1 : List T814c.T) (a2 : Int) : Option R :=
  (i_table_own_301.f k a1).bind fun y1 =>
    (f_table_at.f k y1.1 a2).bind fun y3 =>
      if (decide (y3.1 < (y1.1.length : Int))) = true then
        if 0 ≤ y3.1 ∧ y3.1 < (y1.1.length : Int) ∧ (IntKind.i64.wrap (y3.1 + 1)) = y3.1 + 1 then
          j1 k (y1.1.take y3.1.toNat ++ y1.1.drop (y3.1.toNat + 1))
        else none
      else
        j1 k y1.1
noncomputable def S : Spec := ⟨ps, rs, .any, none, fun x r => ∃ k, f k x.1 x.2.1 = some r⟩
theorem rl {k a1 a2 r} (e : f k a1 a2 = some r) : S.rel (a1, a2, ()) r := ⟨k, e⟩
theorem f_ok {r k a1 a2} (H : f k a1 a2 = some r) : Gw P 0 (Q r) (Px c0 1 []) (⟨21, [(0, .cv (.one (.sl T814c a1 .any))), (1, .cv (.one (.int .i64 a2)))], []⟩) := by
  unfold f at H
  refine Rg V_ok 0 [] az (by kernel_rfl) ?_
  refine GT {live := [0, 1], src := []} (by kernel_rfl) (RI (by kernel_rfl) ?_)
  refine EV V_ok 0 [] 1 az (by kernel_rfl) ?_
  obtain ⟨y1, e2, H⟩ := of_bind H
  refine CL V_ok i_table_own_301.at_ (i_table_own_301.ok e2) (by kernel_rfl) (by kernel_rfl) (by kernel_rfl) ?_
  refine EV V_ok 0 [] 1 az (by kernel_rfl) ?_
  refine RN (by kernel_rfl) (by kernel_rfl) ?_
  obtain ⟨y3, e4, H⟩ := of_bind H
  refine Rg V_ok 0 [(2, hr f_table_at.S y3)] (ac (f_table_at.rl e4) az) (by kernel_rfl) ?_
  refine Rg V_ok 0 [] az (by kernel_rfl) ?_
  rcases of_ite H with ⟨hb5, H⟩ | ⟨hb5, H⟩
  · refine C1 hb5 (by kernel_rfl) ?_
    obtain ⟨n6, H⟩ := of_if H
    refine Rg V_ok 1 [(4, {sb := 1, ph := {sb := 1}})] (ac n6 az) (by kernel_rfl) ?_
    exact Jm {fz := [], gr := 0, ad := [], live := [0], src := [some 1]} (by kernel_rfl) (by kernel_rfl) (j1_ok H)
  · refine C0 hb5 (by kernel_rfl) ?_
    exact Jm {fz := [], gr := 0, ad := [], live := [0], src := [some 0]} (by kernel_rfl) (by kernel_rfl) (j1_ok H)
theorem fits : Fits P 19 S := fits_of V_ok Go.Proofs.Tryd.func19 (by kernel_rfl) (by decide) (by decide) rfl (fun x r ⟨k, H⟩ => of_G (f_ok H))
end f_table_Drop
/-! ### function 28, wayfinder/agent.own -/
namespace f_agent_own
noncomputable def c0 : Code := (Go.Proofs.Tryd.f28.body).getD .skip
abbrev ps : Sg := [(true, Tf20b)]
abbrev rs : Sg := [(true, Tf20b)]
noncomputable def V : Env := { tt := tt, Γ := slk [(19, f_table_Drop.S)] }
theorem V_ok : EnvOk P V := { ck := tt_ck, fits := slk_cons f_table_Drop.fits (slk_nil), mixed := mixed }
abbrev R := Tup rs
noncomputable abbrev Q (r : R) : Exit → St → Prop := Qr tt Go.Proofs.Tryd.f28.results ⟨ps, rs, .any, none, fun _ _ => True⟩ r
noncomputable def f (k : Nat) (a1 : Tf20b.T) : Option R :=
  (f_table_Drop.f k a1.2.2.2.2.2.1 (-1 : Int)).bind fun y1 =>
    some ((a1.1, (a1.2.1, (a1.2.2.1, (a1.2.2.2.1, (a1.2.2.2.2.1, (y1.1, a1.2.2.2.2.2.2)))))), ())
noncomputable def S : Spec := ⟨ps, rs, .any, none, fun x r => ∃ k, f k x.1 = some r⟩
theorem rl {k a1 r} (e : f k a1 = some r) : S.rel (a1, ()) r := ⟨k, e⟩
theorem f_ok {r k a1} (H : f k a1 = some r) : Gw P 0 (Q r) (Px c0 1 []) (⟨8, [(0, .cv (.agg (encC .any Tf20b a1)))], []⟩) := by
  unfold f at H
  refine Rg V_ok 2 [(0, hb 0), (1, hb 1)] az (by kernel_rfl) ?_
  obtain ⟨y1, e2, H⟩ := of_bind H
  refine Rg V_ok 0 [(2, hr f_table_Drop.S y1)] (ac (f_table_Drop.rl e2) az) (by kernel_rfl) ?_
  refine Rg V_ok 0 [] az (by kernel_rfl) ?_
  exact Lf (Eq.trans (by kernel_rfl) H)
theorem fits : Fits P 28 S := fits_of V_ok Go.Proofs.Tryd.func28 (by kernel_rfl) (by decide) (by decide) rfl (fun x r ⟨k, H⟩ => of_G (f_ok H))
end f_agent_own
/-! ### function 34, wayfinder/frame.unless -/
namespace f_frame_unless
noncomputable def c0 : Code := (Go.Proofs.Tryd.f34.body).getD .skip
abbrev ps : Sg := [(false, .bool), (false, (.int .i64))]
abbrev rs : Sg := [(false, (.int .i64))]
noncomputable def V : Env := { tt := tt, Γ := slk [] }
theorem V_ok : EnvOk P V := { ck := tt_ck, fits := slk_nil, mixed := mixed }
abbrev R := Tup rs
noncomputable abbrev Q (r : R) : Exit → St → Prop := Qr tt Go.Proofs.Tryd.f34.results ⟨ps, rs, .any, none, fun _ _ => True⟩ r
noncomputable def f (k : Nat) (a1 : Bool) (a2 : Int) : Option R :=
  if a1 = true then
    some (a2, ())
  else
    some ((0 : Int), ())
noncomputable def S : Spec := ⟨ps, rs, .any, none, fun x r => ∃ k, f k x.1 x.2.1 = some r⟩
theorem rl {k a1 a2 r} (e : f k a1 a2 = some r) : S.rel (a1, a2, ()) r := ⟨k, e⟩
theorem f_ok {r k a1 a2} (H : f k a1 a2 = some r) : Gw P 0 (Q r) (Px c0 1 []) (⟨7, [(0, .cv (.one (.bool a1))), (1, .cv (.one (.int .i64 a2)))], []⟩) := by
  unfold f at H
  refine Rg V_ok 0 [] az (by kernel_rfl) ?_
  refine Rg V_ok 0 [] az (by kernel_rfl) ?_
  rcases of_ite H with ⟨hb1, H⟩ | ⟨hb1, H⟩
  · refine C1 hb1 (by kernel_rfl) ?_
    refine Rg V_ok 0 [] az (by kernel_rfl) ?_
    exact Lf (Eq.trans (by kernel_rfl) H)
  · refine C0 hb1 (by kernel_rfl) ?_
    refine Rg V_ok 0 [] az (by kernel_rfl) ?_
    exact Lf (Eq.trans (by kernel_rfl) H)
theorem fits : Fits P 34 S := fits_of V_ok Go.Proofs.Tryd.func34 (by kernel_rfl) (by decide) (by decide) rfl (fun x r ⟨k, H⟩ => of_G (f_ok H))
end f_frame_unless
/-! ### function 79, wayfinder/octets.Get -/
namespace f_octets_Get
noncomputable def c0 : Code := (Go.Proofs.Tryd.f79.body).getD .skip
abbrev ps : Sg := [(false, (.slice (.int .u8))), (false, (.int .i64))]
abbrev rs : Sg := [(false, (.int .i64)), (false, (.int .i64))]
noncomputable def V : Env := { tt := tt, Γ := slk [(83, f_octets_may.S)] }
theorem V_ok : EnvOk P V := { ck := tt_ck, fits := slk_cons f_octets_may.fits (slk_nil), mixed := mixed }
abbrev R := Tup rs
noncomputable abbrev Q (r : R) : Exit → St → Prop := Qr tt Go.Proofs.Tryd.f79.results ⟨ps, rs, .any, none, fun _ _ => True⟩ r
noncomputable def s1 (p1 : Int) (p2 : List Int) (p3 : Int) (p4 : Int) : St := ⟨34, [(6, .cv (.one (.int .u32 p1))), (20, .cv (.one (.sl (.int .u8) p2 .any))), (21, .cv (.one (.int .i64 p3))), (22, .cv (.one (.int .i64 p4)))], []⟩
noncomputable def b1 (L1 : Int → List Int → Int → Int → Option R) (k : Nat) (p1 : Int) (p2 : List Int) (p3 : Int) (p4 : Int) : Option R :=
  if (decide (p4 < p3)) = true then
  if 0 ≤ p4 then
    if p4 < (p2.length : Int) then
      L1 (IntKind.u32.wrap (((BitVec.ofInt IntKind.u32.bits (IntKind.u32.wrap (p1 * (2 ^ (min (8 : Int).toNat (IntKind.u32.bits))))) ||| BitVec.ofInt IntKind.u32.bits (IntKind.u32.wrap (att (.int .u8) p2 p4))).toNat : Int))) p2 p3 (IntKind.i64.wrap (p4 + 1))
    else none
  else none
else
  some ((IntKind.i64.wrap p1), ((0 : Int), ()))
theorem b1_ok {r} {L1 : Int → List Int → Int → Int → Option R} {m1 : Nat} (hL1 : ∀ p1 p2 p3 p4, L1 p1 p2 p3 p4 = some r → Gw P 0 (Q r) (Pb c0 87 [] m1) (s1 p1 p2 p3 p4)) {k p1 p2 p3 p4} (H : b1 L1 k p1 p2 p3 p4 = some r) : Gw P 0 (Q r) (Px c0 151 [m1]) (s1 p1 p2 p3 p4) := by
  unfold b1 at H
  refine Rg V_ok 0 [] az (by kernel_rfl) ?_
  rcases of_ite H with ⟨hb6, H⟩ | ⟨hb6, H⟩
  · refine C1 hb6 (by kernel_rfl) ?_
    obtain ⟨n7, H⟩ := of_if H
    obtain ⟨n8, H⟩ := of_if H
    refine Rg V_ok 0 [] (ac n7 (ac n8 az)) (by kernel_rfl) ?_
    refine Rg V_ok 0 [] (ac (show 0 ≤ (8 : Int) by decide) az) (by kernel_rfl) ?_
    refine Rg V_ok 0 [] az (by kernel_rfl) ?_
    exact Jm {fz := [], gr := 0, ad := [], live := [6, 20, 21, 22], src := []} (by kernel_rfl) (by kernel_rfl) (hL1 (IntKind.u32.wrap (((BitVec.ofInt IntKind.u32.bits (IntKind.u32.wrap (p1 * (2 ^ (min (8 : Int).toNat (IntKind.u32.bits))))) ||| BitVec.ofInt IntKind.u32.bits (IntKind.u32.wrap (att (.int .u8) p2 p4))).toNat : Int))) p2 p3 (IntKind.i64.wrap (p4 + 1)) H)
  · refine C0 hb6 (by kernel_rfl) ?_
    refine Rg V_ok 0 [] az (by kernel_rfl) ?_
    exact Lf (Eq.trans (by kernel_rfl) H)
noncomputable def l1 (k : Nat) : Nat → Int → List Int → Int → Int → Option R
  | 0, _, _, _, _ => none
  | m + 1, p1, p2, p3, p4 => b1 (l1 k m) k p1 p2 p3 p4
theorem l1_ok {r} (k : Nat) : ∀ (m1 : Nat) (p1 : Int) (p2 : List Int) (p3 : Int) (p4 : Int), l1 k m1 p1 p2 p3 p4 = some r → Gw P 0 (Q r) (Pb c0 87 [] m1) (s1 p1 p2 p3 p4)
  | 0, _, _, _, _, H => by cases H
  | m1 + 1, p1, p2, p3, p4, H => SU (by kernel_rfl) (b1_ok (l1_ok k m1) H)
noncomputable def f (k : Nat) (a1 : List Int) (a2 : Int) : Option R :=
  (f_octets_may.f k a2).bind fun y1 =>
    if (!y1.1) = true then
      some ((0 : Int), ((1 : Int), ()))
    else
      if (decide ((a1.length : Int) < a2)) = true then
        some ((0 : Int), ((3 : Int), ()))
      else
        if 0 ≤ (0 : Int) ∧ (0 : Int) ≤ a2 ∧ a2 ≤ (a1.length : Int) then
          l1 k k 0 ((a1.take a2.toNat).drop (0 : Int).toNat) (((a1.take a2.toNat).drop (0 : Int).toNat).length : Int) 0
        else none
noncomputable def S : Spec := ⟨ps, rs, .any, none, fun x r => ∃ k, f k x.1 x.2.1 = some r⟩
theorem rl {k a1 a2 r} (e : f k a1 a2 = some r) : S.rel (a1, a2, ()) r := ⟨k, e⟩
theorem f_ok {r k a1 a2} (H : f k a1 a2 = some r) : Gw P 0 (Q r) (Px c0 1 []) (⟨34, [(0, .cv (.one (.sl (.int .u8) a1 .any))), (1, .cv (.one (.int .i64 a2)))], []⟩) := by
  unfold f at H
  refine Rg V_ok 0 [] az (by kernel_rfl) ?_
  obtain ⟨y1, e2, H⟩ := of_bind H
  refine Rg V_ok 0 [(1, hr f_octets_may.S y1)] (ac (f_octets_may.rl e2) az) (by kernel_rfl) ?_
  rcases of_ite H with ⟨hb3, H⟩ | ⟨hb3, H⟩
  · refine C1 hb3 (by kernel_rfl) ?_
    refine Rg V_ok 0 [] az (by kernel_rfl) ?_
    exact Lf (Eq.trans (by kernel_rfl) H)
  · refine C0 hb3 (by kernel_rfl) ?_
    refine Rg V_ok 0 [] az (by kernel_rfl) ?_
    rcases of_ite H with ⟨hb4, H⟩ | ⟨hb4, H⟩
    · refine C1 hb4 (by kernel_rfl) ?_
      refine Rg V_ok 0 [] az (by kernel_rfl) ?_
      exact Lf (Eq.trans (by kernel_rfl) H)
    · refine C0 hb4 (by kernel_rfl) ?_
      refine Rg V_ok 0 [] az (by kernel_rfl) ?_
      obtain ⟨n5, H⟩ := of_if H
      refine Rg V_ok 0 [] (ac n5 az) (by kernel_rfl) ?_
      exact LP k (Jm {fz := [], gr := 0, ad := [], live := [6, 20, 21, 22], src := []} (by kernel_rfl) (by kernel_rfl) (l1_ok k k 0 ((a1.take a2.toNat).drop (0 : Int).toNat) (((a1.take a2.toNat).drop (0 : Int).toNat).length : Int) 0 H))
theorem fits : Fits P 79 S := fits_of V_ok Go.Proofs.Tryd.func79 (by kernel_rfl) (by decide) (by decide) rfl (fun x r ⟨k, H⟩ => of_G (f_ok H))
end f_octets_Get
/-! ### function 64, wayfinder/octets.GetAll -/
namespace f_octets_GetAll
noncomputable def c0 : Code := (Go.Proofs.Tryd.f64.body).getD .skip
abbrev ps : Sg := [(false, (.slice (.int .u8))), (false, (.slice (.int .i64)))]
abbrev rs : Sg := [(false, (.slice (.int .i64))), (false, (.int .i64)), (false, (.int .i64))]
noncomputable def V : Env := { tt := tt, Γ := slk [(79, f_octets_Get.S)] }
theorem V_ok : EnvOk P V := { ck := tt_ck, fits := slk_cons f_octets_Get.fits (slk_nil), mixed := mixed }
abbrev R := Tup rs
noncomputable abbrev Q (r : R) : Exit → St → Prop := Qr tt Go.Proofs.Tryd.f64.results ⟨ps, rs, .any, none, fun _ _ => True⟩ r
noncomputable def s1 (p1 : List Int) (p2 : List Int) (p3 : List Int) (p4 : Int) (p5 : Int) (p6 : List Int) : St := ⟨43, [(0, .cv (.one (.sl (.int .u8) p1 .any))), (7, .cv (.one (.own 0))), (8, .cv (.one (.sl (.int .u8) p2 .any))), (14, .cv (.one (.sl (.int .i64) p3 .any))), (15, .cv (.one (.int .i64 p4))), (16, .cv (.one (.int .i64 p5)))], [(.buf 3 (.int .i64) p6, [])]⟩
noncomputable def b1 (L1 : List Int → List Int → List Int → Int → Int → List Int → Option R) (k : Nat) (p1 : List Int) (p2 : List Int) (p3 : List Int) (p4 : Int) (p5 : Int) (p6 : List Int) : Option R :=
  if (decide (p5 < p4)) = true then
  if 0 ≤ p5 then
    if p5 < (p3.length : Int) then
      (f_octets_Get.f k p2 (att (.int .i64) p3 p5)).bind fun y4 =>
        if (y4.2.1 != (0 : Int)) = true then
          some ([], ((0 : Int), (y4.2.1, ())))
        else
          if (p6.length + 1) * 8 ≤ 140737488355328 then
            if 0 ≤ (att (.int .i64) p3 p5) ∧ (att (.int .i64) p3 p5) ≤ (p2.length : Int) ∧ (p2.length : Int) ≤ (p2.length : Int) then
              L1 p1 ((p2.take (p2.length : Int).toNat).drop (att (.int .i64) p3 p5).toNat) p3 p4 (IntKind.i64.wrap (p5 + 1)) (p6 ++ [y4.1])
            else none
          else none
    else none
  else none
else
  some (p6, ((IntKind.i64.wrap ((p1.length : Int) - (p2.length : Int))), ((0 : Int), ())))
theorem b1_ok {r} {L1 : List Int → List Int → List Int → Int → Int → List Int → Option R} {m1 : Nat} (hL1 : ∀ p1 p2 p3 p4 p5 p6, L1 p1 p2 p3 p4 p5 p6 = some r → Gw P 0 (Q r) (Pb c0 87 [] m1) (s1 p1 p2 p3 p4 p5 p6)) {k p1 p2 p3 p4 p5 p6} (H : b1 L1 k p1 p2 p3 p4 p5 p6 = some r) : Gw P 0 (Q r) (Px c0 151 [m1]) (s1 p1 p2 p3 p4 p5 p6) := by
  unfold b1 at H
  refine Rg V_ok 0 [] az (by kernel_rfl) ?_
  rcases of_ite H with ⟨hb1, H⟩ | ⟨hb1, H⟩
  · refine C1 hb1 (by kernel_rfl) ?_
    obtain ⟨n2, H⟩ := of_if H
    obtain ⟨n3, H⟩ := of_if H
    refine Rg V_ok 0 [] (ac n2 (ac n3 az)) (by kernel_rfl) ?_
    obtain ⟨y4, e5, H⟩ := of_bind H
    refine Rg V_ok 0 [(2, hr f_octets_Get.S y4)] (ac (f_octets_Get.rl e5) az) (by kernel_rfl) ?_
    refine Rg V_ok 0 [] az (by kernel_rfl) ?_
    rcases of_ite H with ⟨hb6, H⟩ | ⟨hb6, H⟩
    · refine C1 hb6 (by kernel_rfl) ?_
      refine Rg V_ok 0 [] az (by kernel_rfl) ?_
      exact Lf (Eq.trans (by kernel_rfl) H)
    · refine C0 hb6 (by kernel_rfl) ?_
      obtain ⟨n7, H⟩ := of_if H
      obtain ⟨n8, H⟩ := of_if H
      refine Rg V_ok 1 [(3, hb 1)] (ac n7 (ac n8 az)) (by kernel_rfl) ?_
      refine Rg V_ok 0 [] az (by kernel_rfl) ?_
      exact Jm {fz := [], gr := 0, ad := [], live := [0, 7, 8, 14, 15, 16], src := [some 1]} (by kernel_rfl) (by kernel_rfl) (hL1 p1 ((p2.take (p2.length : Int).toNat).drop (att (.int .i64) p3 p5).toNat) p3 p4 (IntKind.i64.wrap (p5 + 1)) (p6 ++ [y4.1]) H)
  · refine C0 hb1 (by kernel_rfl) ?_
    refine Rg V_ok 0 [] az (by kernel_rfl) ?_
    exact Lf (Eq.trans (by kernel_rfl) H)
noncomputable def l1 (k : Nat) : Nat → List Int → List Int → List Int → Int → Int → List Int → Option R
  | 0, _, _, _, _, _, _ => none
  | m + 1, p1, p2, p3, p4, p5, p6 => b1 (l1 k m) k p1 p2 p3 p4 p5 p6
theorem l1_ok {r} (k : Nat) : ∀ (m1 : Nat) (p1 : List Int) (p2 : List Int) (p3 : List Int) (p4 : Int) (p5 : Int) (p6 : List Int), l1 k m1 p1 p2 p3 p4 p5 p6 = some r → Gw P 0 (Q r) (Pb c0 87 [] m1) (s1 p1 p2 p3 p4 p5 p6)
  | 0, _, _, _, _, _, _, H => by cases H
  | m1 + 1, p1, p2, p3, p4, p5, p6, H => SU (by kernel_rfl) (b1_ok (l1_ok k m1) H)
noncomputable def f (k : Nat) (a1 : List Int) (a2 : List Int) : Option R :=
  l1 k k a1 a1 a2 (a2.length : Int) 0 []
noncomputable def S : Spec := ⟨ps, rs, .any, none, fun x r => ∃ k, f k x.1 x.2.1 = some r⟩
theorem rl {k a1 a2 r} (e : f k a1 a2 = some r) : S.rel (a1, a2, ()) r := ⟨k, e⟩
theorem f_ok {r k a1 a2} (H : f k a1 a2 = some r) : Gw P 0 (Q r) (Px c0 1 []) (⟨43, [(0, .cv (.one (.sl (.int .u8) a1 .any))), (1, .cv (.one (.sl (.int .i64) a2 .any)))], []⟩) := by
  unfold f at H
  refine Rg V_ok 0 [] az (by kernel_rfl) ?_
  refine Rg V_ok 0 [] az (by kernel_rfl) ?_
  refine Rg V_ok 0 [] az (by kernel_rfl) ?_
  refine Rg V_ok 0 [] az (by kernel_rfl) ?_
  exact LP k (Jm {fz := [], gr := 1, ad := [.ownT 7 0 3 (.int .i64)], live := [0, 7, 8, 14, 15, 16], src := [some 0]} (by kernel_rfl) (by kernel_rfl) (l1_ok k k a1 a1 a2 (a2.length : Int) 0 [] H))
theorem fits : Fits P 64 S := fits_of V_ok Go.Proofs.Tryd.func64 (by kernel_rfl) (by decide) (by decide) rfl (fun x r ⟨k, H⟩ => of_G (f_ok H))
end f_octets_GetAll
/-! ### function 65, wayfinder/rule.Get -/
namespace f_rule_Get
noncomputable def c0 : Code := (Go.Proofs.Tryd.f65.body).getD .skip
abbrev ps : Sg := [(false, (.slice (.int .u8)))]
abbrev rs : Sg := [(true, T1383), (false, (.int .i64))]
noncomputable def V : Env := { tt := tt, Γ := slk [(22, f_rule_May.S), (79, f_octets_Get.S)] }
theorem V_ok : EnvOk P V := { ck := tt_ck, fits := slk_cons f_rule_May.fits (slk_cons f_octets_Get.fits (slk_nil)), mixed := mixed }
abbrev R := Tup rs
noncomputable abbrev Q (r : R) : Exit → St → Prop := Qr tt Go.Proofs.Tryd.f65.results ⟨ps, rs, .any, none, fun _ _ => True⟩ r
noncomputable def s1 (p1 : Bool) (p2 : T1383.T) (p3 : T1383.T) : St := ⟨50, [(2, .cv (.one (.ptr 0 0))), (6, .cv (.one (.ptr 1 0))), (47, .cv (.one (.bool p1)))], [(.box 6, (encC .any T1383 p2)), (.box 6, (encC .any T1383 p3))]⟩
noncomputable def j1 (k : Nat) (p1 : Bool) (p2 : T1383.T) (p3 : T1383.T) : Option R :=
  if p1 = true then
  some (((0, 0), (0, (0, (0, 0)))), ((2 : Int), ()))
else
  some (p3, ((0 : Int), ()))
theorem j1_ok {r} {k p1 p2 p3} (H : j1 k p1 p2 p3 = some r) : Gw P 0 (Q r) (Px c0 111 []) (s1 p1 p2 p3) := by
  unfold j1 at H
  rcases of_ite H with ⟨hb11, H⟩ | ⟨hb11, H⟩
  · refine C1 hb11 (by kernel_rfl) ?_
    refine Rg V_ok 0 [] az (by kernel_rfl) ?_
    exact Lf (Eq.trans (by kernel_rfl) H)
  · refine C0 hb11 (by kernel_rfl) ?_
    refine Rg V_ok 0 [] az (by kernel_rfl) ?_
    exact Lf (Eq.trans (by kernel_rfl) H)
noncomputable def f (k : Nat) (a1 : List Int) : Option R :=
  if (decide ((a1.length : Int) < (9 : Int))) = true then
    some (((0, 0), (0, (0, (0, 0)))), ((3 : Int), ()))
  else
    (f_octets_Get.f k a1 (4 : Int)).bind fun y2 =>
      if (4 : Int) < (a1.length : Int) then
        if (5 : Int) < (a1.length : Int) then
          if (6 : Int) < (a1.length : Int) then
            if (7 : Int) < (a1.length : Int) then
              if (8 : Int) < (a1.length : Int) then
                if (y2.2.1 != (0 : Int)) = true then
                  j1 k true ((0, 0), (0, (0, (0, 0)))) ((y2.1, (IntKind.i64.wrap (att (.int .u8) a1 4))), ((IntKind.i64.wrap ((IntKind.i64.wrap (att (.int .u8) a1 5)) - 1)), ((IntKind.i64.wrap (att (.int .u8) a1 6)), ((IntKind.i64.wrap (att (.int .u8) a1 7)), (IntKind.i64.wrap (att (.int .u8) a1 8))))))
                else
                  (f_rule_May.f k ((y2.1, (IntKind.i64.wrap (att (.int .u8) a1 4))), ((IntKind.i64.wrap ((IntKind.i64.wrap (att (.int .u8) a1 5)) - 1)), ((IntKind.i64.wrap (att (.int .u8) a1 6)), ((IntKind.i64.wrap (att (.int .u8) a1 7)), (IntKind.i64.wrap (att (.int .u8) a1 8))))))).bind fun y9 =>
                    j1 k (!y9.1) ((0, 0), (0, (0, (0, 0)))) ((y2.1, (IntKind.i64.wrap (att (.int .u8) a1 4))), ((IntKind.i64.wrap ((IntKind.i64.wrap (att (.int .u8) a1 5)) - 1)), ((IntKind.i64.wrap (att (.int .u8) a1 6)), ((IntKind.i64.wrap (att (.int .u8) a1 7)), (IntKind.i64.wrap (att (.int .u8) a1 8))))))
              else none
            else none
          else none
        else none
      else none
noncomputable def S : Spec := ⟨ps, rs, .any, none, fun x r => ∃ k, f k x.1 = some r⟩
theorem rl {k a1 r} (e : f k a1 = some r) : S.rel (a1, ()) r := ⟨k, e⟩
theorem f_ok {r k a1} (H : f k a1 = some r) : Gw P 0 (Q r) (Px c0 1 []) (⟨50, [(0, .cv (.one (.sl (.int .u8) a1 .any)))], []⟩) := by
  unfold f at H
  refine Rg V_ok 1 [(0, hb 0)] az (by kernel_rfl) ?_
  refine Rg V_ok 0 [] az (by kernel_rfl) ?_
  rcases of_ite H with ⟨hb1, H⟩ | ⟨hb1, H⟩
  · refine C1 hb1 (by kernel_rfl) ?_
    refine Rg V_ok 0 [] az (by kernel_rfl) ?_
    exact Lf (Eq.trans (by kernel_rfl) H)
  · refine C0 hb1 (by kernel_rfl) ?_
    obtain ⟨y2, e3, H⟩ := of_bind H
    refine Rg V_ok 0 [(1, hr f_octets_Get.S y2)] (ac (f_octets_Get.rl e3) az) (by kernel_rfl) ?_
    obtain ⟨n4, H⟩ := of_if H
    obtain ⟨n5, H⟩ := of_if H
    obtain ⟨n6, H⟩ := of_if H
    obtain ⟨n7, H⟩ := of_if H
    obtain ⟨n8, H⟩ := of_if H
    refine Rg V_ok 1 [(25, hb 1)] (ac (show 0 ≤ (4 : Int) by decide) (ac n4 (ac (show 0 ≤ (5 : Int) by decide) (ac n5 (ac (show 0 ≤ (6 : Int) by decide) (ac n6 (ac (show 0 ≤ (7 : Int) by decide) (ac n7 (ac (show 0 ≤ (8 : Int) by decide) (ac n8 az)))))))))) (by kernel_rfl) ?_
    rcases of_ite H with ⟨hb10, H⟩ | ⟨hb10, H⟩
    · refine Rg V_ok 0 [(1, {bv := some true})] (ac hb10 az) (by kernel_rfl) ?_
      exact Jm {fz := [], gr := 0, ad := [], live := [2, 6, 47], src := [some 0, some 1]} (by kernel_rfl) (by kernel_rfl) (j1_ok H)
    · obtain ⟨y9, e12, H⟩ := of_bind H
      refine Rg V_ok 0 [(1, {bv := some false}), (4, hr f_rule_May.S y9)] (ac hb10 (ac (f_rule_May.rl e12) az)) (by kernel_rfl) ?_
      exact Jm {fz := [], gr := 0, ad := [], live := [2, 6, 47], src := [some 0, some 1]} (by kernel_rfl) (by kernel_rfl) (j1_ok H)
theorem fits : Fits P 65 S := fits_of V_ok Go.Proofs.Tryd.func65 (by kernel_rfl) (by decide) (by decide) rfl (fun x r ⟨k, H⟩ => of_G (f_ok H))
end f_rule_Get
/-! ### function 40, wayfinder/msg.Get -/
namespace f_msg_Get
noncomputable def c0 : Code := (Go.Proofs.Tryd.f40.body).getD .skip
abbrev ps : Sg := [(false, (.slice (.int .u8)))]
abbrev rs : Sg := [(true, T4414), (false, (.int .i64))]
noncomputable def V : Env := { tt := tt, Γ := slk [(57, f_msg_May.S), (64, f_octets_GetAll.S), (65, f_rule_Get.S)] }
theorem V_ok : EnvOk P V := { ck := tt_ck, fits := slk_cons f_msg_May.fits (slk_cons f_octets_GetAll.fits (slk_cons f_rule_Get.fits (slk_nil))), mixed := mixed }
abbrev R := Tup rs
noncomputable abbrev Q (r : R) : Exit → St → Prop := Qr tt Go.Proofs.Tryd.f40.results ⟨ps, rs, .any, none, fun _ _ => True⟩ r
noncomputable def s1 (p1 : List Int) (p2 : Int) (p3 : Int) (p4 : T4414.T) (p5 : T4414.T) : St := ⟨67, [(0, .cv (.one (.sl (.int .u8) p1 .any))), (2, .cv (.one (.ptr 0 0))), (5, .cv (.one (.int .i64 p2))), (7, .cv (.one (.ptr 1 0))), (8, .cv (.one (.int .i64 p3)))], [(.box 10, (encC .any T4414 p4)), (.box 10, (encC .any T4414 p5))]⟩
noncomputable def s2 (p1 : T4414.T) (p2 : T4414.T) : St := ⟨67, [(2, .cv (.one (.ptr 0 0))), (7, .cv (.one (.ptr 1 0)))], [(.box 10, (encC .any T4414 p1)), (.box 10, (encC .any T4414 p2))]⟩
noncomputable def j2 (k : Nat) (p1 : T4414.T) (p2 : T4414.T) : Option R :=
  (f_msg_May.f k p2).bind fun y16 =>
  if (!y16.1) = true then
    some ((0, (0, (0, (0, ((0, 0), (0, (0, (0, 0)))))))), ((2 : Int), ()))
  else
    some (p2, ((0 : Int), ()))
theorem j2_ok {r} {k p1 p2} (H : j2 k p1 p2 = some r) : Gw P 0 (Q r) (Px c0 255 []) (s2 p1 p2) := by
  unfold j2 at H
  obtain ⟨y16, e17, H⟩ := of_bind H
  refine Rg V_ok 0 [(1, hr f_msg_May.S y16)] (ac (f_msg_May.rl e17) az) (by kernel_rfl) ?_
  rcases of_ite H with ⟨hb18, H⟩ | ⟨hb18, H⟩
  · refine C1 hb18 (by kernel_rfl) ?_
    refine Rg V_ok 0 [] az (by kernel_rfl) ?_
    exact Lf (Eq.trans (by kernel_rfl) H)
  · refine C0 hb18 (by kernel_rfl) ?_
    refine Rg V_ok 0 [] az (by kernel_rfl) ?_
    exact Lf (Eq.trans (by kernel_rfl) H)
noncomputable def j1 (k : Nat) (p1 : List Int) (p2 : Int) (p3 : Int) (p4 : T4414.T) (p5 : T4414.T) : Option R :=
  if (decide ((p1.length : Int) < p3)) = true then
  some ((0, (0, (0, (0, ((0, 0), (0, (0, (0, 0)))))))), ((3 : Int), ()))
else
  if (decide ((p1.length : Int) > p3)) = true then
    some ((0, (0, (0, (0, ((0, 0), (0, (0, (0, 0)))))))), ((2 : Int), ()))
  else
    if (p3 == (18 : Int)) = true then
      if 0 ≤ p2 ∧ p2 ≤ (p1.length : Int) ∧ (p1.length : Int) ≤ (p1.length : Int) then
        (f_rule_Get.f k ((p1.take (p1.length : Int).toNat).drop p2.toNat)).bind fun y12 =>
          if (y12.2.1 != (0 : Int)) = true then
            some ((0, (0, (0, (0, ((0, 0), (0, (0, (0, 0)))))))), ((2 : Int), ()))
          else
            j2 k p4 (p5.1, (p5.2.1, (p5.2.2.1, (p5.2.2.2.1, y12.1))))
      else none
    else
      j2 k p4 p5
theorem j1_ok {r} {k p1 p2 p3 p4 p5} (H : j1 k p1 p2 p3 p4 p5 = some r) : Gw P 0 (Q r) (Px c0 127 []) (s1 p1 p2 p3 p4 p5) := by
  unfold j1 at H
  refine Rg V_ok 0 [] az (by kernel_rfl) ?_
  rcases of_ite H with ⟨hb9, H⟩ | ⟨hb9, H⟩
  · refine C1 hb9 (by kernel_rfl) ?_
    refine Rg V_ok 0 [] az (by kernel_rfl) ?_
    exact Lf (Eq.trans (by kernel_rfl) H)
  · refine C0 hb9 (by kernel_rfl) ?_
    refine Rg V_ok 0 [] az (by kernel_rfl) ?_
    rcases of_ite H with ⟨hb10, H⟩ | ⟨hb10, H⟩
    · refine C1 hb10 (by kernel_rfl) ?_
      refine Rg V_ok 0 [] az (by kernel_rfl) ?_
      exact Lf (Eq.trans (by kernel_rfl) H)
    · refine C0 hb10 (by kernel_rfl) ?_
      refine Rg V_ok 0 [] az (by kernel_rfl) ?_
      rcases of_ite H with ⟨hb11, H⟩ | ⟨hb11, H⟩
      · refine C1 hb11 (by kernel_rfl) ?_
        obtain ⟨n13, H⟩ := of_if H
        obtain ⟨y12, e14, H⟩ := of_bind H
        refine Rg V_ok 0 [(3, hr f_rule_Get.S y12)] (ac n13 (ac (f_rule_Get.rl e14) az)) (by kernel_rfl) ?_
        refine Rg V_ok 0 [] az (by kernel_rfl) ?_
        rcases of_ite H with ⟨hb15, H⟩ | ⟨hb15, H⟩
        · refine C1 hb15 (by kernel_rfl) ?_
          refine Rg V_ok 0 [] az (by kernel_rfl) ?_
          exact Lf (Eq.trans (by kernel_rfl) H)
        · refine C0 hb15 (by kernel_rfl) ?_
          exact Jm {fz := [], gr := 0, ad := [], live := [2, 7], src := [some 0, some 1]} (by kernel_rfl) (by kernel_rfl) (j2_ok H)
      · refine C0 hb11 (by kernel_rfl) ?_
        exact Jm {fz := [], gr := 0, ad := [], live := [2, 7], src := [some 0, some 1]} (by kernel_rfl) (by kernel_rfl) (j2_ok H)
noncomputable def f (k : Nat) (a1 : List Int) : Option R :=
  (f_octets_GetAll.f k a1 [1, 3, 3, 2]).bind fun y1 =>
    if (y1.2.2.1 != (0 : Int)) = true then
      some ((0, (0, (0, (0, ((0, 0), (0, (0, (0, 0)))))))), (y1.2.2.1, ()))
    else
      if (0 : Int) < (y1.1.length : Int) then
        if (1 : Int) < (y1.1.length : Int) then
          if (2 : Int) < (y1.1.length : Int) then
            if (3 : Int) < (y1.1.length : Int) then
              if ((att (.int .i64) y1.1 0) == (2 : Int)) = true then
                j1 k a1 y1.2.1 18 (0, (0, (0, (0, ((0, 0), (0, (0, (0, 0)))))))) ((att (.int .i64) y1.1 0), ((att (.int .i64) y1.1 1), ((att (.int .i64) y1.1 2), ((att (.int .i64) y1.1 3), ((0, 0), (0, (0, (0, 0))))))))
              else
                j1 k a1 y1.2.1 9 (0, (0, (0, (0, ((0, 0), (0, (0, (0, 0)))))))) ((att (.int .i64) y1.1 0), ((att (.int .i64) y1.1 1), ((att (.int .i64) y1.1 2), ((att (.int .i64) y1.1 3), ((0, 0), (0, (0, (0, 0))))))))
            else none
          else none
        else none
      else none
noncomputable def S : Spec := ⟨ps, rs, .any, none, fun x r => ∃ k, f k x.1 = some r⟩
theorem rl {k a1 r} (e : f k a1 = some r) : S.rel (a1, ()) r := ⟨k, e⟩
theorem f_ok {r k a1} (H : f k a1 = some r) : Gw P 0 (Q r) (Px c0 1 []) (⟨67, [(0, .cv (.one (.sl (.int .u8) a1 .any)))], []⟩) := by
  unfold f at H
  refine Rg V_ok 1 [(0, hb 0)] az (by kernel_rfl) ?_
  obtain ⟨y1, e2, H⟩ := of_bind H
  refine Rg V_ok 0 [(2, hr f_octets_GetAll.S y1)] (ac (f_octets_GetAll.rl e2) az) (by kernel_rfl) ?_
  refine Rg V_ok 0 [] az (by kernel_rfl) ?_
  rcases of_ite H with ⟨hb3, H⟩ | ⟨hb3, H⟩
  · refine C1 hb3 (by kernel_rfl) ?_
    refine Rg V_ok 0 [] az (by kernel_rfl) ?_
    exact Lf (Eq.trans (by kernel_rfl) H)
  · refine C0 hb3 (by kernel_rfl) ?_
    obtain ⟨n4, H⟩ := of_if H
    obtain ⟨n5, H⟩ := of_if H
    obtain ⟨n6, H⟩ := of_if H
    obtain ⟨n7, H⟩ := of_if H
    refine Rg V_ok 1 [(13, hb 1)] (ac (show 0 ≤ (0 : Int) by decide) (ac n4 (ac (show 0 ≤ (1 : Int) by decide) (ac n5 (ac (show 0 ≤ (2 : Int) by decide) (ac n6 (ac (show 0 ≤ (3 : Int) by decide) (ac n7 az)))))))) (by kernel_rfl) ?_
    refine Rg V_ok 0 [] az (by kernel_rfl) ?_
    refine Rg V_ok 0 [] az (by kernel_rfl) ?_
    rcases of_ite H with ⟨hb8, H⟩ | ⟨hb8, H⟩
    · refine C1 hb8 (by kernel_rfl) ?_
      refine Rg V_ok 0 [] az (by kernel_rfl) ?_
      exact Jm {fz := [], gr := 0, ad := [], live := [0, 2, 5, 7, 8], src := [some 0, some 1]} (by kernel_rfl) (by kernel_rfl) (j1_ok H)
    · refine C0 hb8 (by kernel_rfl) ?_
      exact Jm {fz := [], gr := 0, ad := [], live := [0, 2, 5, 7, 8], src := [some 0, some 1]} (by kernel_rfl) (by kernel_rfl) (j1_ok H)
theorem fits : Fits P 40 S := fits_of V_ok Go.Proofs.Tryd.func40 (by kernel_rfl) (by decide) (by decide) rfl (fun x r ⟨k, H⟩ => of_G (f_ok H))
end f_msg_Get
/-! ### function 33, wayfinder/frame.Open$2, where it is called -/
namespace i_frame_Open_2_2b5
noncomputable def c0 : Code := (Go.Proofs.Tryd.f33.body).getD .skip
noncomputable def V : Env := { tt := tt, Γ := slk [(34, f_frame_unless.S)] }
theorem V_ok : EnvOk P V := { ck := tt_ck, fits := slk_cons f_frame_unless.fits (slk_nil), mixed := mixed }
abbrev R := (Int) × Unit
noncomputable def s0 (p1 : List Int) (p2 : T4414.T) (p3 : Int) : St := ⟨6, [(0, .cv (.one (.ptr 0 0)))], [(.box 1, [.sl (.int .u8) p1 .any]), (.box 10, (encC .any T4414 p2)), (.box 1, [.int .i64 p3]), (.box 6, [.fn 33 [] [(0, 0)], .fn 35 [] [(0, 0), (2, 0)], .fn 36 [] [(0, 0), (4, 0)], .fn 37 [] [(0, 0), (4, 0)], .fn 38 [] [(0, 0)], .fn 39 [] [(2, 0), (0, 0)]]), (.box 1, [.fn 32 [] [(2, 0)]])]⟩
noncomputable def out (p1 : List Int) (p2 : T4414.T) (p3 : Int) (r : R) : St := ⟨6, [(1, .cv (.one (.int .i64 r.1)))], [(.box 1, [.sl (.int .u8) p1 .any]), (.box 10, (encC .any T4414 p2)), (.box 1, [.int .i64 p3]), (.box 6, [.fn 33 [] [(0, 0)], .fn 35 [] [(0, 0), (2, 0)], .fn 36 [] [(0, 0), (4, 0)], .fn 37 [] [(0, 0), (4, 0)], .fn 38 [] [(0, 0)], .fn 39 [] [(2, 0), (0, 0)]]), (.box 1, [.fn 32 [] [(2, 0)]])]⟩
abbrev Q (p1 : List Int) (p2 : T4414.T) (p3 : Int) (r : R) := CallQ 5 (out p1 p2 p3 r)
noncomputable def f (k : Nat) (p1 : List Int) (p2 : T4414.T) (p3 : Int) : Option R :=
  (f_frame_unless.f k (decide ((p1.length : Int) < (4 : Int))) (3 : Int)).bind fun y1 =>
    some (y1.1, ())
theorem f_ok {r k p1 p2 p3} (H : f k p1 p2 p3 = some r) : Gw P 5 (Q p1 p2 p3 r) (Px c0 1 []) (s0 p1 p2 p3) := by
  unfold f at H
  refine Rg V_ok 0 [] az (by kernel_rfl) ?_
  obtain ⟨y1, e2, H⟩ := of_bind H
  refine Rg V_ok 0 [(3, hr f_frame_unless.S y1)] (ac (f_frame_unless.rl e2) az) (by kernel_rfl) ?_
  obtain rfl := Option.some.inj H
  exact Lq {fz := [], gr := 0, ad := [], live := [1], src := [some 0, some 1, some 2, some 3, some 4]} (by kernel_rfl)
theorem ok {r k p1 p2 p3} (H : f k p1 p2 p3 = some r) : W P 5 c0 (s0 p1 p2 p3) (CallQ 5 (out p1 p2 p3 r)) := of_G (f_ok H)
theorem at_ : FnAt P 33 6 c0 Go.Proofs.Tryd.f33.results := fnAt Go.Proofs.Tryd.func33 (by kernel_rfl) (by decide) (by kernel_rfl) (by kernel_rfl)
end i_frame_Open_2_2b5
/-! ### function 35, wayfinder/frame.Open$3, where it is called -/
namespace i_frame_Open_3_96f
noncomputable def c0 : Code := (Go.Proofs.Tryd.f35.body).getD .skip
noncomputable def V : Env := { tt := tt, Γ := slk [(34, f_frame_unless.S)] }
theorem V_ok : EnvOk P V := { ck := tt_ck, fits := slk_cons f_frame_unless.fits (slk_nil), mixed := mixed }
abbrev R := (Int) × (Int) × Unit
noncomputable def s0 (p1 : List Int) (p2 : T4414.T) (p3 : Int) : St := ⟨12, [(0, .cv (.one (.ptr 0 0))), (1, .cv (.one (.ptr 2 0)))], [(.box 1, [.sl (.int .u8) p1 .any]), (.box 10, (encC .any T4414 p2)), (.box 1, [.int .i64 p3]), (.box 6, [.fn 33 [] [(0, 0)], .fn 35 [] [(0, 0), (2, 0)], .fn 36 [] [(0, 0), (4, 0)], .fn 37 [] [(0, 0), (4, 0)], .fn 38 [] [(0, 0)], .fn 39 [] [(2, 0), (0, 0)]]), (.box 1, [.fn 32 [] [(2, 0)]])]⟩
noncomputable def out (p1 : List Int) (p2 : T4414.T) (p3 : Int) (r : R) : St := ⟨12, [(2, .cv (.one (.int .i64 r.1)))], [(.box 1, [.sl (.int .u8) p1 .any]), (.box 10, (encC .any T4414 p2)), (.box 1, [.int .i64 r.2.1]), (.box 6, [.fn 33 [] [(0, 0)], .fn 35 [] [(0, 0), (2, 0)], .fn 36 [] [(0, 0), (4, 0)], .fn 37 [] [(0, 0), (4, 0)], .fn 38 [] [(0, 0)], .fn 39 [] [(2, 0), (0, 0)]]), (.box 1, [.fn 32 [] [(2, 0)]])]⟩
abbrev Q (p1 : List Int) (p2 : T4414.T) (p3 : Int) (r : R) := CallQ 5 (out p1 p2 p3 r)
noncomputable def f (k : Nat) (p1 : List Int) (p2 : T4414.T) (p3 : Int) : Option R :=
  if (1 : Int) < (p1.length : Int) then
    if (0 : Int) < (p1.length : Int) then
      (f_frame_unless.f k ((att (.int .u8) p1 0) != (197 : Int)) (2 : Int)).bind fun y2 =>
        some (y2.1, ((IntKind.i64.wrap (att (.int .u8) p1 1)), ()))
    else none
  else none
theorem f_ok {r k p1 p2 p3} (H : f k p1 p2 p3 = some r) : Gw P 5 (Q p1 p2 p3 r) (Px c0 1 []) (s0 p1 p2 p3) := by
  unfold f at H
  refine Rg V_ok 0 [] az (by kernel_rfl) ?_
  obtain ⟨n1, H⟩ := of_if H
  refine Rg V_ok 0 [] (ac (show 0 ≤ (1 : Int) by decide) (ac n1 az)) (by kernel_rfl) ?_
  obtain ⟨n3, H⟩ := of_if H
  obtain ⟨y2, e4, H⟩ := of_bind H
  refine Rg V_ok 0 [(4, hr f_frame_unless.S y2)] (ac (show 0 ≤ (0 : Int) by decide) (ac n3 (ac (f_frame_unless.rl e4) az))) (by kernel_rfl) ?_
  obtain rfl := Option.some.inj H
  exact Lq {fz := [], gr := 0, ad := [], live := [2], src := [some 0, some 1, some 2, some 3, some 4]} (by kernel_rfl)
theorem ok {r k p1 p2 p3} (H : f k p1 p2 p3 = some r) : W P 5 c0 (s0 p1 p2 p3) (CallQ 5 (out p1 p2 p3 r)) := of_G (f_ok H)
theorem at_ : FnAt P 35 12 c0 Go.Proofs.Tryd.f35.results := fnAt Go.Proofs.Tryd.func35 (by kernel_rfl) (by decide) (by kernel_rfl) (by kernel_rfl)
end i_frame_Open_3_96f
/-! ### function 32, wayfinder/frame.Open$1, where it is called -/
namespace i_frame_Open_1_da9
noncomputable def c0 : Code := (Go.Proofs.Tryd.f32.body).getD .skip
noncomputable def V : Env := { tt := tt, Γ := slk [] }
theorem V_ok : EnvOk P V := { ck := tt_ck, fits := slk_nil, mixed := mixed }
abbrev R := (Int) × Unit
noncomputable def s0 (p1 : List Int) (p2 : T4414.T) (p3 : Int) : St := ⟨8, [(0, .cv (.one (.ptr 2 0)))], [(.box 1, [.sl (.int .u8) p1 .any]), (.box 10, (encC .any T4414 p2)), (.box 1, [.int .i64 p3]), (.box 1, [.fn 32 [] [(2, 0)]]), (.box 6, [.fn 33 [] [(0, 0)], .fn 35 [] [(0, 0), (2, 0)], .fn 36 [] [(0, 0), (3, 0)], .fn 37 [] [(0, 0), (3, 0)], .fn 38 [] [(0, 0)], .fn 39 [] [(2, 0), (0, 0)]])]⟩
noncomputable def out (p1 : List Int) (p2 : T4414.T) (p3 : Int) (r : R) : St := ⟨8, [(1, .cv (.one (.int .i64 r.1)))], [(.box 1, [.sl (.int .u8) p1 .any]), (.box 10, (encC .any T4414 p2)), (.box 1, [.int .i64 p3]), (.box 1, [.fn 32 [] [(2, 0)]]), (.box 6, [.fn 33 [] [(0, 0)], .fn 35 [] [(0, 0), (2, 0)], .fn 36 [] [(0, 0), (3, 0)], .fn 37 [] [(0, 0), (3, 0)], .fn 38 [] [(0, 0)], .fn 39 [] [(2, 0), (0, 0)]])]⟩
abbrev Q (p1 : List Int) (p2 : T4414.T) (p3 : Int) (r : R) := CallQ 5 (out p1 p2 p3 r)
noncomputable def f (k : Nat) (p1 : List Int) (p2 : T4414.T) (p3 : Int) : Option R :=
  some ((IntKind.i64.wrap ((IntKind.i64.wrap ((IntKind.i64.wrap (2 + p3)) + (Int.tmod p3 2))) + 2)), ())
theorem f_ok {r k p1 p2 p3} (H : f k p1 p2 p3 = some r) : Gw P 5 (Q p1 p2 p3 r) (Px c0 1 []) (s0 p1 p2 p3) := by
  unfold f at H
  refine Rg V_ok 0 [] az (by kernel_rfl) ?_
  refine Rg V_ok 0 [] (ac (show (2 : Int) ≠ 0 by decide) az) (by kernel_rfl) ?_
  obtain rfl := Option.some.inj H
  exact Lq {fz := [], gr := 0, ad := [], live := [1], src := [some 0, some 1, some 2, some 3, some 4]} (by kernel_rfl)
theorem ok {r k p1 p2 p3} (H : f k p1 p2 p3 = some r) : W P 5 c0 (s0 p1 p2 p3) (CallQ 5 (out p1 p2 p3 r)) := of_G (f_ok H)
theorem at_ : FnAt P 32 8 c0 Go.Proofs.Tryd.f32.results := fnAt Go.Proofs.Tryd.func32 (by kernel_rfl) (by decide) (by kernel_rfl) (by kernel_rfl)
end i_frame_Open_1_da9
/-! ### function 36, wayfinder/frame.Open$4, where it is called -/
namespace i_frame_Open_4_316
noncomputable def c0 : Code := (Go.Proofs.Tryd.f36.body).getD .skip
noncomputable def V : Env := { tt := tt, Γ := slk [(34, f_frame_unless.S)] }
theorem V_ok : EnvOk P V := { ck := tt_ck, fits := slk_cons f_frame_unless.fits (slk_nil), mixed := mixed }
abbrev R := (Int) × Unit
noncomputable def s0 (p1 : List Int) (p2 : T4414.T) (p3 : Int) : St := ⟨9, [(0, .cv (.one (.ptr 0 0))), (1, .cv (.one (.ptr 3 0)))], [(.box 1, [.sl (.int .u8) p1 .any]), (.box 10, (encC .any T4414 p2)), (.box 1, [.int .i64 p3]), (.box 1, [.fn 32 [] [(2, 0)]]), (.box 6, [.fn 33 [] [(0, 0)], .fn 35 [] [(0, 0), (2, 0)], .fn 36 [] [(0, 0), (3, 0)], .fn 37 [] [(0, 0), (3, 0)], .fn 38 [] [(0, 0)], .fn 39 [] [(2, 0), (0, 0)]])]⟩
noncomputable def out (p1 : List Int) (p2 : T4414.T) (p3 : Int) (r : R) : St := ⟨9, [(2, .cv (.one (.int .i64 r.1)))], [(.box 1, [.sl (.int .u8) p1 .any]), (.box 10, (encC .any T4414 p2)), (.box 1, [.int .i64 p3]), (.box 1, [.fn 32 [] [(2, 0)]]), (.box 6, [.fn 33 [] [(0, 0)], .fn 35 [] [(0, 0), (2, 0)], .fn 36 [] [(0, 0), (3, 0)], .fn 37 [] [(0, 0), (3, 0)], .fn 38 [] [(0, 0)], .fn 39 [] [(2, 0), (0, 0)]])]⟩
abbrev Q (p1 : List Int) (p2 : T4414.T) (p3 : Int) (r : R) := CallQ 5 (out p1 p2 p3 r)
noncomputable def f (k : Nat) (p1 : List Int) (p2 : T4414.T) (p3 : Int) : Option R :=
  (i_frame_Open_1_da9.f k p1 p2 p3).bind fun y1 =>
    (f_frame_unless.f k (decide ((p1.length : Int) < y1.1)) (3 : Int)).bind fun y3 =>
        some (y3.1, ())
theorem f_ok {r k p1 p2 p3} (H : f k p1 p2 p3 = some r) : Gw P 5 (Q p1 p2 p3 r) (Px c0 1 []) (s0 p1 p2 p3) := by
  unfold f at H
  refine Rg V_ok 0 [] az (by kernel_rfl) ?_
  obtain ⟨y1, e2, H⟩ := of_bind H
  obtain ⟨y3, e4, H⟩ := of_bind H
  let x : Nx := (Px c0 5 [])
  let t0 : St := ⟨9, [(0, .cv (.one (.ptr 0 0))), (1, .cv (.one (.ptr 3 0)))], [(.box 1, [.sl (.int .u8) p1 .any]), (.box 10, (encC .any T4414 p2)), (.box 1, [.int .i64 p3]), (.box 1, [.fn 32 [] [(2, 0)]]), (.box 6, [.fn 33 [] [(0, 0)], .fn 35 [] [(0, 0), (2, 0)], .fn 36 [] [(0, 0), (3, 0)], .fn 37 [] [(0, 0), (3, 0)], .fn 38 [] [(0, 0)], .fn 39 [] [(2, 0), (0, 0)]])]⟩
  refine Jm (x' := x) (τ := t0) {live := [0, 1], src := [some 0, some 1, some 2, some 3, some 4]} (by kernel_rfl) (by kernel_rfl) ?_
  let Φ := phiX P 5 (Q p1 p2 p3 r) x
  let t1 : St := stpS V x 0 [] 0 (tl [1, 3] [0, 1, 2, 3, 4]) t0
  let t2 : St := stpS V x 0 [] 2 (tl [0, 5] [0, 1, 2, 3, 4]) t0
  let t3 : St := stpS V x 0 [] 1 (tl [1, 4] [0, 1, 2, 3, 4]) t1
  let t4 : St := stpS V x 0 [] 2 (tl [3, 5] [0, 1, 2, 3, 4]) t1
  let t5 : St := clT V.tt x 3 Go.Proofs.Tryd.f32.results (tl [0, 6] [0, 1, 2, 3, 4]) t2 (i_frame_Open_1_da9.out p1 p2 p3 y1)
  let t6 : St := stpS V x 0 [] 2 (tl [4, 5] [0, 1, 2, 3, 4]) t3
  let t7 : St := clT V.tt x 3 Go.Proofs.Tryd.f32.results (tl [3, 6] [0, 1, 2, 3, 4]) t4 (i_frame_Open_1_da9.out p1 p2 p3 y1)
  let t8 : St := clT V.tt x 3 Go.Proofs.Tryd.f32.results (tl [4, 6] [0, 1, 2, 3, 4]) t6 (i_frame_Open_1_da9.out p1 p2 p3 y1)
  let t9 : St := stpS V x 0 [] 4 (tl [7] [0, 1, 2, 3, 4]) t8
  let t10 : St := stpS V x 0 [(5, hr f_frame_unless.S y3)] 5 (tl [8] [0, 1, 2, 3, 4]) t9
  let t11 : St := stpS V x 0 [] 6 (tl [2] [0, 1, 2, 3, 4]) t10
  have w11 : WA P 5 (opsX x) 0 (bs 7 127) Φ t11 := by
    refine WA_nil (by kernel_rfl) (RAn (by kernel_rfl) ?_)
    obtain rfl := Option.some.inj H
    exact Lq {fz := [], gr := 0, ad := [], live := [2], src := [some 0, some 1, some 2, some 3, some 4]} (by kernel_rfl)
  have w10 : WA P 5 (opsX x) 1 (bs 7 63) Φ t10 := WAs (an (WE V_ok 0 [] 6 (tl [2] [0, 1, 2, 3, 4]) az w11 (by kernel_rfl) (by kernel_rfl) (by kernel_rfl)) aN) (by kernel_rfl) rfl
  have w9 : WA P 5 (opsX x) 2 (bs 7 31) Φ t9 := WAs (an (WE V_ok 0 [(5, hr f_frame_unless.S y3)] 5 (tl [8] [0, 1, 2, 3, 4]) (ac (f_frame_unless.rl e4) az) w10 (by kernel_rfl) (by kernel_rfl) (by kernel_rfl)) aN) (by kernel_rfl) rfl
  have w8 : WA P 5 (opsX x) 3 (bs 7 15) Φ t8 := WAs (an (WE V_ok 0 [] 4 (tl [7] [0, 1, 2, 3, 4]) az w9 (by kernel_rfl) (by kernel_rfl) (by kernel_rfl)) aN) (by kernel_rfl) rfl
  have w7 : WA P 5 (opsX x) 4 (bs 7 13) Φ t7 := WAs (an (WE V_ok 0 [] 1 (tl [4, 6] [0, 1, 2, 3, 4]) az w8 (by kernel_rfl) (by kernel_rfl) (by kernel_rfl)) aN) (by kernel_rfl) rfl
  have w6 : WA P 5 (opsX x) 4 (bs 7 7) Φ t6 := WAs (an (WC V_ok 3 (tl [4, 6] [0, 1, 2, 3, 4]) i_frame_Open_1_da9.at_ (i_frame_Open_1_da9.ok e2) w8 (by kernel_rfl) (by kernel_rfl) (by kernel_rfl) (by kernel_rfl) (by kernel_rfl)) aN) (by kernel_rfl) rfl
  have w5 : WA P 5 (opsX x) 5 (bs 7 12) Φ t5 := WAs (an (WE V_ok 0 [] 0 (tl [3, 6] [0, 1, 2, 3, 4]) az w7 (by kernel_rfl) (by kernel_rfl) (by kernel_rfl)) aN) (by kernel_rfl) rfl
  have w4 : WA P 5 (opsX x) 5 (bs 7 5) Φ t4 := WAs (an (WE V_ok 0 [] 1 (tl [4, 5] [0, 1, 2, 3, 4]) az w6 (by kernel_rfl) (by kernel_rfl) (by kernel_rfl)) (an (WC V_ok 3 (tl [3, 6] [0, 1, 2, 3, 4]) i_frame_Open_1_da9.at_ (i_frame_Open_1_da9.ok e2) w7 (by kernel_rfl) (by kernel_rfl) (by kernel_rfl) (by kernel_rfl) (by kernel_rfl)) aN)) (by kernel_rfl) rfl
  have w3 : WA P 5 (opsX x) 5 (bs 7 3) Φ t3 := WAs (an (WE V_ok 0 [] 2 (tl [4, 5] [0, 1, 2, 3, 4]) az w6 (by kernel_rfl) (by kernel_rfl) (by kernel_rfl)) aN) (by kernel_rfl) rfl
  have w2 : WA P 5 (opsX x) 6 (bs 7 4) Φ t2 := WAs (an (WE V_ok 0 [] 0 (tl [3, 5] [0, 1, 2, 3, 4]) az w4 (by kernel_rfl) (by kernel_rfl) (by kernel_rfl)) (an (WC V_ok 3 (tl [0, 6] [0, 1, 2, 3, 4]) i_frame_Open_1_da9.at_ (i_frame_Open_1_da9.ok e2) w5 (by kernel_rfl) (by kernel_rfl) (by kernel_rfl) (by kernel_rfl) (by kernel_rfl)) aN)) (by kernel_rfl) rfl
  have w1 : WA P 5 (opsX x) 6 (bs 7 1) Φ t1 := WAs (an (WE V_ok 0 [] 1 (tl [1, 4] [0, 1, 2, 3, 4]) az w3 (by kernel_rfl) (by kernel_rfl) (by kernel_rfl)) (an (WE V_ok 0 [] 2 (tl [3, 5] [0, 1, 2, 3, 4]) az w4 (by kernel_rfl) (by kernel_rfl) (by kernel_rfl)) aN)) (by kernel_rfl) rfl
  have w0 : WA P 5 (opsX x) 7 (bs 7 0) Φ t0 := WAs (an (WE V_ok 0 [] 0 (tl [1, 3] [0, 1, 2, 3, 4]) az w1 (by kernel_rfl) (by kernel_rfl) (by kernel_rfl)) (an (WE V_ok 0 [] 2 (tl [0, 5] [0, 1, 2, 3, 4]) az w2 (by kernel_rfl) (by kernel_rfl) (by kernel_rfl)) aN)) (by kernel_rfl) rfl
  exact RA V_ok 7 (by kernel_rfl) (by kernel_rfl) (by kernel_rfl) w0
theorem ok {r k p1 p2 p3} (H : f k p1 p2 p3 = some r) : W P 5 c0 (s0 p1 p2 p3) (CallQ 5 (out p1 p2 p3 r)) := of_G (f_ok H)
theorem at_ : FnAt P 36 9 c0 Go.Proofs.Tryd.f36.results := fnAt Go.Proofs.Tryd.func36 (by kernel_rfl) (by decide) (by kernel_rfl) (by kernel_rfl)
end i_frame_Open_4_316
/-! ### function 37, wayfinder/frame.Open$5, where it is called -/
namespace i_frame_Open_5_316
noncomputable def c0 : Code := (Go.Proofs.Tryd.f37.body).getD .skip
noncomputable def V : Env := { tt := tt, Γ := slk [(34, f_frame_unless.S)] }
theorem V_ok : EnvOk P V := { ck := tt_ck, fits := slk_cons f_frame_unless.fits (slk_nil), mixed := mixed }
abbrev R := (Int) × Unit
noncomputable def s0 (p1 : List Int) (p2 : T4414.T) (p3 : Int) : St := ⟨9, [(0, .cv (.one (.ptr 0 0))), (1, .cv (.one (.ptr 3 0)))], [(.box 1, [.sl (.int .u8) p1 .any]), (.box 10, (encC .any T4414 p2)), (.box 1, [.int .i64 p3]), (.box 1, [.fn 32 [] [(2, 0)]]), (.box 6, [.fn 33 [] [(0, 0)], .fn 35 [] [(0, 0), (2, 0)], .fn 36 [] [(0, 0), (3, 0)], .fn 37 [] [(0, 0), (3, 0)], .fn 38 [] [(0, 0)], .fn 39 [] [(2, 0), (0, 0)]])]⟩
noncomputable def out (p1 : List Int) (p2 : T4414.T) (p3 : Int) (r : R) : St := ⟨9, [(2, .cv (.one (.int .i64 r.1)))], [(.box 1, [.sl (.int .u8) p1 .any]), (.box 10, (encC .any T4414 p2)), (.box 1, [.int .i64 p3]), (.box 1, [.fn 32 [] [(2, 0)]]), (.box 6, [.fn 33 [] [(0, 0)], .fn 35 [] [(0, 0), (2, 0)], .fn 36 [] [(0, 0), (3, 0)], .fn 37 [] [(0, 0), (3, 0)], .fn 38 [] [(0, 0)], .fn 39 [] [(2, 0), (0, 0)]])]⟩
abbrev Q (p1 : List Int) (p2 : T4414.T) (p3 : Int) (r : R) := CallQ 5 (out p1 p2 p3 r)
noncomputable def f (k : Nat) (p1 : List Int) (p2 : T4414.T) (p3 : Int) : Option R :=
  (i_frame_Open_1_da9.f k p1 p2 p3).bind fun y1 =>
    (f_frame_unless.f k (decide ((p1.length : Int) > y1.1)) (2 : Int)).bind fun y3 =>
        some (y3.1, ())
theorem f_ok {r k p1 p2 p3} (H : f k p1 p2 p3 = some r) : Gw P 5 (Q p1 p2 p3 r) (Px c0 1 []) (s0 p1 p2 p3) := by
  unfold f at H
  refine Rg V_ok 0 [] az (by kernel_rfl) ?_
  obtain ⟨y1, e2, H⟩ := of_bind H
  obtain ⟨y3, e4, H⟩ := of_bind H
  let x : Nx := (Px c0 5 [])
  let t0 : St := ⟨9, [(0, .cv (.one (.ptr 0 0))), (1, .cv (.one (.ptr 3 0)))], [(.box 1, [.sl (.int .u8) p1 .any]), (.box 10, (encC .any T4414 p2)), (.box 1, [.int .i64 p3]), (.box 1, [.fn 32 [] [(2, 0)]]), (.box 6, [.fn 33 [] [(0, 0)], .fn 35 [] [(0, 0), (2, 0)], .fn 36 [] [(0, 0), (3, 0)], .fn 37 [] [(0, 0), (3, 0)], .fn 38 [] [(0, 0)], .fn 39 [] [(2, 0), (0, 0)]])]⟩
  refine Jm (x' := x) (τ := t0) {live := [0, 1], src := [some 0, some 1, some 2, some 3, some 4]} (by kernel_rfl) (by kernel_rfl) ?_
  let Φ := phiX P 5 (Q p1 p2 p3 r) x
  let t1 : St := stpS V x 0 [] 0 (tl [1, 3] [0, 1, 2, 3, 4]) t0
  let t2 : St := stpS V x 0 [] 2 (tl [0, 5] [0, 1, 2, 3, 4]) t0
  let t3 : St := stpS V x 0 [] 1 (tl [1, 4] [0, 1, 2, 3, 4]) t1
  let t4 : St := stpS V x 0 [] 2 (tl [3, 5] [0, 1, 2, 3, 4]) t1
  let t5 : St := clT V.tt x 3 Go.Proofs.Tryd.f32.results (tl [0, 6] [0, 1, 2, 3, 4]) t2 (i_frame_Open_1_da9.out p1 p2 p3 y1)
  let t6 : St := stpS V x 0 [] 2 (tl [4, 5] [0, 1, 2, 3, 4]) t3
  let t7 : St := clT V.tt x 3 Go.Proofs.Tryd.f32.results (tl [3, 6] [0, 1, 2, 3, 4]) t4 (i_frame_Open_1_da9.out p1 p2 p3 y1)
  let t8 : St := clT V.tt x 3 Go.Proofs.Tryd.f32.results (tl [4, 6] [0, 1, 2, 3, 4]) t6 (i_frame_Open_1_da9.out p1 p2 p3 y1)
  let t9 : St := stpS V x 0 [] 4 (tl [7] [0, 1, 2, 3, 4]) t8
  let t10 : St := stpS V x 0 [(5, hr f_frame_unless.S y3)] 5 (tl [8] [0, 1, 2, 3, 4]) t9
  let t11 : St := stpS V x 0 [] 6 (tl [2] [0, 1, 2, 3, 4]) t10
  have w11 : WA P 5 (opsX x) 0 (bs 7 127) Φ t11 := by
    refine WA_nil (by kernel_rfl) (RAn (by kernel_rfl) ?_)
    obtain rfl := Option.some.inj H
    exact Lq {fz := [], gr := 0, ad := [], live := [2], src := [some 0, some 1, some 2, some 3, some 4]} (by kernel_rfl)
  have w10 : WA P 5 (opsX x) 1 (bs 7 63) Φ t10 := WAs (an (WE V_ok 0 [] 6 (tl [2] [0, 1, 2, 3, 4]) az w11 (by kernel_rfl) (by kernel_rfl) (by kernel_rfl)) aN) (by kernel_rfl) rfl
  have w9 : WA P 5 (opsX x) 2 (bs 7 31) Φ t9 := WAs (an (WE V_ok 0 [(5, hr f_frame_unless.S y3)] 5 (tl [8] [0, 1, 2, 3, 4]) (ac (f_frame_unless.rl e4) az) w10 (by kernel_rfl) (by kernel_rfl) (by kernel_rfl)) aN) (by kernel_rfl) rfl
  have w8 : WA P 5 (opsX x) 3 (bs 7 15) Φ t8 := WAs (an (WE V_ok 0 [] 4 (tl [7] [0, 1, 2, 3, 4]) az w9 (by kernel_rfl) (by kernel_rfl) (by kernel_rfl)) aN) (by kernel_rfl) rfl
  have w7 : WA P 5 (opsX x) 4 (bs 7 13) Φ t7 := WAs (an (WE V_ok 0 [] 1 (tl [4, 6] [0, 1, 2, 3, 4]) az w8 (by kernel_rfl) (by kernel_rfl) (by kernel_rfl)) aN) (by kernel_rfl) rfl
  have w6 : WA P 5 (opsX x) 4 (bs 7 7) Φ t6 := WAs (an (WC V_ok 3 (tl [4, 6] [0, 1, 2, 3, 4]) i_frame_Open_1_da9.at_ (i_frame_Open_1_da9.ok e2) w8 (by kernel_rfl) (by kernel_rfl) (by kernel_rfl) (by kernel_rfl) (by kernel_rfl)) aN) (by kernel_rfl) rfl
  have w5 : WA P 5 (opsX x) 5 (bs 7 12) Φ t5 := WAs (an (WE V_ok 0 [] 0 (tl [3, 6] [0, 1, 2, 3, 4]) az w7 (by kernel_rfl) (by kernel_rfl) (by kernel_rfl)) aN) (by kernel_rfl) rfl
  have w4 : WA P 5 (opsX x) 5 (bs 7 5) Φ t4 := WAs (an (WE V_ok 0 [] 1 (tl [4, 5] [0, 1, 2, 3, 4]) az w6 (by kernel_rfl) (by kernel_rfl) (by kernel_rfl)) (an (WC V_ok 3 (tl [3, 6] [0, 1, 2, 3, 4]) i_frame_Open_1_da9.at_ (i_frame_Open_1_da9.ok e2) w7 (by kernel_rfl) (by kernel_rfl) (by kernel_rfl) (by kernel_rfl) (by kernel_rfl)) aN)) (by kernel_rfl) rfl
  have w3 : WA P 5 (opsX x) 5 (bs 7 3) Φ t3 := WAs (an (WE V_ok 0 [] 2 (tl [4, 5] [0, 1, 2, 3, 4]) az w6 (by kernel_rfl) (by kernel_rfl) (by kernel_rfl)) aN) (by kernel_rfl) rfl
  have w2 : WA P 5 (opsX x) 6 (bs 7 4) Φ t2 := WAs (an (WE V_ok 0 [] 0 (tl [3, 5] [0, 1, 2, 3, 4]) az w4 (by kernel_rfl) (by kernel_rfl) (by kernel_rfl)) (an (WC V_ok 3 (tl [0, 6] [0, 1, 2, 3, 4]) i_frame_Open_1_da9.at_ (i_frame_Open_1_da9.ok e2) w5 (by kernel_rfl) (by kernel_rfl) (by kernel_rfl) (by kernel_rfl) (by kernel_rfl)) aN)) (by kernel_rfl) rfl
  have w1 : WA P 5 (opsX x) 6 (bs 7 1) Φ t1 := WAs (an (WE V_ok 0 [] 1 (tl [1, 4] [0, 1, 2, 3, 4]) az w3 (by kernel_rfl) (by kernel_rfl) (by kernel_rfl)) (an (WE V_ok 0 [] 2 (tl [3, 5] [0, 1, 2, 3, 4]) az w4 (by kernel_rfl) (by kernel_rfl) (by kernel_rfl)) aN)) (by kernel_rfl) rfl
  have w0 : WA P 5 (opsX x) 7 (bs 7 0) Φ t0 := WAs (an (WE V_ok 0 [] 0 (tl [1, 3] [0, 1, 2, 3, 4]) az w1 (by kernel_rfl) (by kernel_rfl) (by kernel_rfl)) (an (WE V_ok 0 [] 2 (tl [0, 5] [0, 1, 2, 3, 4]) az w2 (by kernel_rfl) (by kernel_rfl) (by kernel_rfl)) aN)) (by kernel_rfl) rfl
  exact RA V_ok 7 (by kernel_rfl) (by kernel_rfl) (by kernel_rfl) w0
theorem ok {r k p1 p2 p3} (H : f k p1 p2 p3 = some r) : W P 5 c0 (s0 p1 p2 p3) (CallQ 5 (out p1 p2 p3 r)) := of_G (f_ok H)
theorem at_ : FnAt P 37 9 c0 Go.Proofs.Tryd.f37.results := fnAt Go.Proofs.Tryd.func37 (by kernel_rfl) (by decide) (by kernel_rfl) (by kernel_rfl)
end i_frame_Open_5_316
/-! ### function 38, wayfinder/frame.Open$6, where it is called -/
namespace i_frame_Open_6_2b5
noncomputable def c0 : Code := (Go.Proofs.Tryd.f38.body).getD .skip
noncomputable def V : Env := { tt := tt, Γ := slk [(27, f_octets_Sum.S), (34, f_frame_unless.S)] }
theorem V_ok : EnvOk P V := { ck := tt_ck, fits := slk_cons f_octets_Sum.fits (slk_cons f_frame_unless.fits (slk_nil)), mixed := mixed }
abbrev R := (Int) × Unit
noncomputable def s0 (p1 : List Int) (p2 : T4414.T) (p3 : Int) : St := ⟨6, [(0, .cv (.one (.ptr 0 0)))], [(.box 1, [.sl (.int .u8) p1 .any]), (.box 10, (encC .any T4414 p2)), (.box 1, [.int .i64 p3]), (.box 6, [.fn 33 [] [(0, 0)], .fn 35 [] [(0, 0), (2, 0)], .fn 36 [] [(0, 0), (4, 0)], .fn 37 [] [(0, 0), (4, 0)], .fn 38 [] [(0, 0)], .fn 39 [] [(2, 0), (0, 0)]]), (.box 1, [.fn 32 [] [(2, 0)]])]⟩
noncomputable def out (p1 : List Int) (p2 : T4414.T) (p3 : Int) (r : R) : St := ⟨6, [(1, .cv (.one (.int .i64 r.1)))], [(.box 1, [.sl (.int .u8) p1 .any]), (.box 10, (encC .any T4414 p2)), (.box 1, [.int .i64 p3]), (.box 6, [.fn 33 [] [(0, 0)], .fn 35 [] [(0, 0), (2, 0)], .fn 36 [] [(0, 0), (4, 0)], .fn 37 [] [(0, 0), (4, 0)], .fn 38 [] [(0, 0)], .fn 39 [] [(2, 0), (0, 0)]]), (.box 1, [.fn 32 [] [(2, 0)]])]⟩
abbrev Q (p1 : List Int) (p2 : T4414.T) (p3 : Int) (r : R) := CallQ 5 (out p1 p2 p3 r)
noncomputable def f (k : Nat) (p1 : List Int) (p2 : T4414.T) (p3 : Int) : Option R :=
  (f_octets_Sum.f k p1).bind fun y1 =>
    (f_frame_unless.f k (y1.1 != (0 : Int)) (4 : Int)).bind fun y2 =>
      some (y2.1, ())
theorem f_ok {r k p1 p2 p3} (H : f k p1 p2 p3 = some r) : Gw P 5 (Q p1 p2 p3 r) (Px c0 1 []) (s0 p1 p2 p3) := by
  unfold f at H
  refine Rg V_ok 0 [] az (by kernel_rfl) ?_
  obtain ⟨y1, e3, H⟩ := of_bind H
  obtain ⟨y2, e4, H⟩ := of_bind H
  refine Rg V_ok 0 [(1, hr f_octets_Sum.S y1), (3, hr f_frame_unless.S y2)] (ac (f_octets_Sum.rl e3) (ac (f_frame_unless.rl e4) az)) (by kernel_rfl) ?_
  obtain rfl := Option.some.inj H
  exact Lq {fz := [], gr := 0, ad := [], live := [1], src := [some 0, some 1, some 2, some 3, some 4]} (by kernel_rfl)
theorem ok {r k p1 p2 p3} (H : f k p1 p2 p3 = some r) : W P 5 c0 (s0 p1 p2 p3) (CallQ 5 (out p1 p2 p3 r)) := of_G (f_ok H)
theorem at_ : FnAt P 38 6 c0 Go.Proofs.Tryd.f38.results := fnAt Go.Proofs.Tryd.func38 (by kernel_rfl) (by decide) (by kernel_rfl) (by kernel_rfl)
end i_frame_Open_6_2b5
/-! ### function 39, wayfinder/frame.Open$7, where it is called -/
namespace i_frame_Open_7_0bb
noncomputable def c0 : Code := (Go.Proofs.Tryd.f39.body).getD .skip
noncomputable def V : Env := { tt := tt, Γ := slk [(34, f_frame_unless.S)] }
theorem V_ok : EnvOk P V := { ck := tt_ck, fits := slk_cons f_frame_unless.fits (slk_nil), mixed := mixed }
abbrev R := (Int) × Unit
noncomputable def s0 (p1 : List Int) (p2 : T4414.T) (p3 : Int) : St := ⟨15, [(0, .cv (.one (.ptr 2 0))), (1, .cv (.one (.ptr 0 0)))], [(.box 1, [.sl (.int .u8) p1 .any]), (.box 10, (encC .any T4414 p2)), (.box 1, [.int .i64 p3]), (.box 6, [.fn 33 [] [(0, 0)], .fn 35 [] [(0, 0), (2, 0)], .fn 36 [] [(0, 0), (4, 0)], .fn 37 [] [(0, 0), (4, 0)], .fn 38 [] [(0, 0)], .fn 39 [] [(2, 0), (0, 0)]]), (.box 1, [.fn 32 [] [(2, 0)]])]⟩
noncomputable def out (p1 : List Int) (p2 : T4414.T) (p3 : Int) (r : R) : St := ⟨15, [(2, .cv (.one (.int .i64 r.1)))], [(.box 1, [.sl (.int .u8) p1 .any]), (.box 10, (encC .any T4414 p2)), (.box 1, [.int .i64 p3]), (.box 6, [.fn 33 [] [(0, 0)], .fn 35 [] [(0, 0), (2, 0)], .fn 36 [] [(0, 0), (4, 0)], .fn 37 [] [(0, 0), (4, 0)], .fn 38 [] [(0, 0)], .fn 39 [] [(2, 0), (0, 0)]]), (.box 1, [.fn 32 [] [(2, 0)]])]⟩
abbrev Q (p1 : List Int) (p2 : T4414.T) (p3 : Int) (r : R) := CallQ 5 (out p1 p2 p3 r)
noncomputable def f (k : Nat) (p1 : List Int) (p2 : T4414.T) (p3 : Int) : Option R :=
  if ((Int.tmod p3 2) == (1 : Int)) = true then
    if 0 ≤ (IntKind.i64.wrap (2 + p3)) then
      if (IntKind.i64.wrap (2 + p3)) < (p1.length : Int) then
        (f_frame_unless.f k ((att (.int .u8) p1 (IntKind.i64.wrap (2 + p3))) != (0 : Int)) (2 : Int)).bind fun y1 =>
          some (y1.1, ())
      else none
    else none
  else
    (f_frame_unless.f k false (2 : Int)).bind fun y1 =>
      some (y1.1, ())
theorem f_ok {r k p1 p2 p3} (H : f k p1 p2 p3 = some r) : Gw P 5 (Q p1 p2 p3 r) (Px c0 1 []) (s0 p1 p2 p3) := by
  unfold f at H
  refine Rg V_ok 0 [] az (by kernel_rfl) ?_
  rcases of_ite H with ⟨hb2, H⟩ | ⟨hb2, H⟩
  · obtain ⟨n3, H⟩ := of_if H
    obtain ⟨n4, H⟩ := of_if H
    obtain ⟨y1, e5, H⟩ := of_bind H
    refine Rg V_ok 0 [(2, {bv := some true}), (11, hr f_frame_unless.S y1)] (ac (show (2 : Int) ≠ 0 by decide) (ac hb2 (ac n3 (ac n4 (ac (f_frame_unless.rl e5) az))))) (by kernel_rfl) ?_
    obtain rfl := Option.some.inj H
    exact Lq {fz := [], gr := 0, ad := [], live := [2], src := [some 0, some 1, some 2, some 3, some 4]} (by kernel_rfl)
  · obtain ⟨y1, e6, H⟩ := of_bind H
    refine Rg V_ok 0 [(2, {bv := some false}), (11, hr f_frame_unless.S y1)] (ac (show (2 : Int) ≠ 0 by decide) (ac hb2 (ac (f_frame_unless.rl e6) az))) (by kernel_rfl) ?_
    obtain rfl := Option.some.inj H
    exact Lq {fz := [], gr := 0, ad := [], live := [2], src := [some 0, some 1, some 2, some 3, some 4]} (by kernel_rfl)
theorem ok {r k p1 p2 p3} (H : f k p1 p2 p3 = some r) : W P 5 c0 (s0 p1 p2 p3) (CallQ 5 (out p1 p2 p3 r)) := of_G (f_ok H)
theorem at_ : FnAt P 39 15 c0 Go.Proofs.Tryd.f39.results := fnAt Go.Proofs.Tryd.func39 (by kernel_rfl) (by decide) (by kernel_rfl) (by kernel_rfl)
end i_frame_Open_7_0bb
/-! ### function 12, wayfinder/frame.Open -/
namespace f_frame_Open
noncomputable def c0 : Code := (Go.Proofs.Tryd.f12.body).getD .skip
abbrev ps : Sg := [(false, (.slice (.int .u8)))]
abbrev rs : Sg := [(true, T4414), (false, (.int .i64))]
noncomputable def V : Env := { tt := tt, Γ := slk [(40, f_msg_Get.S)] }
theorem V_ok : EnvOk P V := { ck := tt_ck, fits := slk_cons f_msg_Get.fits (slk_nil), mixed := mixed }
abbrev R := Tup rs
noncomputable abbrev Q (r : R) : Exit → St → Prop := Qr tt Go.Proofs.Tryd.f12.results ⟨ps, rs, .any, none, fun _ _ => True⟩ r
noncomputable def f (k : Nat) (a1 : List Int) : Option R :=
  (i_frame_Open_2_2b5.f k a1 (0, (0, (0, (0, ((0, 0), (0, (0, (0, 0)))))))) (0 : Int)).bind fun y1 =>
    if (y1.1 != (0 : Int)) = true then
      some ((0, (0, (0, (0, ((0, 0), (0, (0, (0, 0)))))))), (y1.1, ()))
    else
      (i_frame_Open_3_96f.f k a1 (0, (0, (0, (0, ((0, 0), (0, (0, (0, 0)))))))) (0 : Int)).bind fun y4 =>
        if (y4.1 != (0 : Int)) = true then
          some ((0, (0, (0, (0, ((0, 0), (0, (0, (0, 0)))))))), (y4.1, ()))
        else
          (i_frame_Open_4_316.f k a1 (0, (0, (0, (0, ((0, 0), (0, (0, (0, 0)))))))) y4.2.1).bind fun y7 =>
            if (y7.1 != (0 : Int)) = true then
              some ((0, (0, (0, (0, ((0, 0), (0, (0, (0, 0)))))))), (y7.1, ()))
            else
              (i_frame_Open_5_316.f k a1 (0, (0, (0, (0, ((0, 0), (0, (0, (0, 0)))))))) y4.2.1).bind fun y10 =>
                if (y10.1 != (0 : Int)) = true then
                  some ((0, (0, (0, (0, ((0, 0), (0, (0, (0, 0)))))))), (y10.1, ()))
                else
                  (i_frame_Open_6_2b5.f k a1 (0, (0, (0, (0, ((0, 0), (0, (0, (0, 0)))))))) y4.2.1).bind fun y13 =>
                    if (y13.1 != (0 : Int)) = true then
                      some ((0, (0, (0, (0, ((0, 0), (0, (0, (0, 0)))))))), (y13.1, ()))
                    else
                      (i_frame_Open_7_0bb.f k a1 (0, (0, (0, (0, ((0, 0), (0, (0, (0, 0)))))))) y4.2.1).bind fun y16 =>
                        if (y16.1 != (0 : Int)) = true then
                          some ((0, (0, (0, (0, ((0, 0), (0, (0, (0, 0)))))))), (y16.1, ()))
                        else
                          if 0 ≤ (2 : Int) ∧ (2 : Int) ≤ (IntKind.i64.wrap (2 + y4.2.1)) ∧ (IntKind.i64.wrap (2 + y4.2.1)) ≤ (a1.length : Int) then
                            (f_msg_Get.f k ((a1.take (IntKind.i64.wrap (2 + y4.2.1)).toNat).drop (2 : Int).toNat)).bind fun y19 =>
                              some (y19.1, (y19.2.1, ()))
                          else none
noncomputable def S : Spec := ⟨ps, rs, .any, none, fun x r => ∃ k, f k x.1 = some r⟩
theorem rl {k a1 r} (e : f k a1 = some r) : S.rel (a1, ()) r := ⟨k, e⟩
theorem f_ok {r k a1} (H : f k a1 = some r) : Gw P 0 (Q r) (Px c0 1 []) (⟨35, [(0, .cv (.one (.sl (.int .u8) a1 .any)))], []⟩) := by
  unfold f at H
  refine Rg V_ok 2 [(0, hb 0), (1, hb 1)] az (by kernel_rfl) ?_
  refine Rg V_ok 1 [(0, hb 2)] az (by kernel_rfl) ?_
  refine Rg V_ok 1 [(1, hb 3)] az (by kernel_rfl) ?_
  refine Rg V_ok 1 [(6, hb 4)] az (by kernel_rfl) ?_
  refine GT {live := [1, 2, 4, 15, 16, 17], src := [some 0, some 1, some 2, some 4, some 3]} (by kernel_rfl) (LP 31 (UN ?_))
  refine Rg V_ok 0 [] az (by kernel_rfl) ?_
  refine C1 rfl (by kernel_rfl) ?_
  refine Rg V_ok 0 [] (ac (show 0 ≤ (0 : Int) by decide) (ac (show (0 : Int) < (6 : Int) by decide) az)) (by kernel_rfl) ?_
  refine GT {live := [1, 2, 4, 7, 15, 16, 17], src := [some 0, some 1, some 2, some 3, some 4]} (by kernel_rfl) (RI (by kernel_rfl) ?_)
  refine EV V_ok 0 [] 1 az (by kernel_rfl) ?_
  obtain ⟨y1, e2, H⟩ := of_bind H
  refine CL V_ok i_frame_Open_2_2b5.at_ (i_frame_Open_2_2b5.ok e2) (by kernel_rfl) (by kernel_rfl) (by kernel_rfl) ?_
  refine EV V_ok 0 [] 1 az (by kernel_rfl) ?_
  refine RN (by kernel_rfl) (by kernel_rfl) ?_
  refine Rg V_ok 0 [] az (by kernel_rfl) ?_
  rcases of_ite H with ⟨hb3, H⟩ | ⟨hb3, H⟩
  · refine C1 hb3 (by kernel_rfl) ?_
    refine Rg V_ok 0 [] az (by kernel_rfl) ?_
    exact Lf (Eq.trans (by kernel_rfl) H)
  · refine C0 hb3 (by kernel_rfl) ?_
    refine Rg V_ok 0 [] az (by kernel_rfl) ?_
    refine GT {live := [1, 2, 4, 15, 16, 17], src := [some 0, some 1, some 2, some 3, some 4]} (by kernel_rfl) (UN ?_)
    refine Rg V_ok 0 [] az (by kernel_rfl) ?_
    refine C1 rfl (by kernel_rfl) ?_
    refine Rg V_ok 0 [] (ac (show 0 ≤ (1 : Int) by decide) (ac (show (1 : Int) < (6 : Int) by decide) az)) (by kernel_rfl) ?_
    refine GT {live := [1, 2, 4, 7, 15, 16, 17], src := [some 0, some 1, some 2, some 3, some 4]} (by kernel_rfl) (RI (by kernel_rfl) ?_)
    refine EV V_ok 0 [] 1 az (by kernel_rfl) ?_
    obtain ⟨y4, e5, H⟩ := of_bind H
    refine CL V_ok i_frame_Open_3_96f.at_ (i_frame_Open_3_96f.ok e5) (by kernel_rfl) (by kernel_rfl) (by kernel_rfl) ?_
    refine EV V_ok 0 [] 1 az (by kernel_rfl) ?_
    refine RN (by kernel_rfl) (by kernel_rfl) ?_
    refine Rg V_ok 0 [] az (by kernel_rfl) ?_
    rcases of_ite H with ⟨hb6, H⟩ | ⟨hb6, H⟩
    · refine C1 hb6 (by kernel_rfl) ?_
      refine Rg V_ok 0 [] az (by kernel_rfl) ?_
      exact Lf (Eq.trans (by kernel_rfl) H)
    · refine C0 hb6 (by kernel_rfl) ?_
      refine Rg V_ok 0 [] az (by kernel_rfl) ?_
      refine GT {live := [1, 2, 4, 15, 16, 17], src := [some 0, some 1, some 2, some 3, some 4]} (by kernel_rfl) (UN ?_)
      refine Rg V_ok 0 [] az (by kernel_rfl) ?_
      refine C1 rfl (by kernel_rfl) ?_
      refine Rg V_ok 0 [] (ac (show 0 ≤ (2 : Int) by decide) (ac (show (2 : Int) < (6 : Int) by decide) az)) (by kernel_rfl) ?_
      refine GT {live := [1, 2, 4, 7, 15, 16, 17], src := [some 0, some 1, some 2, some 4, some 3]} (by kernel_rfl) (RI (by kernel_rfl) ?_)
      refine EV V_ok 0 [] 1 az (by kernel_rfl) ?_
      obtain ⟨y7, e8, H⟩ := of_bind H
      refine CL V_ok i_frame_Open_4_316.at_ (i_frame_Open_4_316.ok e8) (by kernel_rfl) (by kernel_rfl) (by kernel_rfl) ?_
      refine EV V_ok 0 [] 1 az (by kernel_rfl) ?_
      refine RN (by kernel_rfl) (by kernel_rfl) ?_
      refine Rg V_ok 0 [] az (by kernel_rfl) ?_
      rcases of_ite H with ⟨hb9, H⟩ | ⟨hb9, H⟩
      · refine C1 hb9 (by kernel_rfl) ?_
        refine Rg V_ok 0 [] az (by kernel_rfl) ?_
        exact Lf (Eq.trans (by kernel_rfl) H)
      · refine C0 hb9 (by kernel_rfl) ?_
        refine Rg V_ok 0 [] az (by kernel_rfl) ?_
        refine GT {live := [1, 2, 4, 15, 16, 17], src := [some 0, some 1, some 2, some 4, some 3]} (by kernel_rfl) (UN ?_)
        refine Rg V_ok 0 [] az (by kernel_rfl) ?_
        refine C1 rfl (by kernel_rfl) ?_
        refine Rg V_ok 0 [] (ac (show 0 ≤ (3 : Int) by decide) (ac (show (3 : Int) < (6 : Int) by decide) az)) (by kernel_rfl) ?_
        refine GT {live := [1, 2, 4, 7, 15, 16, 17], src := [some 0, some 1, some 2, some 4, some 3]} (by kernel_rfl) (RI (by kernel_rfl) ?_)
        refine EV V_ok 0 [] 1 az (by kernel_rfl) ?_
        obtain ⟨y10, e11, H⟩ := of_bind H
        refine CL V_ok i_frame_Open_5_316.at_ (i_frame_Open_5_316.ok e11) (by kernel_rfl) (by kernel_rfl) (by kernel_rfl) ?_
        refine EV V_ok 0 [] 1 az (by kernel_rfl) ?_
        refine RN (by kernel_rfl) (by kernel_rfl) ?_
        refine Rg V_ok 0 [] az (by kernel_rfl) ?_
        rcases of_ite H with ⟨hb12, H⟩ | ⟨hb12, H⟩
        · refine C1 hb12 (by kernel_rfl) ?_
          refine Rg V_ok 0 [] az (by kernel_rfl) ?_
          exact Lf (Eq.trans (by kernel_rfl) H)
        · refine C0 hb12 (by kernel_rfl) ?_
          refine Rg V_ok 0 [] az (by kernel_rfl) ?_
          refine GT {live := [1, 2, 4, 15, 16, 17], src := [some 0, some 1, some 2, some 4, some 3]} (by kernel_rfl) (UN ?_)
          refine Rg V_ok 0 [] az (by kernel_rfl) ?_
          refine C1 rfl (by kernel_rfl) ?_
          refine Rg V_ok 0 [] (ac (show 0 ≤ (4 : Int) by decide) (ac (show (4 : Int) < (6 : Int) by decide) az)) (by kernel_rfl) ?_
          refine GT {live := [1, 2, 4, 7, 15, 16, 17], src := [some 0, some 1, some 2, some 3, some 4]} (by kernel_rfl) (RI (by kernel_rfl) ?_)
          refine EV V_ok 0 [] 1 az (by kernel_rfl) ?_
          obtain ⟨y13, e14, H⟩ := of_bind H
          refine CL V_ok i_frame_Open_6_2b5.at_ (i_frame_Open_6_2b5.ok e14) (by kernel_rfl) (by kernel_rfl) (by kernel_rfl) ?_
          refine EV V_ok 0 [] 1 az (by kernel_rfl) ?_
          refine RN (by kernel_rfl) (by kernel_rfl) ?_
          refine Rg V_ok 0 [] az (by kernel_rfl) ?_
          rcases of_ite H with ⟨hb15, H⟩ | ⟨hb15, H⟩
          · refine C1 hb15 (by kernel_rfl) ?_
            refine Rg V_ok 0 [] az (by kernel_rfl) ?_
            exact Lf (Eq.trans (by kernel_rfl) H)
          · refine C0 hb15 (by kernel_rfl) ?_
            refine Rg V_ok 0 [] az (by kernel_rfl) ?_
            refine GT {live := [1, 2, 4, 15, 16, 17], src := [some 0, some 1, some 2, some 3, some 4]} (by kernel_rfl) (UN ?_)
            refine Rg V_ok 0 [] az (by kernel_rfl) ?_
            refine C1 rfl (by kernel_rfl) ?_
            refine Rg V_ok 0 [] (ac (show 0 ≤ (5 : Int) by decide) (ac (show (5 : Int) < (6 : Int) by decide) az)) (by kernel_rfl) ?_
            refine GT {live := [1, 2, 4, 7, 15, 16, 17], src := [some 0, some 1, some 2, some 3, some 4]} (by kernel_rfl) (RI (by kernel_rfl) ?_)
            refine EV V_ok 0 [] 1 az (by kernel_rfl) ?_
            obtain ⟨y16, e17, H⟩ := of_bind H
            refine CL V_ok i_frame_Open_7_0bb.at_ (i_frame_Open_7_0bb.ok e17) (by kernel_rfl) (by kernel_rfl) (by kernel_rfl) ?_
            refine EV V_ok 0 [] 1 az (by kernel_rfl) ?_
            refine RN (by kernel_rfl) (by kernel_rfl) ?_
            refine Rg V_ok 0 [] az (by kernel_rfl) ?_
            rcases of_ite H with ⟨hb18, H⟩ | ⟨hb18, H⟩
            · refine C1 hb18 (by kernel_rfl) ?_
              refine Rg V_ok 0 [] az (by kernel_rfl) ?_
              exact Lf (Eq.trans (by kernel_rfl) H)
            · refine C0 hb18 (by kernel_rfl) ?_
              refine Rg V_ok 0 [] az (by kernel_rfl) ?_
              refine GT {live := [1, 2, 4, 15, 16, 17], src := [some 0, some 1, some 2, some 3, some 4]} (by kernel_rfl) (UN ?_)
              refine Rg V_ok 0 [] az (by kernel_rfl) ?_
              refine C0 rfl (by kernel_rfl) ?_
              obtain ⟨n20, H⟩ := of_if H
              obtain ⟨y19, e21, H⟩ := of_bind H
              refine Rg V_ok 0 [(4, hr f_msg_Get.S y19)] (ac n20 (ac (f_msg_Get.rl e21) az)) (by kernel_rfl) ?_
              exact Lf (Eq.trans (by kernel_rfl) H)
theorem fits : Fits P 12 S := fits_of V_ok Go.Proofs.Tryd.func12 (by kernel_rfl) (by decide) (by decide) rfl (fun x r ⟨k, H⟩ => of_G (f_ok H))
end f_frame_Open
/-! ### function 23, wayfinder/rule.Alike -/
namespace f_rule_Alike
noncomputable def c0 : Code := (Go.Proofs.Tryd.f23.body).getD .skip
abbrev ps : Sg := [(true, T1383), (true, T1383)]
abbrev rs : Sg := [(false, .bool)]
noncomputable def V : Env := { tt := tt, Γ := slk [] }
theorem V_ok : EnvOk P V := { ck := tt_ck, fits := slk_nil, mixed := mixed }
abbrev R := Tup rs
noncomputable abbrev Q (r : R) : Exit → St → Prop := Qr tt Go.Proofs.Tryd.f23.results ⟨ps, rs, .any, none, fun _ _ => True⟩ r
noncomputable def f (k : Nat) (a1 : T1383.T) (a2 : T1383.T) : Option R :=
  some (((a1.1.1 == a2.1.1) && ((a1.1.2 == a2.1.2) && ((a1.2.1 == a2.2.1) && ((a1.2.2.1 == a2.2.2.1) && (((0 : Int) == (0 : Int)) && (((0 : Int) == (0 : Int)) && true)))))), ())
noncomputable def S : Spec := ⟨ps, rs, .any, none, fun x r => ∃ k, f k x.1 x.2.1 = some r⟩
theorem rl {k a1 a2 r} (e : f k a1 a2 = some r) : S.rel (a1, a2, ()) r := ⟨k, e⟩
theorem f_ok {r k a1 a2} (H : f k a1 a2 = some r) : Gw P 0 (Q r) (Px c0 1 []) (⟨12, [(0, .cv (.agg (encC .any T1383 a1))), (1, .cv (.agg (encC .any T1383 a2)))], []⟩) := by
  unfold f at H
  refine Rg V_ok 2 [(0, hb 0), (1, hb 1)] az (by kernel_rfl) ?_
  refine Rg V_ok 0 [] az (by kernel_rfl) ?_
  refine Rg V_ok 0 [] az (by kernel_rfl) ?_
  exact Lf (Eq.trans (by kernel_rfl) H)
theorem fits : Fits P 23 S := fits_of V_ok Go.Proofs.Tryd.func23 (by kernel_rfl) (by decide) (by decide) rfl (fun x r ⟨k, H⟩ => of_G (f_ok H))
end f_rule_Alike
/-! ### function 47, wayfinder/table.Size -/
namespace f_table_Size
noncomputable def c0 : Code := (Go.Proofs.Tryd.f47.body).getD .skip
abbrev ps : Sg := [(false, (.slice T814c))]
abbrev rs : Sg := [(false, (.int .i64))]
noncomputable def V : Env := { tt := tt, Γ := slk [] }
theorem V_ok : EnvOk P V := { ck := tt_ck, fits := slk_nil, mixed := mixed }
abbrev R := Tup rs
noncomputable abbrev Q (r : R) : Exit → St → Prop := Qr tt Go.Proofs.Tryd.f47.results ⟨ps, rs, .any, none, fun _ _ => True⟩ r
noncomputable def s1 (p1 : Int) (p2 : List T814c.T) (p3 : Int) (p4 : Int) : St := ⟨19, [(3, .cv (.one (.int .i64 p1))), (6, .cv (.one (.sl T814c p2 .any))), (7, .cv (.one (.int .i64 p3))), (8, .cv (.one (.int .i64 p4)))], []⟩
noncomputable def b1 (L1 : Int → List T814c.T → Int → Int → Option R) (k : Nat) (p1 : Int) (p2 : List T814c.T) (p3 : Int) (p4 : Int) : Option R :=
  if (decide (p4 < p3)) = true then
  if 0 ≤ p4 then
    if p4 < (p2.length : Int) then
      L1 (IntKind.i64.wrap (p1 + (((att T814c p2 p4).2).length : Int))) p2 p3 (IntKind.i64.wrap (p4 + 1))
    else none
  else none
else
  some (p1, ())
theorem b1_ok {r} {L1 : Int → List T814c.T → Int → Int → Option R} {m1 : Nat} (hL1 : ∀ p1 p2 p3 p4, L1 p1 p2 p3 p4 = some r → Gw P 0 (Q r) (Pb c0 43 [] m1) (s1 p1 p2 p3 p4)) {k p1 p2 p3 p4} (H : b1 L1 k p1 p2 p3 p4 = some r) : Gw P 0 (Q r) (Px c0 75 [m1]) (s1 p1 p2 p3 p4) := by
  unfold b1 at H
  refine Rg V_ok 0 [] az (by kernel_rfl) ?_
  rcases of_ite H with ⟨hb1, H⟩ | ⟨hb1, H⟩
  · refine C1 hb1 (by kernel_rfl) ?_
    obtain ⟨n2, H⟩ := of_if H
    obtain ⟨n3, H⟩ := of_if H
    refine Rg V_ok 1 [(2, hb 0)] (ac n2 (ac n3 az)) (by kernel_rfl) ?_
    refine Rg V_ok 0 [] az (by kernel_rfl) ?_
    refine Rg V_ok 0 [] az (by kernel_rfl) ?_
    exact Jm {fz := [], gr := 0, ad := [], live := [3, 6, 7, 8], src := []} (by kernel_rfl) (by kernel_rfl) (hL1 (IntKind.i64.wrap (p1 + (((att T814c p2 p4).2).length : Int))) p2 p3 (IntKind.i64.wrap (p4 + 1)) H)
  · refine C0 hb1 (by kernel_rfl) ?_
    refine Rg V_ok 0 [] az (by kernel_rfl) ?_
    exact Lf (Eq.trans (by kernel_rfl) H)
noncomputable def l1 (k : Nat) : Nat → Int → List T814c.T → Int → Int → Option R
  | 0, _, _, _, _ => none
  | m + 1, p1, p2, p3, p4 => b1 (l1 k m) k p1 p2 p3 p4
theorem l1_ok {r} (k : Nat) : ∀ (m1 : Nat) (p1 : Int) (p2 : List T814c.T) (p3 : Int) (p4 : Int), l1 k m1 p1 p2 p3 p4 = some r → Gw P 0 (Q r) (Pb c0 43 [] m1) (s1 p1 p2 p3 p4)
  | 0, _, _, _, _, H => by cases H
  | m1 + 1, p1, p2, p3, p4, H => SU (by kernel_rfl) (b1_ok (l1_ok k m1) H)
noncomputable def f (k : Nat) (a1 : List T814c.T) : Option R :=
  l1 k k 0 a1 (a1.length : Int) 0
noncomputable def S : Spec := ⟨ps, rs, .any, none, fun x r => ∃ k, f k x.1 = some r⟩
theorem rl {k a1 r} (e : f k a1 = some r) : S.rel (a1, ()) r := ⟨k, e⟩
theorem f_ok {r k a1} (H : f k a1 = some r) : Gw P 0 (Q r) (Px c0 1 []) (⟨19, [(0, .cv (.one (.sl T814c a1 .any)))], []⟩) := by
  unfold f at H
  refine Rg V_ok 0 [] az (by kernel_rfl) ?_
  refine Rg V_ok 0 [] az (by kernel_rfl) ?_
  refine Rg V_ok 0 [] az (by kernel_rfl) ?_
  exact LP k (Jm {fz := [], gr := 0, ad := [], live := [3, 6, 7, 8], src := []} (by kernel_rfl) (by kernel_rfl) (l1_ok k k 0 a1 (a1.length : Int) 0 H))
theorem fits : Fits P 47 S := fits_of V_ok Go.Proofs.Tryd.func47 (by kernel_rfl) (by decide) (by decide) rfl (fun x r ⟨k, H⟩ => of_G (f_ok H))
end f_table_Size
/-! ### slices.Insert of one thing: function 50 -/
section
open Go.Shelf Go.Lib
theorem N50.info : (Go.Proofs.Tryd.prog.info? 61).map (fun i => (i.zero, i.size, i.bytes)) = some (some (.agg #[.int .i64 0, .slice none 0 0]), 2, 32) := by kernel_rfl
set_option maxHeartbeats 4000000 in
set_option maxRecDepth 1000000 in
theorem N50.shift (b n c i vb vc : Nat) (cs vs : List Value) (w : World) (hi : i < n) (hroom : n + 1 ≤ c) (hc63 : c ≤ 9223372036854775807) (hvb : vb ≠ b)
    (hcl : cs.length = n * 2) (hvl : vs.length = 2)
    (hcs : ∀ j v, cs[j]? = some v → w.cell? ⟨b, j, none⟩ = some v) (hsp : ∀ j, j < (n + 1) * 2 → (w.cell? ⟨b, j, none⟩).isSome = true) (hfz : ∀ j, w.frozen? ⟨b, j, none⟩ = false)
    (hvs : ∀ j v, vs[j]? = some v → w.cell? ⟨vb, j, none⟩ = some v) (h1c : ∀ v ∈ cs, v.oneCell' = true) (h1v : ∀ v ∈ vs, v.oneCell' = true)
    (tA tB : TypeId) (kA kB : Nat) (hsa : w.shape? vb = some (tA, kA)) (hsb : w.shape? b = some (tB, kB)) (hkB : kB ≠ 0) (hfa : w.frozen? ⟨vb, 0, none⟩ = false) (hfe : w.frozen? ⟨vb, kA, none⟩ = false) :
    Calls Go.Proofs.Tryd.prog 50 #[.slice (some ⟨b, 0, none⟩) n c, .int .i64 i, .slice (some ⟨vb, 0, none⟩) 1 vc] w fun e w' =>
      e = .returned (.slice (some ⟨b, 0, none⟩) (n + 1) c) ∧ w' = (w.drew.setCells b ((i + 1) * 2) (cs.drop (i * 2))).setCells b (i * 2) vs := by
  have hz2 : ¬ ((i : Int) = (n : Int)) := by omega
  have hsz : (Go.Proofs.Tryd.prog.info? 61).map (·.size) = some 2 := by
    obtain ⟨i0, hi0, h0, h1, h2⟩ := info_parts N50.info
    rw [hi0]; simp [h1]
  have hso : ∀ w, (Go.sizeOf 61).run Go.Proofs.Tryd.prog w = .ok 2 w := fun w => by
    obtain ⟨i0, hi0, h0, h1, h2⟩ := info_parts N50.info
    simp [sizeOf, typeInfo, hi0, h1]
  have hov : ∀ lb cb, (callFunc 70 #[.slice (some ⟨vb, 0, none⟩) 1 vc, .slice (some ⟨b, (i + 1) * 2, none⟩) lb cb]).run Go.Proofs.Tryd.prog w = .ok (.value (.bool false)) w := fun lb cb => by
    rw [run_callFunc_extern Go.Proofs.Tryd.func70 (by kernel_rfl) (by kernel_rfl) (by kernel_rfl) (e := Extern.SlicesOverlaps.overlaps #[22, 22] #[4]) (by kernel_rfl),
      Lib.run_overlaps_apart w 22 4 61 Go.Proofs.Tryd.underlying22 2 hso ⟨vb, 0, none⟩ ⟨b, (i + 1) * 2, none⟩ 1 vc lb cb hvb tA tB kA kB hsa hsb hkB hfa hfe]
    rfl
  have hdl : (cs.drop (i * 2)).length = (n - i) * 2 := by rw [List.length_drop, hcl]; omega
  have hw1 : IntKind.i64.wrap ((i : Int) + 1) = (i : Int) + 1 := by rw [IntKind.wrap_i64]; omega
  have hw2 : IntKind.i64.wrap ((n : Int) + 1) = (n : Int) + 1 := by rw [IntKind.wrap_i64]; omega
  have hb1 : (0 : Int) ≤ (i : Int) + 1 := by omega
  have hin : i ≤ n := by omega
  have htn : ((i : Int) + 1).toNat = i + 1 := by omega
  have htm : ((n : Int) + 1).toNat = n + 1 := by omega
  have hb2 : ¬ (c = i + 1) := by omega
  have hb3 : (i : Int) ≤ (n : Int) + 1 := by omega
  have hb4 : ¬ (c = i) := by omega
  have hb5 : (0 : Int) ≤ (n : Int) + 1 := by omega
  have hb6 : (n : Int) + 1 ≤ (c : Int) := by omega
  have hb7 : (i : Int) + 1 ≤ (n : Int) + 1 := by omega
  have hcp1 : ∀ ty dc sc, (Builtin.copy_ #[22, 22] ty #[.slice (some ⟨b, (i + 1) * 2, none⟩) (n - i) dc, .slice (some ⟨b, i * 2, none⟩) (n + 1 - i) sc]).run Go.Proofs.Tryd.prog w.drew = .ok (goInt (Nat.min (n + 1 - i) (n - i))) (w.drew.setCells b ((i + 1) * 2) (cs.drop (i * 2))) := fun ty dc sc =>
    run_copy_sz w.drew _ ty 61 b ((i + 1) * 2) (n - i) dc ⟨b, i * 2, none⟩ (n + 1 - i) sc 2 (cs.drop (i * 2)) Go.Proofs.Tryd.underlying22 hsz (by rw [hdl]; congr 1; simp only [Nat.min_def]; split <;> omega)
      (fun j v hj => by rw [Addr.add_lit]; exact hcs (i * 2 + j) v (by rwa [List.getElem?_drop] at hj))
      (fun j hj => hsp _ (by omega)) (fun j hj => hfz _) (fun v hv => h1c v (List.mem_of_mem_drop hv))
  obtain ⟨W1, hW1⟩ : ∃ W1, W1 = w.drew.setCells b ((i + 1) * 2) (cs.drop (i * 2)) := ⟨_, rfl⟩
  have hsp1 : ∀ k, k < (n + 1) * 2 → (W1.cell? ⟨b, k, none⟩).isSome = true := fun k hk => by
    rw [hW1]
    exact isSome_setCells b (cs.drop (i * 2)) ((i + 1) * 2) w.drew (fun j hj => hsp _ (by rw [hdl] at hj; omega)) k (hsp k hk)
  have hcp2 : ∀ (W : World), (∀ x, W.cell? x = W1.cell? x) → (∀ x, W.frozen? x = W1.frozen? x) → ∀ ty dc, (Builtin.copy_ #[22, 22] ty #[.slice (some ⟨b, i * 2, none⟩) (n + 1 - i) dc, .slice (some ⟨vb, 0, none⟩) 1 vc]).run Go.Proofs.Tryd.prog W = .ok (goInt (Nat.min 1 (n + 1 - i))) (W.setCells b (i * 2) vs) := fun W hWc hWf ty dc =>
    run_copy_sz W _ ty 61 b (i * 2) (n + 1 - i) dc ⟨vb, 0, none⟩ 1 vc 2 vs Go.Proofs.Tryd.underlying22 hsz (by rw [hvl]; simp only [Nat.min_def]; split <;> omega)
      (fun j v hj => by
        rw [Addr.add_lit, hWc, hW1, World.cell?_setCells_out b _ _ _ _ (fun h _ => absurd h hvb), Nat.zero_add]
        exact hvs j v hj)
      (fun j hj => by rw [hWc]; exact hsp1 _ (by omega)) (fun j hj => by rw [hWf, hW1, World.frozen?_setCells]; exact hfz _) h1v
  rw [← hW1] at hcp1
  have mixed : Go.Proofs.Tryd.prog.follows .mixedOrders = true := by kernel_rfl
  clear hso
  go_enter Go.Proofs.Tryd.func50, Go.Proofs.Tryd.ntmps50
  go_wp2_with (simp only [hov])
  go_region_law_o (refine step_copy_runI rfl _ _ 22 22 rfl _ _ (by simp [Act.eval, Act.put]) (by simp [Act.eval, Act.put]) (hcp1 _ _ _) ?_)
  go_wp2_with (at_builtin; refine wpList_copy_runI _ rfl _ _ 22 22 rfl _ _ rfl rfl (hcp2 _ (fun _ => rfl) (fun _ => rfl) _ _) ?_)
  go_ret
  first | exact ⟨rfl, rfl⟩ | exact ⟨rfl, by rw [hW1]⟩
set_option maxHeartbeats 4000000 in
set_option maxRecDepth 1000000 in
theorem N50.atEnd (base : Option Addr) (n c vb vc : Nat) (w w1 : World) (r : Value) (hnc : n ≤ c) (hr : ∀ ty, (Builtin.append_ #[22, 22] ty #[.slice base n c, .slice (some ⟨vb, 0, none⟩) 1 vc]).run Go.Proofs.Tryd.prog w = .ok r w1) :
    Calls Go.Proofs.Tryd.prog 50 #[.slice base n c, .int .i64 n, .slice (some ⟨vb, 0, none⟩) 1 vc] w fun e w' => e = .returned r ∧ w' = w1 := by
  have mixed : Go.Proofs.Tryd.prog.follows .mixedOrders = true := by kernel_rfl
  go_enter Go.Proofs.Tryd.func50, Go.Proofs.Tryd.ntmps50
  cases base with
  | none =>
    go_wp2_with (at_builtin; refine Lib.wpList_append_run _ rfl _ _ _ _ rfl _ _ rfl rfl _ _ (hr _) ?_)
    all_goals (go_ret; exact ⟨rfl, rfl⟩)
  | some a =>
    obtain ⟨ab, ao, asp⟩ := a
    go_wp2_with (at_builtin; refine Lib.wpList_append_run _ rfl _ _ _ _ rfl _ _ rfl rfl _ _ (hr _) ?_)
    all_goals (go_ret; exact ⟨rfl, rfl⟩)
set_option maxHeartbeats 4000000 in
set_option maxRecDepth 1000000 in
theorem N50.grow (b n c i vb vc : Nat) (cs vs : List Value) (w : World) (hi : i < n) (hnc : n ≤ c) (hroom : c < n + 1) (hbig : (n + 1) * 32 ≤ 140737488355328)
    (hcl : cs.length = n * 2) (hvl : vs.length = 2)
    (hcs : ∀ j v, cs[j]? = some v → w.cell? ⟨b, j, none⟩ = some v)
    (hvs : ∀ j v, vs[j]? = some v → w.cell? ⟨vb, j, none⟩ = some v) (h1c : ∀ v ∈ cs, v.oneCell' = true) (h1v : ∀ v ∈ vs, v.oneCell' = true) :
    Calls Go.Proofs.Tryd.prog 50 #[.slice (some ⟨b, 0, none⟩) n c, .int .i64 i, .slice (some ⟨vb, 0, none⟩) 1 vc] w fun e w' =>
      e = .returned (.slice (some ⟨w.heap.size, 0, none⟩) (n + 1) (grownCap w (n + 1) c 61)) ∧
      w' = (((w.alloc (.cells ((cs.take (i * 2)).toArray ++ Builtin.zeroCells (Value.cells (.agg #[.int .i64 0, .slice none 0 0])) (n + 1 - i) ++ Builtin.zeroCells (Value.cells (.agg #[.int .i64 0, .slice none 0 0])) (grownCap w (n + 1) c 61 - (n + 1))) 61)).drew.setCells w.heap.size (i * 2) vs).drew).setCells w.heap.size ((i + 1) * 2) (cs.drop (i * 2)) := by
  have mixed : Go.Proofs.Tryd.prog.follows .mixedOrders = true := by kernel_rfl
  obtain ⟨i0, hi0, hz0, hzs, hzb⟩ := info_parts N50.info
  have hz2 : ¬ ((i : Int) = (n : Int)) := by omega
  have hz3 : (c : Int) < (n : Int) + 1 := by omega
  have hsz : (Go.Proofs.Tryd.prog.info? 61).map (·.size) = some 2 := by rw [hi0]; simp [hzs]
  have hbw : b < w.heap.size := block_lt_of_cell (hcs 0 _ (List.getElem?_eq_getElem (by omega)))
  have hvw : vb < w.heap.size := block_lt_of_cell (hvs 0 _ (List.getElem?_eq_getElem (by omega)))
  have hkk : (n : Int) + 1 - (i : Int) = ((n + 1 - i : Nat) : Int) := by omega
  have hik : i + (n + 1 - i) = n + 1 := by omega
  have hold : (Builtin.firstCells i0.size i (.slice (some ⟨b, 0, none⟩) i c)).run Go.Proofs.Tryd.prog w.drew = .ok (cs.take (i * 2)).toArray w.drew := by
    rw [hzs]
    exact run_firstCells_some w.drew 2 i ⟨b, 0, none⟩ i c (cs.take (i * 2)) (by rw [List.length_take]; omega) (fun j v hj => by
      rw [Addr.add_lit]
      rw [List.getElem?_take] at hj
      split at hj
      · rw [Nat.zero_add]; exact hcs j v hj
      · cases hj)
  have hrz : ∀ ty, (Builtin.append_ #[22, 3] ty #[.slice (some ⟨b, 0, none⟩) i c, .int .i64 ((n : Int) + 1 - (i : Int))]).run Go.Proofs.Tryd.prog w =
      .ok (.slice (some ⟨w.heap.size, 0, none⟩) (n + 1) (grownCap w (n + 1) c 61)) (w.drew.alloc (.cells ((cs.take (i * 2)).toArray ++ Builtin.zeroCells (Value.cells (.agg #[.int .i64 0, .slice none 0 0])) (n + 1 - i) ++ Builtin.zeroCells (Value.cells (.agg #[.int .i64 0, .slice none 0 0])) (grownCap w (n + 1) c 61 - (n + 1))) 61)) := fun ty => by
    have h := Lib.run_append_grow_zeros (P := Go.Proofs.Tryd.prog) w 22 3 ty 61 i0 _ .i64 .i64 Go.Proofs.Tryd.underlying22 Go.Proofs.Tryd.underlying3 hi0 hz0 (some ⟨b, 0, none⟩) i c (cs.take (i * 2)) hold (n + 1 - i) (by omega) (by omega) (by omega) (by omega) (by rw [hzb]; omega) (by rw [hzb, hik]; exact growslice_fits hroom hbig)
    rw [hik] at h
    rw [hkk]
    exact h
  obtain ⟨G, hG⟩ : ∃ G, G = grownCap w (n + 1) c 61 := ⟨_, rfl⟩
  obtain ⟨ROW, hROW⟩ : ∃ ROW : Array Value, ROW = (cs.take (i * 2)).toArray ++ Builtin.zeroCells (Value.cells (.agg #[.int .i64 0, .slice none 0 0])) (n + 1 - i) ++ Builtin.zeroCells (Value.cells (.agg #[.int .i64 0, .slice none 0 0])) (G - (n + 1)) := ⟨_, rfl⟩
  rw [← hG] at hrz ⊢
  rw [← hROW] at hrz ⊢
  have hRl : (n + 1) * 2 ≤ ROW.size := by
    rw [hROW]
    simp [Builtin.zeroCells, Value.cells]
    omega
  obtain ⟨W1, hW1⟩ : ∃ W1, W1 = w.drew.alloc (.cells ROW 61) := ⟨_, rfl⟩
  rw [← hW1] at hrz
  have hN : ∀ j, j < (n + 1) * 2 → (W1.cell? ⟨w.heap.size, j, none⟩).isSome = true := fun j hj => by
    rw [hW1, World.cell?_alloc_at (w := w.drew) ROW _ w.heap.size j rfl, Array.getElem?_eq_getElem (by omega)]; rfl
  have hNf : ∀ j, W1.frozen? ⟨w.heap.size, j, none⟩ = false := fun j => by rw [hW1]; exact World.frozen?_alloc_at (w := w.drew) ROW _ w.heap.size j rfl
  have hOb : ∀ j v, w.cell? ⟨b, j, none⟩ = some v → W1.cell? ⟨b, j, none⟩ = some v := fun j v h => by rw [hW1, World.cell?_alloc_past (w := w.drew) _ b j hbw]; exact h
  have hOv : ∀ j v, w.cell? ⟨vb, j, none⟩ = some v → W1.cell? ⟨vb, j, none⟩ = some v := fun j v h => by rw [hW1, World.cell?_alloc_past (w := w.drew) _ vb j hvw]; exact h
  have hdl : (cs.drop (i * 2)).length = (n - i) * 2 := by rw [List.length_drop, hcl]; omega
  have hcpA : ∀ (W : World), (∀ x, W.cell? x = W1.cell? x) → (∀ x, W.frozen? x = W1.frozen? x) → ∀ ty dc, (Builtin.copy_ #[22, 22] ty #[.slice (some ⟨w.heap.size, i * 2, none⟩) (n + 1 - i) dc, .slice (some ⟨vb, 0, none⟩) 1 vc]).run Go.Proofs.Tryd.prog W = .ok (goInt (Nat.min 1 (n + 1 - i))) (W.setCells w.heap.size (i * 2) vs) := fun W hWc hWf ty dc =>
    run_copy_sz W _ ty 61 w.heap.size (i * 2) (n + 1 - i) dc ⟨vb, 0, none⟩ 1 vc 2 vs Go.Proofs.Tryd.underlying22 hsz (by rw [hvl]; simp only [Nat.min_def]; split <;> omega)
      (fun j v hj => by rw [Addr.add_lit, hWc, Nat.zero_add]; exact hOv _ v (hvs j v hj))
      (fun j hj => by rw [hWc]; exact hN _ (by omega)) (fun j hj => by rw [hWf]; exact hNf _) h1v
  have hGn : n + 1 ≤ G := by rw [hG]; exact grownCap_ge w _ _ _
  have hG63 : G ≤ 9223372036854775807 := by
    have := grownCap_le_maxLen w (n + 1) c 61 (by unfold maxLen; omega)
    rw [← hG] at this
    unfold maxLen at this
    omega
  have hGi : ¬ (G = i) := by omega
  have hGim : ¬ (G = i + 1) := by omega
  have hci : ¬ (c = i) := by omega
  have hbN : b ≠ w.heap.size := by omega
  have hcpB : ∀ (W : World), (∀ x, W.cell? x = (W1.setCells w.heap.size (i * 2) vs).cell? x) → (∀ x, W.frozen? x = (W1.setCells w.heap.size (i * 2) vs).frozen? x) → ∀ ty dc sc, (Builtin.copy_ #[22, 22] ty #[.slice (some ⟨w.heap.size, (i + 1) * 2, none⟩) (n - i) dc, .slice (some ⟨b, i * 2, none⟩) (n - i) sc]).run Go.Proofs.Tryd.prog W = .ok (goInt (Nat.min (n - i) (n - i))) (W.setCells w.heap.size ((i + 1) * 2) (cs.drop (i * 2))) := fun W hWc hWf ty dc sc =>
    run_copy_sz W _ ty 61 w.heap.size ((i + 1) * 2) (n - i) dc ⟨b, i * 2, none⟩ (n - i) sc 2 (cs.drop (i * 2)) Go.Proofs.Tryd.underlying22 hsz (by rw [hdl]; congr 1; simp only [Nat.min_def]; split <;> omega)
      (fun j v hj => by
        rw [Addr.add_lit, hWc, World.cell?_setCells_out _ _ _ _ _ (fun h _ => absurd h hbN)]
        exact hOb _ v (hcs (i * 2 + j) v (by rwa [List.getElem?_drop] at hj)))
      (fun j hj => by rw [hWc]; exact isSome_setCells w.heap.size vs (i * 2) W1 (fun t ht => hN _ (by omega)) _ (hN _ (by omega)))
      (fun j hj => by rw [hWf, World.frozen?_setCells]; exact hNf _) (fun v hv => h1c v (List.mem_of_mem_drop hv))
  subst hW1
  have hE1 : ∀ x, ((w.alloc (.cells ROW 61)).drew).cell? x = (w.drew.alloc (.cells ROW 61)).cell? x := fun x => rfl
  have hE2 : ∀ x, ((w.alloc (.cells ROW 61)).drew).frozen? x = (w.drew.alloc (.cells ROW 61)).frozen? x := fun x => rfl
  have hF1 : ∀ x, (((w.alloc (.cells ROW 61)).drew.setCells w.heap.size (i * 2) vs).drew).cell? x = ((w.drew.alloc (.cells ROW 61)).setCells w.heap.size (i * 2) vs).cell? x := fun x => rfl
  have hF2 : ∀ x, (((w.alloc (.cells ROW 61)).drew.setCells w.heap.size (i * 2) vs).drew).frozen? x = ((w.drew.alloc (.cells ROW 61)).setCells w.heap.size (i * 2) vs).frozen? x := fun x => rfl
  have hw1 : IntKind.i64.wrap ((i : Int) + 1) = (i : Int) + 1 := by rw [IntKind.wrap_i64]; omega
  have hw2 : IntKind.i64.wrap ((n : Int) + 1) = (n : Int) + 1 := by rw [IntKind.wrap_i64]; omega
  have hw3 : IntKind.i64.wrap ((n : Int) + 1 - (i : Int)) = (n : Int) + 1 - (i : Int) := by rw [IntKind.wrap_i64]; omega
  have hb1 : (0 : Int) ≤ (i : Int) + 1 := by omega
  have hin : i ≤ n := by omega
  have hic : i ≤ c := by omega
  have htn : ((i : Int) + 1).toNat = i + 1 := by omega
  have hb3 : (i : Int) ≤ (n : Int) := by omega
  have hb4 : (i : Int) ≤ (n : Int) + 1 := by omega
  have hb5 : (i : Int) + 1 ≤ (n : Int) + 1 := by omega
  clear hkk hik hold hROW hG hRl
  go_enter Go.Proofs.Tryd.func50, Go.Proofs.Tryd.ntmps50
  go_wp2_with (first
    | (at_builtin; refine Lib.wpList_append_run _ rfl _ _ _ _ rfl _ _ rfl rfl _ _ (hrz _) ?_)
    | (at_builtin; refine wpList_copy_runI _ rfl _ _ 22 22 rfl _ _ rfl rfl (hcpA _ hE1 hE2 _ _) ?_)
    | (at_builtin; refine wpList_copy_runI _ rfl _ _ 22 22 rfl _ _ rfl rfl (hcpB _ (fun _ => rfl) (fun _ => rfl) _ _ _) ?_))
  go_region_law_o (refine step_copy_runI rfl _ _ 22 22 rfl (.slice (some ⟨w.heap.size, (i + 1) * 2, none⟩) (n - i) (G - (i + 1))) (.slice (some ⟨b, i * 2, none⟩) (n - i) (c - i)) (by simp [Act.eval, Act.put]) (by simp [Act.eval, Act.put]) (hcpB _ hF1 hF2 3 (G - (i + 1)) (c - i)) ?_)
  go_wp2
  go_ret
  exact ⟨rfl, rfl⟩
end
theorem N50.ok : InsOk Go.Proofs.Tryd.prog 50 61 2 32 := ins_of (enters_of Go.Proofs.Tryd.func50 (by kernel_rfl : Go.Proofs.Tryd.f50.body = some ((Go.Proofs.Tryd.f50.body).getD .skip)) (by decide)) Go.Proofs.Tryd.underlying22 N50.info rfl (by decide) (by decide)
  (fun b n c i vb vc cs vs w h1 h2 h3 h4 h5 h6 h7 h8 h9 h10 h11 h12 tA tB kA kB h13 h14 h15 h16 h17 => N50.shift b n c i vb vc cs vs w h1 h2 h3 h4 h5 h6 h7 h8 h9 h10 h11 h12 tA tB kA kB h13 h14 h15 h16 h17) N50.atEnd (fun b n c i vb vc cs vs w h1 h2 h3 h4 h5 h6 h7 h8 h9 h10 => N50.grow b n c i vb vc cs vs w h1 h2 h3 h4 h5 h6 h7 h8 h9 h10)

end Go.Proofs.YthfdkmbijjkmaaaDoor.V
