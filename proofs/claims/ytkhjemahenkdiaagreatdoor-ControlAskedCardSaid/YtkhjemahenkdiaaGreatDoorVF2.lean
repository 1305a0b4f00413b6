/- Functions of the program, as Lean functions, and that the code answers so. Printed by vgen.py. -/
import Derived.Test.YtkhjemahenkdiaaGreatDoorVF1
namespace Go.Proofs.YtkhjemahenkdiaaGreatDoor.V
open Go Go.RowKit
set_option linter.unusedVariables false
set_option linter.unusedSimpArgs false
set_option maxRecDepth 100000
set_option maxHeartbeats 4000000
/-! ### function 130, wayfinder/topo.joined, where it is called -/
namespace h_topo_joined
noncomputable def c0 : Code := (Go.Proofs.Tryz.f130.body).getD .skip
noncomputable def V : Env := { tt := tt, Γ := slk [(156, f_topo_both.S)] }
theorem V_ok : EnvOk P V := { ck := tt_ck, fits := slk_cons f_topo_both.fits (slk_nil), mixed := mixed }
abbrev R := (List (T713d.T × T713d.T)) × Unit
noncomputable def s0 (p1 : T5477.T) : St := ⟨49, [(0, .cv (.agg (encC .any T5477 p1)))], []⟩
noncomputable def out (r : R) : St := ⟨49, [(2, .cv (.one (.mp 0)))], [(.dm true T713d T713d r.1, [])]⟩
abbrev Q (r : R) := CallQ 0 (out r)
noncomputable def s1 (p1 : List Td285.T) (p2 p3 : Int) (p4 : List (T713d.T × T713d.T)) : St := ⟨49, [(3, .cv (.one (.mp 0))), (14, .cv (.one (.sl Td285 p1 .any))), (15, .cv (.one (.i p2))), (16, .cv (.one (.i p3)))], [(.dm true T713d T713d p4, [])]⟩
noncomputable def s3 (p1 : List Td285.T) (p2 p3 : Int) (p4 : List (T713d.T × T713d.T)) (p5 p6 : T713d.T) : St := ⟨49, [(3, .cv (.one (.mp 0))), (6, .cv (.one (.ptr 1 0))), (7, .cv (.one (.ptr 2 0))), (14, .cv (.one (.sl Td285 p1 .any))), (15, .cv (.one (.i p2))), (16, .cv (.one (.i p3)))], [(.dm true T713d T713d p4, []), (.box 2, [.i p5.1, .i p5.2]), (.box 2, [.i p6.1, .i p6.2])]⟩
noncomputable def s2 (p1 : List Td285.T) (p2 p3 : Int) (p4 : List (T713d.T × T713d.T)) : St := ⟨49, [(3, .cv (.one (.mp 0))), (14, .cv (.one (.sl Td285 p1 .any))), (15, .cv (.one (.i p2))), (16, .cv (.one (.i p3)))], [(.dm true T713d T713d p4, [])]⟩
noncomputable def j2 (L1 : List Td285.T → Int → Int → List (T713d.T × T713d.T) → Option R) (k : Nat) (p1 : List Td285.T) (p2 p3 : Int) (p4 : List (T713d.T × T713d.T)) : Option R :=
  L1 p1 p2 (IntKind.i64.wrap (p3 + 1)) p4
theorem j2_ok {r} {L1 : List Td285.T → Int → Int → List (T713d.T × T713d.T) → Option R} {m1 : Nat} (hL1 : ∀ p1 p2 p3 p4, L1 p1 p2 p3 p4 = some r → Gw P 0 (Q r) (Pb c0 43 [] m1) (s1 p1 p2 p3 p4)) {k p1 p2 p3 p4} (H : j2 L1 k p1 p2 p3 p4 = some r) : Gw P 0 (Q r) (Px c0 971 [m1]) (s2 p1 p2 p3 p4) := by
  unfold j2 at H
  refine Rg V_ok 0 [] az ?_
  exact Jm (tn [3, 14, 15, 16] 1) (hL1 p1 p2 (IntKind.i64.wrap (p3 + 1)) p4 H)
noncomputable def j3 (L1 : List Td285.T → Int → Int → List (T713d.T × T713d.T) → Option R) (k : Nat) (p1 : List Td285.T) (p2 p3 : Int) (p4 : List (T713d.T × T713d.T)) (p5 p6 : T713d.T) : Option R :=
  if (!(dmHas (V := T713d) T713d p4 p6)) = true then
  j2 L1 k p1 p2 p3 (dmPut (V := T713d) T713d p4 p6 p5)
else
  j2 L1 k p1 p2 p3 p4
theorem j3_ok {r} {L1 : List Td285.T → Int → Int → List (T713d.T × T713d.T) → Option R} {m1 : Nat} (hL1 : ∀ p1 p2 p3 p4, L1 p1 p2 p3 p4 = some r → Gw P 0 (Q r) (Pb c0 43 [] m1) (s1 p1 p2 p3 p4)) {k p1 p2 p3 p4 p5 p6} (H : j3 L1 k p1 p2 p3 p4 p5 p6 = some r) : Gw P 0 (Q r) (Px c0 15563 [m1]) (s3 p1 p2 p3 p4 p5 p6) := by
  unfold j3 at H
  refine Rg V_ok 1 [(6, hb 3)] az ?_
  refine Rg V_ok 0 [] az ?_
  rcases of_ite H with ⟨hb7, H⟩ | ⟨hb7, H⟩
  · refine C1 hb7 ?_
    refine Rg V_ok 0 [] az ?_
    exact Jm (tn [3, 14, 15, 16] 1) (j2_ok hL1 H)
  · refine C0 hb7 ?_
    exact Jm (tn [3, 14, 15, 16] 1) (j2_ok hL1 H)
noncomputable def b1 (L1 : List Td285.T → Int → Int → List (T713d.T × T713d.T) → Option R) (k : Nat) (p1 : List Td285.T) (p2 p3 : Int) (p4 : List (T713d.T × T713d.T)) : Option R :=
  if (decide (p3 < p2)) = true then
  if 0 ≤ p3 then
    if p3 < (p1.length : Int) then
      (f_topo_both.f k (att Td285 p1 p3)).bind fun y4 =>
        if (!(dmHas (V := T713d) T713d p4 y4.1)) = true then
          j3 L1 k p1 p2 p3 (dmPut (V := T713d) T713d p4 y4.1 y4.2.1) y4.1 y4.2.1
        else
          j3 L1 k p1 p2 p3 p4 y4.1 y4.2.1
    else none
  else none
else
  some (p4, ())
theorem b1_ok {r} {L1 : List Td285.T → Int → Int → List (T713d.T × T713d.T) → Option R} {m1 : Nat} (hL1 : ∀ p1 p2 p3 p4, L1 p1 p2 p3 p4 = some r → Gw P 0 (Q r) (Pb c0 43 [] m1) (s1 p1 p2 p3 p4)) {k p1 p2 p3 p4} (H : b1 L1 k p1 p2 p3 p4 = some r) : Gw P 0 (Q r) (Px c0 75 [m1]) (s1 p1 p2 p3 p4) := by
  unfold b1 at H
  refine Rg V_ok 0 [] az ?_
  rcases of_ite H with ⟨hb1, H⟩ | ⟨hb1, H⟩
  · refine C1 hb1 ?_
    obtain ⟨n2, H⟩ := of_if H
    obtain ⟨n3, H⟩ := of_if H
    refine Rg V_ok 1 [(2, hb 1)] (ac n2 (ac n3 az)) ?_
    obtain ⟨y4, e5, H⟩ := of_bind H
    refine Rg V_ok 2 [(1, hr f_topo_both.S y4), (5, hb 2), (6, hb 3)] (ac (f_topo_both.rl e5) az) ?_
    refine Rg V_ok 1 [(6, hb 4)] az ?_
    refine Rg V_ok 0 [] az ?_
    rcases of_ite H with ⟨hb6, H⟩ | ⟨hb6, H⟩
    · refine C1 hb6 ?_
      refine Rg V_ok 0 [] az ?_
      exact Jm (tl [3, 6, 7, 14, 15, 16] [0, 2, 3]) (j3_ok hL1 H)
    · refine C0 hb6 ?_
      exact Jm (tl [3, 6, 7, 14, 15, 16] [0, 2, 3]) (j3_ok hL1 H)
  · refine C0 hb1 ?_
    refine Rg V_ok 0 [] az ?_
    obtain rfl := Option.some.inj H
    exact Lq (tn [2] 1)
noncomputable def l1 (k : Nat) : Nat → List Td285.T → Int → Int → List (T713d.T × T713d.T) → Option R
  | 0, _, _, _, _ => none
  | m + 1, p1, p2, p3, p4 => b1 (l1 k m) k p1 p2 p3 p4
theorem l1_ok {r} (k : Nat) : ∀ (m1 : Nat) (p1 : List Td285.T) (p2 p3 : Int) (p4 : List (T713d.T × T713d.T)), l1 k m1 p1 p2 p3 p4 = some r → Gw P 0 (Q r) (Pb c0 43 [] m1) (s1 p1 p2 p3 p4)
  | 0, _, _, _, _, H => by cases H
  | m1 + 1, p1, p2, p3, p4, H => SU (by kernel_rfl) (b1_ok (l1_ok k m1) H)
noncomputable def f (k : Nat) (p1 : T5477.T) : Option R :=
  l1 k k p1.2.2 (p1.2.2.length : Int) 0 []
theorem f_ok {r k p1} (H : f k p1 = some r) : Gw P 0 (Q r) (Px c0 1 []) (s0 p1) := by
  unfold f at H
  refine Rg V_ok 1 [(0, hb 0)] az ?_
  refine Rg V_ok 1 [(0, hb 1)] az ?_
  refine Rg V_ok 0 [] az ?_
  exact LP k (Jm (tl [3, 14, 15, 16] [1]) (l1_ok k k p1.2.2 (p1.2.2.length : Int) 0 [] H))
theorem ok {r k p1} (H : f k p1 = some r) : W P 0 c0 (s0 p1) (CallQ 0 (out r)) := of_G (f_ok H)
theorem at_ : FnAt P 130 49 c0 Go.Proofs.Tryz.f130.results := fnAt Go.Proofs.Tryz.func130 (by kernel_rfl) (by decide) (by kernel_rfl) (by kernel_rfl)
end h_topo_joined
namespace f_topo_May
structure Aside0 (p : Prop) : Prop where mk :: (out : p)
def isB (x : T713d.T) (t : T5477.T) : Bool := decide (x.1 ≥ (0 : Int)) && (decide (x.1 < t.1) && (decide (x.2 ≥ (0 : Int)) && decide (x.2 < t.2.1)))
theorem is_eq (k : Nat) (x : T713d.T) (t : T5477.T) : f_topo_end_is.f k x t = some (isB x t, ()) := by
  unfold f_topo_end_is.f isB
  cases decide (x.1 ≥ (0 : Int)) <;> cases decide (x.1 < t.1) <;> cases decide (x.2 ≥ (0 : Int)) <;> rfl
theorem joined_calls {k : Nat} {x : T5477.T} {y : h_topo_joined.R} (hk : h_topo_joined.f k x = some y) {F : Nat → Prop} {w : World} (hF : Globs F w) {v : Value} (hv : RepC (E0 F) w v (.agg (encC .any T5477 x))) :
    Calls Go.Proofs.Tryz.prog 130 #[v] w fun e w' => ∃ b, e = .returned (.map (some b)) ∧ w'.heap[b]? = some (.map (dmE true T713d T713d 0 y.1).toArray y.1.length) ∧ w.heap.size ≤ b ∧ Below w.heap.size w w' := by
  obtain ⟨fn, k1, k2, k3, k4, k5⟩ := h_topo_joined.at_
  refine (calls_W (V := h_topo_joined.V) (cvs := [.agg (encC .any T5477 x)]) (lr := [.one (.mp 0)]) tt_ck k1 k2 (by rw [k4]; exact Nat.le_of_ble_eq_true rfl) (by rw [k4]; exact h_topo_joined.ok hk) (by rw [k5]; kernel_rfl) hF (show All2 (RepC (E0 F) w) [v] _ from ⟨hv, trivial⟩)).mono ?_
  rintro e w' ⟨v, rfl, E', hI, hb, hβ, rfl⟩
  obtain ⟨b', h1, h2⟩ := hI.slot 0
  rw [hβ] at h1
  obtain rfl := Option.some.inj h1
  exact ⟨hb, rfl, h2, (hI.own 0 hb hβ).1, hI.below⟩
theorem dmE_mem {K V : Ty} {va : Bool} : ∀ (xs : List (K.T × V.T)) (i : Nat) {e : MapEntry}, e ∈ dmE va K V i xs → i ≤ e.born ∧ e.born < i + xs.length ∧ ∃ p, p ∈ xs ∧ e.key = .agg (flV K p.1).toArray
  | [], i, e, h => by cases h
  | p :: r, i, e, h => by
    rcases List.mem_cons.1 h with rfl | h
    · exact ⟨Nat.le_refl _, by simp, p, List.mem_cons_self, rfl⟩
    · obtain ⟨h1, h2, q, h3, h4⟩ := dmE_mem r (i + 1) h
      exact ⟨by omega, by simp only [List.length_cons]; omega, q, List.mem_cons_of_mem _ h3, h4⟩
theorem dmE_has {K V : Ty} {va : Bool} : ∀ (xs : List (K.T × V.T)) (i : Nat) {p : K.T × V.T}, p ∈ xs → ∃ e, e ∈ dmE va K V i xs ∧ e.key = .agg (flV K p.1).toArray
  | q :: r, i, p, h => by
    rcases List.mem_cons.1 h with rfl | h
    · exact ⟨_, List.mem_cons_self, rfl⟩
    · obtain ⟨e, h1, h2⟩ := dmE_has r (i + 1) h
      exact ⟨e, List.mem_cons_of_mem _ h1, h2⟩
theorem dmE_nodup {K V : Ty} {va : Bool} : ∀ (xs : List (K.T × V.T)) (i : Nat), ((dmE va K V i xs).map (·.born)).Nodup
  | [], _ => List.nodup_nil
  | p :: r, i => by
    simp only [dmE, List.map_cons, List.nodup_cons]
    refine ⟨fun h => ?_, dmE_nodup r (i + 1)⟩
    obtain ⟨e, h1, h2⟩ := List.mem_map.1 h
    have := (dmE_mem r (i + 1) h1).1
    omega
theorem born_eq : ∀ {l : List MapEntry} {e e2 : MapEntry}, (l.map (·.born)).Nodup → e2 ∈ l → e ∈ l → e2.born = e.born → e2 = e
  | x :: l, e, e2, hn, h2, h1, hb => by
    simp only [List.map_cons, List.nodup_cons] at hn
    rcases List.mem_cons.1 h2 with e3 | h2
    · rcases List.mem_cons.1 h1 with e4 | h1
      · rw [e3, e4]
      · exact absurd (List.mem_map.2 ⟨e, h1, by rw [← hb, e3]⟩) hn.1
    · rcases List.mem_cons.1 h1 with e4 | h1
      · exact absurd (List.mem_map.2 ⟨e2, h2, by rw [hb, e4]⟩) hn.1
      · exact born_eq hn.2 h2 h1 hb
section
variable {P : Program} {ops : Array Oper} {rest : List Oper} {o : Oper} {a : Act} {Q : Exit → Act → World → Prop} {w : World}
theorem gate_range {t : TypeId} {m : Operand} (_ : o.op = .range t m) (h : wpList P ops Q (o :: rest) a w) : wpList P ops Q (o :: rest) a w := h
theorem gate_next {m : Operand} (_ : o.op = .next m false) (h : wpList P ops Q (o :: rest) a w) : wpList P ops Q (o :: rest) a w := h
theorem gate_alloc {t : TypeId} (_ : o.op = .alloc t) (h : wpList P ops Q (o :: rest) a w) : wpList P ops Q (o :: rest) a w := h
theorem gate_storeX {t : TypeId} {x y : Operand} (_ : o.op = .store t x y) (h : wpList P ops Q (o :: rest) a w) : wpList P ops Q (o :: rest) a w := h
theorem wpList_alloc_row (hgd : o.guard = none) (t : TypeId) (ho : o.op = .alloc t) (Z : Array Value)
    (hz : ∀ w, (zeroValue t).run P w = .ok (.agg Z) w)
    (h : wpList P ops Q rest (a.put o.dst (.pointer (some ⟨w.heap.size, 0, none⟩))) (w.alloc (.cells Z t))) : wpList P ops Q (o :: rest) a w :=
  wpList_plain hgd fun _ hK => by
    unfold Oper.wp execOp
    simp only [ho, Instr.alloc, newVar, newRow, Value.cells, Sem.run_bind, hz, Sem.run_pure, Result.andThen_ok]
    exact hK _ _ h
theorem gate_len {t : TypeId} {x : Operand} (_ : o.op = .call { callee := .builtin .len, args := #[x], argTypes := #[t] }) (h : wpList P ops Q (o :: rest) a w) : wpList P ops Q (o :: rest) a w := h
theorem wpList_len_map (hg : o.guard = none) (x : Operand) (t : TypeId) (ho : o.op = .call { callee := .builtin .len, args := #[x], argTypes := #[t] }) (k e : TypeId) (ht : P.underlying t = some (.map k e)) (b : Nat) (es : Array MapEntry) (n : Nat) (hx : a.eval x = .map (some b)) (hb : w.heap[b]? = some (.map es n))
    (h : wpList P ops Q rest (a.put o.dst (.int .i64 (es.size : Int))) w) : wpList P ops Q (o :: rest) a w :=
  wpList_plain hg fun K hK => by
    unfold Oper.wp
    simp [execOp, ho, resolve, invoke, builtin, Builtin.len_, run_underlying ht, hx, Go.MapKept.run_getObj_map hb, goInt]
    exact hK _ _ h
theorem wpList_range_d (hg : o.guard = none) (m : Operand) (t : TypeId) (hop : o.op = .range t m) (k e : TypeId) (ht : P.underlying t = some (.map k e)) (b : Nat) (es : Array MapEntry) (n : Nat) (hm : a.eval m = .map (some b)) (hb : w.heap[b]? = some (.map es n))
    (hK : wpList P ops Q rest (a.put o.dst (.pointer (some ⟨w.heap.size, 0, none⟩))) (w.alloc (.mapIter (some b) n #[] n))) : wpList P ops Q (o :: rest) a w := by
  refine wpList_plain hg fun K' hK' => ?_
  have hrun := run_range_map (P := P) w t k e b es n ht hb
  unfold Oper.wp
  simp [execOp, hop, hm, hrun, Result.andThen]
  exact hK' _ _ hK
theorem wpList_next_d (hg : o.guard = none) (it : Operand) (hop : o.op = .next it false) (r b n c0 : Nat) (seen : Array Nat) (es : Array MapEntry) (hit : a.eval it = .pointer (some ⟨r, 0, none⟩)) (hr : w.heap[r]? = some (.mapIter (some b) n seen c0)) (hb : w.heap[b]? = some (.map es n)) (hold : ∀ x ∈ es.toList, x.born < n) (hsc : n ≤ c0)
    (hDone : (leftOf es seen).size = 0 → wpList P ops Q rest (a.put o.dst (.tuple #[.bool false])) w)
    (hMore : ∀ e w1, e ∈ (leftOf es seen).toList → (∀ j, j ≠ r → w1.heap[j]? = w.heap[j]?) → w1.heap[r]? = some (.mapIter (some b) n (seen.push e.born) n) → w1.heap.size = w.heap.size → w1.os = w.os → w1.tape = w.tape → w1.output = w.output → wpList P ops Q rest (a.put o.dst (.tuple #[.bool true, e.key, e.val])) w1) :
    wpList P ops Q (o :: rest) a w := by
  refine wpList_plain hg fun K' hK' => ?_
  unfold Oper.wp
  rcases run_next_at (P := P) w o.type r b n c0 seen es n hr hb hold hsc with ⟨h0, hrun⟩ | ⟨e, he, w1, hw1, hrun⟩
  · simp [execOp, hop, hit, hrun, Result.andThen]
    exact hK' _ _ (hDone h0)
  · simp [execOp, hop, hit, hrun, Result.andThen]
    have hlt : r < w.heap.size := (Array.getElem?_eq_some_iff.1 hr).1
    have hh : w1.heap = w.heap := by rcases hw1 with rfl | rfl <;> rfl
    refine hK' _ _ (hMore e _ he (fun j hj => ?_) ?_ ?_ ?_ ?_ ?_)
    · show (w1.heap.setIfInBounds r _)[j]? = _
      rw [hh, Array.getElem?_setIfInBounds_ne (Ne.symm hj)]
    · show (w1.heap.setIfInBounds r _)[r]? = _
      rw [hh]; simp [hlt]
    · show (w1.heap.setIfInBounds r _).size = _
      rw [hh]; simp
    · rcases hw1 with rfl | rfl <;> rfl
    · rcases hw1 with rfl | rfl <;> rfl
    · rcases hw1 with rfl | rfl <;> rfl
end
theorem zeroEnd : ∀ w, (zeroValue 160).run Go.Proofs.Tryz.prog w = .ok (.agg #[.int .i64 0, .int .i64 0]) w := (zero_of_info (n := 2) (by kernel_rfl : (Go.Proofs.Tryz.prog.info? 160).map (fun i => (i.zero, i.size)) = some (some (.agg #[.int .i64 0, .int .i64 0]), 2))).1
set_option maxHeartbeats 8000000 in
set_option maxRecDepth 100000 in
theorem may_bad (sw po : Int) (A : Option Addr) (n c : Nat) (w : World) (hb : sw < 1 ∨ sw > 6 ∨ po < 1 ∨ po > 8 ∨ (n : Int) > 12) :
    Calls Go.Proofs.Tryz.prog 93 #[.agg #[.int .i64 sw, .int .i64 po, .slice A n c]] w fun e w' => e = .returned (.bool false) ∧ Below w.heap.size w w' := by
  have hB : Below w.heap.size w (w.alloc (.cells #[.int .i64 sw, .int .i64 po, .slice A n c] 36)) := (Below.refl _ _).alloc (Nat.le_refl _) _
  by_cases h1 : sw < 1
  · clear hb
    go_enter Go.Proofs.Tryz.func93, Go.Proofs.Tryz.ntmps93
    go_wp2
    go_ret
    exact ⟨rfl, hB⟩
  by_cases h2 : sw > 6
  · clear hb
    go_enter Go.Proofs.Tryz.func93, Go.Proofs.Tryz.ntmps93
    go_wp2
    go_ret
    exact ⟨rfl, hB⟩
  by_cases h3 : po < 1
  · clear hb
    go_enter Go.Proofs.Tryz.func93, Go.Proofs.Tryz.ntmps93
    go_wp2
    go_ret
    exact ⟨rfl, hB⟩
  by_cases h4 : po > 8
  · clear hb
    go_enter Go.Proofs.Tryz.func93, Go.Proofs.Tryz.ntmps93
    go_wp2
    go_ret
    exact ⟨rfl, hB⟩
  have h5 : (n : Int) > 12 := by omega
  clear hb
  go_enter Go.Proofs.Tryz.func93, Go.Proofs.Tryz.ntmps93
  go_wp2
  go_ret
  exact ⟨rfl, hB⟩
theorem sizeEnd : (Go.Proofs.Tryz.prog.info? 160).map (·.size) = some 2 := by kernel_rfl
theorem sizeTopo : (Go.Proofs.Tryz.prog.info? 36).map (·.size) = some 3 := by kernel_rfl
theorem gate_load {P : Program} {ops : Array Oper} {rest : List Oper} {o : Oper} {a : Act} {Q : Exit → Act → World → Prop} {w : World} {t : TypeId} {x : Operand} (_ : o.op = .load t x) (h : wpList P ops Q (o :: rest) a w) : wpList P ops Q (o :: rest) a w := h
theorem globs_below {F : Nat → Prop} {w w' : World} (hG : Globs F w) (h : Below w.heap.size w w') : Globs F w' := hG.step (fun _ h => h) (fun b hb => h.block b (hG.1 b hb)) (fun b hb => Nat.lt_of_lt_of_le (hG.1 b hb) h.size)
theorem repc_below {F : Nat → Prop} {w w' : World} (hG : Globs F w) (h : Below w.heap.size w w') {v : Value} {c : CV} (hv : RepC (E0 F) w v c) : RepC (E0 F) w' v c := RepC.evo ⟨fun _ _ h => h, fun _ _ h => h, fun _ h => h, fun b hb => h.block b (hG.1 b hb)⟩ hv
theorem below_then {B : Nat} {w w1 w2 : World} (h : Below B w w1) (hB : B ≤ w1.heap.size) (k : Below w1.heap.size w1 w2) : Below B w w2 :=
  h.trans ⟨k.os, k.tape, k.output, k.size, fun i hi => k.block i (Nat.lt_of_lt_of_le hi hB)⟩
theorem is_calls (x : T713d.T) (t : T5477.T) {F : Nat → Prop} {w : World} (hF : Globs F w) {u : Value} (hv : RepC (E0 F) w u (.agg (encC .any T5477 t))) :
    Calls Go.Proofs.Tryz.prog 131 #[.agg #[.int .i64 x.1, .int .i64 x.2], u] w fun e w' => e = .returned (.bool (isB x t)) ∧ Below w.heap.size w w' := by
  refine (f_topo_end_is.fits.calls (x, t, ()) (isB x t, ()) ⟨0, is_eq 0 x t⟩ F w #[.agg #[.int .i64 x.1, .int .i64 x.2], u] hF (show All2 (RepC (E0 F) w) [.agg #[.int .i64 x.1, .int .i64 x.2], u] [cvOf true (encC .any T713d x), cvOf true (encC .any T5477 t)] from ⟨by rw [cvOf_true]; exact ⟨_, rfl, rfl, rfl, trivial⟩, by rw [cvOf_true]; exact hv, trivial⟩)).mono ?_
  rintro e w' ⟨v, rfl, bel, F', _, _, _, hv'⟩
  obtain rfl : v = .bool (isB x t) := hv'
  exact ⟨rfl, bel⟩
abbrev esOf (xs : List (T713d.T × T713d.T)) : Array MapEntry := (dmE true T713d T713d 0 xs).toArray
set_option maxHeartbeats 8000000 in
set_option maxRecDepth 100000 in
theorem may_ok (sw po : Int) (ls : List Td285.T) (A : Option Addr) (c : Nat) (F : Nat → Prop) (w : World) (hG : Globs F w) (hv : RepC (E0 F) w (.agg #[.int .i64 sw, .int .i64 po, .slice A ls.length c]) (.agg (encC .any T5477 (sw, (po, ls)))))
    (h1 : ¬ sw < 1) (h2 : ¬ sw > 6) (h3 : ¬ po < 1) (h4 : ¬ po > 8) (h5 : ¬ (ls.length : Int) > 12) (k : Nat) (y : h_topo_joined.R) (hk : h_topo_joined.f k (sw, (po, ls)) = some y) :
    Calls Go.Proofs.Tryz.prog 93 #[.agg #[.int .i64 sw, .int .i64 po, .slice A ls.length c]] w fun e w' => e = .returned (.bool (y.1.all (fun p => isB p.1 (sw, (po, ls))) && ((y.1.length : Int) == 2 * (ls.length : Int)))) ∧ Below w.heap.size w w' := by
  have HG := Aside0.mk hG
  have HV := Aside0.mk hv
  have HK := Aside0.mk hk
  have HB0 : Aside0 (Below w.heap.size w (w.alloc (.cells #[.int .i64 sw, .int .i64 po, .slice A ls.length c] 36))) := ⟨(Below.refl _ _).alloc (Nat.le_refl _) _⟩
  have HR0 := Aside0.mk (heap_alloc_new w (.cells #[.int .i64 sw, .int .i64 po, .slice A ls.length c] 36))
  clear hG hv hk
  go_enter Go.Proofs.Tryz.func93, Go.Proofs.Tryz.ntmps93
  go_wp2_with fail
  generalize hW1 : w.alloc (.cells #[.int .i64 sw, .int .i64 po, .slice A ls.length c] 36) = W1 at *
  refine (joined_calls HK.out (globs_below HG.out HB0.out) (repc_below HG.out HB0.out HV.out)).mono ?_
  rintro e w2 ⟨b, rfl, hb, hbl, hB2⟩
  have HM := Aside0.mk hb
  have HBL := Aside0.mk hbl
  have HB2 := Aside0.mk hB2
  have HR2 := Aside0.mk ((hB2.block w.heap.size (Array.getElem?_eq_some_iff.1 HR0.out).1).trans HR0.out)
  clear hb hbl hB2
  go_wp2_with ((with_reducible refine gate_range (t := 157) (m := .tmp 31) rfl ?_); refine wpList_range_d rfl (.tmp 31) 157 rfl 160 160 Go.Proofs.Tryz.underlying157 b _ y.1.length rfl HM.out ?_)
  go_frame
  have hw2 : (w2.alloc (.mapIter (some b) y.1.length #[] y.1.length)).heap.size = w2.heap.size + 1 := by simp
  have HS := Aside0.mk (show w2.heap.size < (w2.alloc (.mapIter (some b) y.1.length #[] y.1.length)).heap.size by rw [hw2]; omega)
  have H3b := Aside0.mk (below_then HB0.out HB0.out.size HB2.out)
  have H3 := Aside0.mk (H3b.out.alloc H3b.out.size (.mapIter (some b) y.1.length #[] y.1.length))
  have HI := Aside0.mk (heap_alloc_new w2 (.mapIter (some b) y.1.length #[] y.1.length))
  have HM3 := Aside0.mk ((heap_alloc_old w2 (.mapIter (some b) y.1.length #[] y.1.length) (Array.getElem?_eq_some_iff.1 HM.out).1).trans HM.out)
  have HR3 := Aside0.mk ((heap_alloc_old w2 (.mapIter (some b) y.1.length #[] y.1.length) (Array.getElem?_eq_some_iff.1 HR2.out).1).trans HR2.out)
  have HN := Aside0.mk (show w.heap.size ≤ w2.heap.size from H3b.out.size)
  have HNE := Aside0.mk (show b ≠ w2.heap.size from fun e => by have := (Array.getElem?_eq_some_iff.1 HM.out).1; omega)
  have HNB := Aside0.mk (show w.heap.size ≤ b by have := HB0.out.size; have := HBL.out; omega)
  have HNR := Aside0.mk (show w.heap.size ≠ w2.heap.size from fun e => by have := (Array.getElem?_eq_some_iff.1 HR2.out).1; omega)
  clear hw2
  generalize hW3 : w2.alloc (.mapIter (some b) y.1.length #[] y.1.length) = W3 at *
  generalize w2.heap.size = r at *
  clear hW3 hW1
  go_loopw [4] (fun _ wr => ∃ (seen : Array Nat) (c0 : Nat), Aside0 (wr.heap[r]? = some (.mapIter (some b) y.1.length seen c0)) ∧ Aside0 (y.1.length ≤ c0) ∧ Aside0 (wr.heap[b]? = some (.map (esOf y.1) y.1.length)) ∧ Aside0 (wr.heap[w.heap.size]? = some (.cells #[.int .i64 sw, .int .i64 po, .slice A ls.length c] 36 (0, 0))) ∧ Aside0 (Below w.heap.size w wr) ∧ Aside0 (∀ e ∈ (esOf y.1).toList, seen.contains e.born = true → ∃ p : T713d.T × T713d.T, e.key = .agg (flV T713d p.1).toArray ∧ isB p.1 (sw, (po, ls)) = true)) (fun _ wr => wr.rangeLeft b r)
  case atStart => exact ⟨#[], _, HI, ⟨Nat.le_refl _⟩, HM3, HR3, H3, ⟨fun e _ h => by simp at h⟩⟩
  case round =>
    obtain ⟨seen, c0, J1, J2, J3, J4, J5, J6⟩ := hrel
    go_wp2_with (first | ((with_reducible refine gate_next (m := .tmp 32) rfl ?_); refine wpList_next_d rfl (.tmp 32) rfl r b y.1.length c0 seen (esOf y.1) rfl J1.out J3.out (fun x hx => by have := (dmE_mem y.1 0 hx).2.1; omega) J2.out ?_ ?_))
    · intro h0
      have h00 : (leftOf (esOf y.1) seen).size = 0 := by simpa using h0
      have hall : (y.1.all fun p => isB p.1 (sw, (po, ls))) = true := by
        rw [List.all_eq_true]
        intro p hp
        obtain ⟨e, e1, e2⟩ := dmE_has (va := true) y.1 0 hp
        have hs : seen.contains e.born = true := by
          cases hc : seen.contains e.born
          · have : e ∈ leftOf (esOf y.1) seen := by unfold leftOf; simp [e1]; simpa using hc
            have := Array.size_pos_of_mem this
            omega
          · rfl
        obtain ⟨q, q1, q2⟩ := J6.out e e1 hs
        have hq : flV T713d q.1 = flV T713d p.1 := by
          have := q1.symm.trans e2
          simpa using this
        obtain ⟨⟨qa, qb⟩, qv⟩ := q
        obtain ⟨⟨pa, pb⟩, pv⟩ := p
        have hq' : [Value.int .i64 qa, Value.int .i64 qb] = [Value.int .i64 pa, Value.int .i64 pb] := hq
        simp only [List.cons.injEq, Value.int.injEq, true_and, and_true] at hq'
        dsimp only at q2 ⊢
        rw [← hq'.1, ← hq'.2]
        exact q2
      have HA := Aside0.mk hall
      have c2 : wr.cell? ⟨w.heap.size, 2, none⟩ = some (.slice A ls.length c) := by rw [cell_of_row _ _ _ _ _ _ J4.out]; rfl
      have HL := Aside0.mk (show (esOf y.1).size = y.1.length from by simp [dmE_len])
      clear hall h0
      go_wp2_with (first | ((with_reducible refine gate_len (x := .tmp 41) (t := 157) rfl ?_); refine wpList_len_map rfl (.tmp 41) 157 rfl 160 160 Go.Proofs.Tryz.underlying157 b (esOf y.1) y.1.length rfl J3.out ?_; rw [HL.out]))
      go_ret
      exact ⟨by rw [HA.out]; simp, J5.out⟩
    · intro e w1 he hsame hit hsz hos htp hout
      have heM : e ∈ (esOf y.1).toList := by unfold leftOf at he; simp at he; simpa using he.1
      have hnew : seen.contains e.born = false := by unfold leftOf at he; simp at he; simpa using he.2
      obtain ⟨_, _, p, hp, hpk⟩ := dmE_mem y.1 0 heM
      have hb1 : w1.heap[b]? = some (.map (esOf y.1) y.1.length) := (hsame b HNE.out).trans J3.out
      have hen := run_entry_at (P := Go.Proofs.Tryz.prog) w1 r b y.1.length seen (esOf y.1) y.1.length e hit hb1 heM (dmE_nodup y.1 0)
      have HR1 := Aside0.mk ((hsame w.heap.size HNR.out).trans J4.out)
      have HB1 := Aside0.mk (show Below w.heap.size w w1 from J5.out.trans ⟨hos, htp, hout, by omega, fun j hj => hsame j (by have := HN.out; omega)⟩)
      have HM1 := Aside0.mk hb1
      have HI1 := Aside0.mk hit
      have HP := Aside0.mk hpk
      have HX := Aside0.mk heM
      obtain ⟨⟨pa, pb⟩, pv⟩ := p
      have hk' : e.key = .agg #[.int .i64 pa, .int .i64 pb] := hpk
      rw [hk'] at hen ⊢
      have HSZ := Aside0.mk hsz
      have HNW := Aside0.mk hnew
      clear hsame hit hos htp hout hb1 hpk hk' heM hsz hnew
      have L2 := Aside0.mk ((heap_alloc_old w1 (.cells #[.int .i64 pa, .int .i64 pb] 160) (Array.getElem?_eq_some_iff.1 HR1.out).1).trans HR1.out)
      have L3 := Aside0.mk ((heap_alloc_old w1 (.cells #[.int .i64 pa, .int .i64 pb] 160) (Array.getElem?_eq_some_iff.1 HM1.out).1).trans HM1.out)
      have L4 := Aside0.mk ((heap_alloc_old w1 (.cells #[.int .i64 pa, .int .i64 pb] 160) (Array.getElem?_eq_some_iff.1 HI1.out).1).trans HI1.out)
      have L5 := Aside0.mk (HB1.out.alloc HB1.out.size (.cells #[.int .i64 pa, .int .i64 pb] 160))
      have c0' : (w1.alloc (.cells #[.int .i64 pa, .int .i64 pb] 160)).cell? ⟨w.heap.size, 0, none⟩ = some (.int .i64 sw) := by rw [cell_of_row _ _ _ _ _ _ L2.out]; rfl
      have c1' : (w1.alloc (.cells #[.int .i64 pa, .int .i64 pb] 160)).cell? ⟨w.heap.size, 1, none⟩ = some (.int .i64 po) := by rw [cell_of_row _ _ _ _ _ _ L2.out]; rfl
      have c2' : (w1.alloc (.cells #[.int .i64 pa, .int .i64 pb] 160)).cell? ⟨w.heap.size, 2, none⟩ = some (.slice A ls.length c) := by rw [cell_of_row _ _ _ _ _ _ L2.out]; rfl
      have HALL := Aside0.mk (show isB (pa, pb) (sw, (po, ls)) = false → (y.1.all fun p => isB p.1 (sw, (po, ls))) = false from fun h => by
        rw [List.all_eq_false]
        exact ⟨_, hp, by dsimp only; rw [h]; exact Bool.false_ne_true⟩)
      have HLT := Aside0.mk (show (leftOf (esOf y.1) (seen.push e.born)).size < (leftOf (esOf y.1) seen).size from left_shrinks _ _ _ (by simpa using he))
      clear hp he
      go_wp2_with fail
      refine (is_calls (pa, pb) (sw, (po, ls)) (globs_below HG.out L5.out) (repc_below HG.out L5.out HV.out)).mono ?_
      rintro e' w5 ⟨rfl, hB5⟩
      have M1 := Aside0.mk ((hB5.block w.heap.size (Array.getElem?_eq_some_iff.1 L2.out).1).trans L2.out)
      have M2 := Aside0.mk ((hB5.block b (Array.getElem?_eq_some_iff.1 L3.out).1).trans L3.out)
      have M3 := Aside0.mk ((hB5.block r (Array.getElem?_eq_some_iff.1 L4.out).1).trans L4.out)
      have M4 := Aside0.mk (below_then L5.out L5.out.size hB5)
      clear hB5 c0' c1' c2'
      cases hB : isB (pa, pb) (sw, (po, ls))
      · go_wp2
        go_ret
        exact ⟨by rw [HALL.out hB]; rfl, M4.out⟩
      · have HBB := Aside0.mk hB
        clear hB
        go_wp2
        go_roundw
        case rel =>
          refine ⟨seen.push e.born, _, M3, ⟨Nat.le_refl _⟩, M2, M1, M4, ⟨fun e2 h2 hs => ?_⟩⟩
          by_cases hn : seen.contains e2.born = true
          · exact J6.out e2 h2 hn
          · have hb' : e2.born = e.born := by
              simp only [Array.contains_push, Bool.or_eq_true, beq_iff_eq] at hs
              rcases hs with hs | hs
              · exact absurd hs hn
              · exact hs
            have : e2 = e := by
              have hnd := dmE_nodup (va := true) y.1 0
              exact born_eq hnd h2 HX.out hb'
            subst this
            exact ⟨((pa, pb), pv), HP.out, HBB.out⟩
        case measure =>
          unfold World.rangeLeft
          rw [M2.out, M3.out, J3.out, J1.out]
          exact HLT.out
theorem topo_val {F : Nat → Prop} {w : World} {v : Value} {x : T5477.T} (h : RepC (E0 F) w v (.agg (encC .any T5477 x))) : ∃ A c, v = .agg #[.int .i64 x.1, .int .i64 x.2.1, .slice A x.2.2.length c] := by
  obtain ⟨cs, rfl, hl⟩ := h
  have hlen := hl.len
  match hz : cs.toList, hl with
  | [v1, v2, v3], ⟨h1, h2, h3, _⟩ =>
    obtain ⟨A, c, inner, e, _⟩ := h3.1
    simp only [List.cons.injEq, and_true] at e
    obtain rfl : v1 = .int .i64 x.1 := h1
    obtain rfl : v2 = .int .i64 x.2.1 := h2
    subst e
    exact ⟨A, c, by rw [← Array.toArray_toList (xs := cs), hz]⟩
theorem enter_of {P : Program} {f : Nat} {fn : Func} {c : Code} (hf : P.funcs[f]? = some fn) (hb : fn.body = some c) (hn : fn.name ≠ "runtime.NumGoroutine") (args : Array Value) (w : World) : (callFunc f args).run P w = .ok (.enter f args) w := by
  simp [callFunc, hf, hb, hn]
abbrev ps : Sg := [(true, T5477)]
abbrev rs : Sg := [(false, .bool)]
abbrev R := Tup rs
noncomputable def f (k : Nat) (a1 : T5477.T) : Option R :=
  if a1.1 < (1 : Int) ∨ a1.1 > (6 : Int) ∨ a1.2.1 < (1 : Int) ∨ a1.2.1 > (8 : Int) ∨ (a1.2.2.length : Int) > (12 : Int) then some (false, ())
  else (h_topo_joined.f k a1).bind fun y => some (y.1.all (fun p => isB p.1 a1) && ((y.1.length : Int) == 2 * (a1.2.2.length : Int)), ())
noncomputable def S : Spec := ⟨ps, rs, .any, none, fun x r => ∃ k, f k x.1 = some r⟩
theorem rl {k a1 r} (e : f k a1 = some r) : S.rel (a1, ()) r := ⟨k, e⟩
theorem fits : Fits P 93 S := by
  refine ⟨fun args w => ?_, fun x r hrel F w args hF hargs => ?_⟩
  · exact enter_of (c := (Go.Proofs.Tryz.f93.body).getD .skip) Go.Proofs.Tryz.func93 (by kernel_rfl) (by decide) args w
  · obtain ⟨k, hk⟩ := hrel
    obtain ⟨a1, u⟩ := x
    dsimp only at hk
    have ha : ∃ v, args = #[v] ∧ RepC (E0 F) w v (.agg (encC .any T5477 a1)) := by
      match hz : args.toList, hargs with
      | [v], h => exact ⟨v, by rw [← Array.toArray_toList (xs := args), hz], by have := h.1; rw [cvOf_true] at this; exact this⟩
    obtain ⟨v, rfl, hr⟩ := ha
    obtain ⟨A, c, rfl⟩ := topo_val hr
    obtain ⟨sw, po, ls⟩ := a1
    have key : ∃ b : Bool, r = (b, ()) ∧ Calls Go.Proofs.Tryz.prog 93 #[.agg #[.int .i64 sw, .int .i64 po, .slice A ls.length c]] w fun e w' => e = .returned (.bool b) ∧ Below w.heap.size w w' := by
      unfold f at hk
      by_cases hb : sw < (1 : Int) ∨ sw > (6 : Int) ∨ po < (1 : Int) ∨ po > (8 : Int) ∨ (ls.length : Int) > (12 : Int)
      · rw [if_pos hb] at hk
        exact ⟨false, (Option.some.inj hk).symm, may_bad sw po A ls.length c w hb⟩
      · rw [if_neg hb] at hk
        cases hy : h_topo_joined.f k (sw, (po, ls)) with
        | none => rw [hy] at hk; cases hk
        | some y =>
          rw [hy] at hk
          exact ⟨_, (Option.some.inj hk).symm, may_ok sw po ls A c F w hF hr (fun h => hb (.inl h)) (fun h => hb (.inr (.inl h))) (fun h => hb (.inr (.inr (.inl h)))) (fun h => hb (.inr (.inr (.inr (.inl h))))) (fun h => hb (.inr (.inr (.inr (.inr h))))) k y hy⟩
    obtain ⟨b, rfl, hc⟩ := key
    refine hc.mono ?_
    rintro e w' ⟨rfl, hb⟩
    exact ⟨_, rfl, hb, F, fun _ h => h, fun _ h => .inl h, fun b h => Nat.lt_of_lt_of_le (hF.1 b h) hb.size, rfl⟩
end f_topo_May

/-! ### function 132, wayfinder/conf.rules$1, where it is called -/
namespace i_conf_rules_1_8d7
noncomputable def c0 : Code := (Go.Proofs.Tryz.f132.body).getD .skip
noncomputable def V : Env := { tt := tt, Γ := slk [(133, f_rule_May.S)] }
theorem V_ok : EnvOk P V := { ck := tt_ck, fits := slk_cons f_rule_May.fits (slk_nil), mixed := mixed }
abbrev R := (Bool) × Unit
noncomputable def s0 (x1 : T1383.T) (x2 : List (T16b3.T × Bool)) (x3 : T5477.T) : St := ⟨28, [(0, .cv (.agg (encC .any T1383 x1))), (1, .cv (.one (.ptr 1 0)))], [(.dm false T16b3 .bool x2, []), (.box 3, (encC .any T5477 x3))]⟩
noncomputable def out (x2 : List (T16b3.T × Bool)) (x3 : T5477.T) (r : R) : St := ⟨28, [(3, .cv (.one (.bool r.1)))], [(.dm false T16b3 .bool x2, []), (.box 3, (encC .any T5477 x3))]⟩
abbrev Q (x2 : List (T16b3.T × Bool)) (x3 : T5477.T) (r : R) := CallQ 2 (out x2 x3 r)
noncomputable def f (k : Nat) (x1 : T1383.T) (x2 : List (T16b3.T × Bool)) (x3 : T5477.T) : Option R :=
  (f_rule_May.f k x1).bind fun y1 =>
    if (!y1.1) = true then
      some (true, ())
    else
      if (decide (x1.2.1 ≥ x3.2.1)) = true then
        some (true, ())
      else
        if (x1.2.2.2.1 == (1 : Int)) = true then
          some ((decide (x1.2.2.2.2 ≥ x3.2.1)), ())
        else
          some (false, ())
theorem f_ok {r k x1 x2 x3} (H : f k x1 x2 x3 = some r) : Gw P 2 (Q x2 x3 r) (Px c0 1 []) (s0 x1 x2 x3) := by
  unfold f at H
  refine Rg V_ok 1 [(0, hb 2)] az ?_
  obtain ⟨y1, e2, H⟩ := of_bind H
  rcases of_ite H with ⟨hb3, H⟩ | ⟨hb3, H⟩
  · refine Rg V_ok 0 [(1, hr f_rule_May.S y1), (2, {bv := some true})] (ac (f_rule_May.rl e2) (ac hb3 az)) ?_
    obtain rfl := Option.some.inj H
    exact Lq (tn [3] 2)
  · rcases of_ite H with ⟨hb4, H⟩ | ⟨hb4, H⟩
    · refine Rg V_ok 0 [(1, hr f_rule_May.S y1), (2, {bv := some false}), (9, {bv := some true})] (ac (f_rule_May.rl e2) (ac hb3 (ac hb4 az))) ?_
      obtain rfl := Option.some.inj H
      exact Lq (tn [3] 2)
    · rcases of_ite H with ⟨hb5, H⟩ | ⟨hb5, H⟩
      · refine Rg V_ok 0 [(1, hr f_rule_May.S y1), (2, {bv := some false}), (9, {bv := some false}), (14, {bv := some true})] (ac (f_rule_May.rl e2) (ac hb3 (ac hb4 (ac hb5 az)))) ?_
        obtain rfl := Option.some.inj H
        exact Lq (tn [3] 2)
      · refine Rg V_ok 0 [(1, hr f_rule_May.S y1), (2, {bv := some false}), (9, {bv := some false}), (14, {bv := some false})] (ac (f_rule_May.rl e2) (ac hb3 (ac hb4 (ac hb5 az)))) ?_
        obtain rfl := Option.some.inj H
        exact Lq (tn [3] 2)
theorem ok {r k x1 x2 x3} (H : f k x1 x2 x3 = some r) : W P 2 c0 (s0 x1 x2 x3) (CallQ 2 (out x2 x3 r)) := of_G (f_ok H)
theorem at_ : FnAt P 132 28 c0 Go.Proofs.Tryz.f132.results := fnAt Go.Proofs.Tryz.func132 (by kernel_rfl) (by decide) (by kernel_rfl) (by kernel_rfl)
end i_conf_rules_1_8d7
/-! ### function 158, slices.IndexFunc[[]wayfinder/api.Rule,wayfinder/api.Rule], where it is called -/
namespace i_slices_IndexFunc_Rule_aa1
noncomputable def c0 : Code := (Go.Proofs.Tryz.f158.body).getD .skip
noncomputable def V : Env := { tt := tt, Γ := slk [] }
theorem V_ok : EnvOk P V := { ck := tt_ck, fits := slk_nil, mixed := mixed }
abbrev R := (Int) × Unit
noncomputable def s0 (x1 : List T1383.T) (x2 : List (T16b3.T × Bool)) (x3 : T5477.T) : St := ⟨19, [(0, .cv (.one (.sl T1383 x1 .any))), (1, .cv (.one (.fn 132 [] [(1, 0)])))], [(.dm false T16b3 .bool x2, []), (.box 3, (encC .any T5477 x3))]⟩
noncomputable def out (x2 : List (T16b3.T × Bool)) (x3 : T5477.T) (r : R) : St := ⟨19, [(4, .cv (.one (.i r.1)))], [(.dm false T16b3 .bool x2, []), (.box 3, (encC .any T5477 x3))]⟩
abbrev Q (x2 : List (T16b3.T × Bool)) (x3 : T5477.T) (r : R) := CallQ 2 (out x2 x3 r)
noncomputable def s1 (x1 : List T1383.T) (x2 : List (T16b3.T × Bool)) (x3 : T5477.T) (p2 p3 : Int) : St := ⟨19, [(0, .cv (.one (.sl T1383 x1 .any))), (1, .cv (.one (.fn 132 [] [(1, 0)]))), (7, .cv (.one (.i p2))), (8, .cv (.one (.i p3)))], [(.dm false T16b3 .bool x2, []), (.box 3, (encC .any T5477 x3))]⟩
noncomputable def b1 (x1 : List T1383.T) (x2 : List (T16b3.T × Bool)) (x3 : T5477.T) (L1 : Int → Int → Option R) (k : Nat) (p2 p3 : Int) : Option R :=
  if (decide (p3 < p2)) = true then
  if 0 ≤ p3 then
    if p3 < (x1.length : Int) then
      (i_conf_rules_1_8d7.f k (att T1383 x1 p3) x2 x3).bind fun y4 =>
        if y4.1 = true then
          some (p3, ())
        else
          L1 p2 (IntKind.i64.wrap (p3 + 1))
    else none
  else none
else
  some ((-1), ())
theorem b1_ok {r x1 x2 x3} {L1 : Int → Int → Option R} {m1 : Nat} (hL1 : ∀ p2 p3, L1 p2 p3 = some r → Gw P 2 (Q x2 x3 r) (Pb c0 21 [] m1) (s1 x1 x2 x3 p2 p3)) {k p2 p3} (H : b1 x1 x2 x3 L1 k p2 p3 = some r) : Gw P 2 (Q x2 x3 r) (Px c0 37 [m1]) (s1 x1 x2 x3 p2 p3) := by
  unfold b1 at H
  refine Rg V_ok 0 [] az ?_
  rcases of_ite H with ⟨hb1, H⟩ | ⟨hb1, H⟩
  · refine C1 hb1 ?_
    refine Rg V_ok 0 [] az ?_
    refine GT (tn [0, 1, 5, 7, 8] 2) (RI ?_)
    obtain ⟨n2, H⟩ := of_if H
    obtain ⟨n3, H⟩ := of_if H
    refine EV V_ok 0 [] 5 (ac n2 (ac n3 az)) ?_
    obtain ⟨y4, e5, H⟩ := of_bind H
    refine CL V_ok i_conf_rules_1_8d7.at_ (i_conf_rules_1_8d7.ok e5) ?_
    refine RN ?_
    rcases of_ite H with ⟨hb6, H⟩ | ⟨hb6, H⟩
    · refine C1 hb6 ?_
      refine Rg V_ok 0 [] az ?_
      obtain rfl := Option.some.inj H
      exact Lq (tn [4] 2)
    · refine C0 hb6 ?_
      refine Rg V_ok 0 [] az ?_
      exact Jm (tn [0, 1, 7, 8] 2) (hL1 p2 (IntKind.i64.wrap (p3 + 1)) H)
  · refine C0 hb1 ?_
    refine Rg V_ok 0 [] az ?_
    obtain rfl := Option.some.inj H
    exact Lq (tn [4] 2)
noncomputable def l1 (x1 : List T1383.T) (x2 : List (T16b3.T × Bool)) (x3 : T5477.T) (k : Nat) : Nat → Int → Int → Option R
  | 0, _, _ => none
  | m + 1, p2, p3 => b1 x1 x2 x3 (l1 x1 x2 x3 k m) k p2 p3
theorem l1_ok {r x1 x2 x3} (k : Nat) : ∀ (m1 : Nat) (p2 : Int) (p3 : Int), l1 x1 x2 x3 k m1 p2 p3 = some r → Gw P 2 (Q x2 x3 r) (Pb c0 21 [] m1) (s1 x1 x2 x3 p2 p3)
  | 0, _, _, H => by cases H
  | m1 + 1, p2, p3, H => SU (by kernel_rfl) (b1_ok (l1_ok k m1) H)
noncomputable def f (k : Nat) (x1 : List T1383.T) (x2 : List (T16b3.T × Bool)) (x3 : T5477.T) : Option R :=
  l1 x1 x2 x3 k k (x1.length : Int) 0
theorem f_ok {r k x1 x2 x3} (H : f k x1 x2 x3 = some r) : Gw P 2 (Q x2 x3 r) (Px c0 1 []) (s0 x1 x2 x3) := by
  unfold f at H
  refine Rg V_ok 0 [] az ?_
  refine Rg V_ok 0 [] az ?_
  exact LP k (Jm (tn [0, 1, 7, 8] 2) (l1_ok k k (x1.length : Int) 0 H))
theorem ok {r k x1 x2 x3} (H : f k x1 x2 x3 = some r) : W P 2 c0 (s0 x1 x2 x3) (CallQ 2 (out x2 x3 r)) := of_G (f_ok H)
theorem at_ : FnAt P 158 19 c0 Go.Proofs.Tryz.f158.results := fnAt Go.Proofs.Tryz.func158 (by kernel_rfl) (by decide) (by kernel_rfl) (by kernel_rfl)
end i_slices_IndexFunc_Rule_aa1
/-! ### function 134, slices.ContainsFunc[[]wayfinder/api.Rule,wayfinder/api.Rule], where it is called -/
namespace i_slices_ContainsFunc_Rule_aa1
noncomputable def c0 : Code := (Go.Proofs.Tryz.f134.body).getD .skip
noncomputable def V : Env := { tt := tt, Γ := slk [] }
theorem V_ok : EnvOk P V := { ck := tt_ck, fits := slk_nil, mixed := mixed }
abbrev R := (Bool) × Unit
noncomputable def s0 (x1 : List T1383.T) (x2 : List (T16b3.T × Bool)) (x3 : T5477.T) : St := ⟨9, [(0, .cv (.one (.sl T1383 x1 .any))), (1, .cv (.one (.fn 132 [] [(1, 0)])))], [(.dm false T16b3 .bool x2, []), (.box 3, (encC .any T5477 x3))]⟩
noncomputable def out (x2 : List (T16b3.T × Bool)) (x3 : T5477.T) (r : R) : St := ⟨9, [(4, .cv (.one (.bool r.1)))], [(.dm false T16b3 .bool x2, []), (.box 3, (encC .any T5477 x3))]⟩
abbrev Q (x2 : List (T16b3.T × Bool)) (x3 : T5477.T) (r : R) := CallQ 2 (out x2 x3 r)
noncomputable def f (k : Nat) (x1 : List T1383.T) (x2 : List (T16b3.T × Bool)) (x3 : T5477.T) : Option R :=
  (i_slices_IndexFunc_Rule_aa1.f k x1 x2 x3).bind fun y1 =>
    some ((decide (y1.1 ≥ (0 : Int))), ())
theorem f_ok {r k x1 x2 x3} (H : f k x1 x2 x3 = some r) : Gw P 2 (Q x2 x3 r) (Px c0 1 []) (s0 x1 x2 x3) := by
  unfold f at H
  refine Rg V_ok 0 [] az ?_
  refine GT (tn [0, 1] 2) (RI ?_)
  refine EV V_ok 0 [] 2 az ?_
  obtain ⟨y1, e2, H⟩ := of_bind H
  refine CL V_ok i_slices_IndexFunc_Rule_aa1.at_ (i_slices_IndexFunc_Rule_aa1.ok e2) ?_
  refine EV V_ok 0 [] 2 az ?_
  refine RN ?_
  obtain rfl := Option.some.inj H
  exact Lq (tn [4] 2)
theorem ok {r k x1 x2 x3} (H : f k x1 x2 x3 = some r) : W P 2 c0 (s0 x1 x2 x3) (CallQ 2 (out x2 x3 r)) := of_G (f_ok H)
theorem at_ : FnAt P 134 9 c0 Go.Proofs.Tryz.f134.results := fnAt Go.Proofs.Tryz.func134 (by kernel_rfl) (by decide) (by kernel_rfl) (by kernel_rfl)
end i_slices_ContainsFunc_Rule_aa1
/-! ### function 94, wayfinder/conf.rules -/
namespace f_conf_rules
noncomputable def c0 : Code := (Go.Proofs.Tryz.f94.body).getD .skip
abbrev ps : Sg := [(true, T5477), (false, (.slice T1383))]
abbrev rs : Sg := [(false, .bool)]
noncomputable def V : Env := { tt := tt, Γ := slk [] }
theorem V_ok : EnvOk P V := { ck := tt_ck, fits := slk_nil, mixed := mixed }
abbrev R := Tup rs
noncomputable abbrev Q (r : R) : Exit → St → Prop := Qr tt Go.Proofs.Tryz.f94.results ⟨ps, rs, .any, none, fun _ _ => True⟩ r
noncomputable def s1 (a1 : T5477.T) (a2 : List T1383.T) (p3 p4 : Int) (p6 : List (T16b3.T × Bool)) : St := ⟨42, [(1, .cv (.one (.sl T1383 a2 .any))), (2, .cv (.one (.ptr 0 0))), (5, .cv (.one (.mp 1))), (10, .cv (.one (.sl T1383 a2 .any))), (11, .cv (.one (.i p3))), (12, .cv (.one (.i p4)))], [(.box 3, (encC .any T5477 a1)), (.dm false T16b3 .bool p6, [])]⟩
noncomputable def b1 (a1 : T5477.T) (a2 : List T1383.T) (L1 : Int → Int → List (T16b3.T × Bool) → Option R) (k : Nat) (p3 p4 : Int) (p6 : List (T16b3.T × Bool)) : Option R :=
  if (decide (p4 < p3)) = true then
  if 0 ≤ p4 then
    if p4 < (a2.length : Int) then
      L1 p3 (IntKind.i64.wrap (p4 + 1)) (dmPut (V := .bool) T16b3 p6 (((att T1383 a2 p4).1), (((att T1383 a2 p4).2).1, (((att T1383 a2 p4).2).2).1)) true)
    else none
  else none
else
  if (decide ((a2.length : Int) ≤ (40 : Int))) = true then
    if ((p6.length : Int) == (a2.length : Int)) = true then
      (i_slices_ContainsFunc_Rule_aa1.f k a2 p6 a1).bind fun y6 =>
        some ((!y6.1), ())
    else
      some (false, ())
  else
    some (false, ())
theorem b1_ok {r a1 a2} {L1 : Int → Int → List (T16b3.T × Bool) → Option R} {m1 : Nat} (hL1 : ∀ p3 p4 p6, L1 p3 p4 p6 = some r → Gw P 0 (Q r) (Pb c0 43 [] m1) (s1 a1 a2 p3 p4 p6)) {k p3 p4 p6} (H : b1 a1 a2 L1 k p3 p4 p6 = some r) : Gw P 0 (Q r) (Px c0 75 [m1]) (s1 a1 a2 p3 p4 p6) := by
  unfold b1 at H
  refine Rg V_ok 0 [] az ?_
  rcases of_ite H with ⟨hb1, H⟩ | ⟨hb1, H⟩
  · refine C1 hb1 ?_
    obtain ⟨n2, H⟩ := of_if H
    obtain ⟨n3, H⟩ := of_if H
    refine Rg V_ok 1 [(2, hb 2)] (ac n2 (ac n3 az)) ?_
    refine Rg V_ok 0 [] az ?_
    refine Rg V_ok 0 [] az ?_
    exact Jm (tn [1, 2, 5, 10, 11, 12] 2) (hL1 p3 (IntKind.i64.wrap (p4 + 1)) (dmPut (V := .bool) T16b3 p6 (((att T1383 a2 p4).1), (((att T1383 a2 p4).2).1, (((att T1383 a2 p4).2).2).1)) true) H)
  · refine C0 hb1 ?_
    refine Rg V_ok 0 [] az ?_
    refine GT (tl [1, 5, 8] [1, 0]) (RI ?_)
    refine EV V_ok 0 [] 4 az ?_
    rcases of_ite H with ⟨hb4, H⟩ | ⟨hb4, H⟩
    · refine FXO 29 hb4 ?_
      refine EV V_ok 0 [] 7 az ?_
      rcases of_ite H with ⟨hb5, H⟩ | ⟨hb5, H⟩
      · refine FXO 36 hb5 ?_
        refine EV V_ok 0 [] 2 az ?_
        obtain ⟨y6, e7, H⟩ := of_bind H
        refine CL V_ok i_slices_ContainsFunc_Rule_aa1.at_ (i_slices_ContainsFunc_Rule_aa1.ok e7) ?_
        refine EV V_ok 0 [] 3 az ?_
        refine RN ?_
        exact Lf (Eq.trans (by kernel_rfl) H)
      · refine FXO 36 hb5 ?_
        refine EV V_ok 0 [] 6 az ?_
        refine RN ?_
        exact Lf (Eq.trans (by kernel_rfl) H)
    · refine FXO 29 hb4 ?_
      refine EV V_ok 0 [] 7 az ?_
      refine EV V_ok 0 [] 6 az ?_
      refine RN ?_
      exact Lf (Eq.trans (by kernel_rfl) H)
noncomputable def l1 (a1 : T5477.T) (a2 : List T1383.T) (k : Nat) : Nat → Int → Int → List (T16b3.T × Bool) → Option R
  | 0, _, _, _ => none
  | m + 1, p3, p4, p6 => b1 a1 a2 (l1 a1 a2 k m) k p3 p4 p6
theorem l1_ok {r a1 a2} (k : Nat) : ∀ (m1 : Nat) (p3 p4 : Int) (p6 : List (T16b3.T × Bool)), l1 a1 a2 k m1 p3 p4 p6 = some r → Gw P 0 (Q r) (Pb c0 43 [] m1) (s1 a1 a2 p3 p4 p6)
  | 0, _, _, _, H => by cases H
  | m1 + 1, p3, p4, p6, H => SU (by kernel_rfl) (b1_ok (l1_ok k m1) H)
noncomputable def f (k : Nat) (a1 : T5477.T) (a2 : List T1383.T) : Option R :=
  l1 a1 a2 k k (a2.length : Int) 0 []
noncomputable def S : Spec := ⟨ps, rs, .any, none, fun x r => ∃ k, f k x.1 x.2.1 = some r⟩
theorem rl {k a1 a2 r} (e : f k a1 a2 = some r) : S.rel (a1, a2, ()) r := ⟨k, e⟩
theorem f_ok {r k a1 a2} (H : f k a1 a2 = some r) : Gw P 0 (Q r) (Px c0 1 []) (⟨42, [(0, .cv (.agg (encC .any T5477 a1))), (1, .cv (.one (.sl T1383 a2 .any)))], []⟩) := by
  unfold f at H
  refine Rg V_ok 1 [(0, hb 0)] az ?_
  refine Rg V_ok 1 [(0, hb 1)] az ?_
  refine Rg V_ok 0 [] az ?_
  exact LP k (Jm (tn [1, 2, 5, 10, 11, 12] 2) (l1_ok k k (a2.length : Int) 0 [] H))
theorem fits : Fits P 94 S := fits_of V_ok Go.Proofs.Tryz.func94 (by kernel_rfl) (by decide) (by decide) rfl (fun x r ⟨k, H⟩ => of_G (f_ok H))
end f_conf_rules
/-! ### function 43, wayfinder/conf.May -/
namespace f_conf_May
noncomputable def c0 : Code := (Go.Proofs.Tryz.f43.body).getD .skip
abbrev ps : Sg := [(true, T5477), (false, (.slice (.slice T1383)))]
abbrev rs : Sg := [(false, .bool)]
noncomputable def V : Env := { tt := tt, Γ := slk [(93, f_topo_May.S), (94, f_conf_rules.S)] }
theorem V_ok : EnvOk P V := { ck := tt_ck, fits := slk_cons f_topo_May.fits (slk_cons f_conf_rules.fits (slk_nil)), mixed := mixed }
abbrev R := Tup rs
noncomputable abbrev Q (r : R) : Exit → St → Prop := Qr tt Go.Proofs.Tryz.f43.results ⟨ps, rs, .any, none, fun _ _ => True⟩ r
noncomputable def s1 (a1 : T5477.T) (a2 : List (List T1383.T)) (p2 : Bool) : St := ⟨28, [(1, .cv (.one (.sl (.slice T1383) a2 .any))), (2, .cv (.one (.ptr 0 0))), (16, .cv (.one (.bool p2)))], [(.box 3, (encC .any T5477 a1))]⟩
noncomputable def s2 (a1 : T5477.T) (a2 : List (List T1383.T)) (p2 p3 : Int) : St := ⟨28, [(2, .cv (.one (.ptr 0 0))), (17, .cv (.one (.sl (.slice T1383) a2 .any))), (18, .cv (.one (.i p2))), (19, .cv (.one (.i p3)))], [(.box 3, (encC .any T5477 a1))]⟩
noncomputable def b2 (a1 : T5477.T) (a2 : List (List T1383.T)) (L2 : Int → Int → Option R) (k : Nat) (p2 p3 : Int) : Option R :=
  if (decide (p3 < p2)) = true then
  if 0 ≤ p3 then
    if p3 < (a2.length : Int) then
      (f_conf_rules.f k a1 (att (.slice T1383) a2 p3)).bind fun y8 =>
        if (!y8.1) = true then
          some (false, ())
        else
          L2 p2 (IntKind.i64.wrap (p3 + 1))
    else none
  else none
else
  some (true, ())
theorem b2_ok {r a1 a2} {L2 : Int → Int → Option R} {m2 : Nat} (hL2 : ∀ p2 p3, L2 p2 p3 = some r → Gw P 0 (Q r) (Pb c0 43 [] m2) (s2 a1 a2 p2 p3)) {k p2 p3} (H : b2 a1 a2 L2 k p2 p3 = some r) : Gw P 0 (Q r) (Px c0 75 [m2]) (s2 a1 a2 p2 p3) := by
  unfold b2 at H
  refine Rg V_ok 0 [] az ?_
  rcases of_ite H with ⟨hb5, H⟩ | ⟨hb5, H⟩
  · refine C1 hb5 ?_
    obtain ⟨n6, H⟩ := of_if H
    obtain ⟨n7, H⟩ := of_if H
    refine Rg V_ok 0 [] (ac n6 (ac n7 az)) ?_
    obtain ⟨y8, e9, H⟩ := of_bind H
    refine Rg V_ok 0 [(2, hr f_conf_rules.S y8)] (ac (f_conf_rules.rl e9) az) ?_
    rcases of_ite H with ⟨hb10, H⟩ | ⟨hb10, H⟩
    · refine C1 hb10 ?_
      refine Rg V_ok 0 [] az ?_
      exact Lf (Eq.trans (by kernel_rfl) H)
    · refine C0 hb10 ?_
      refine Rg V_ok 0 [] az ?_
      exact Jm (tn [2, 17, 18, 19] 1) (hL2 p2 (IntKind.i64.wrap (p3 + 1)) H)
  · refine C0 hb5 ?_
    refine Rg V_ok 0 [] az ?_
    exact Lf (Eq.trans (by kernel_rfl) H)
noncomputable def l2 (a1 : T5477.T) (a2 : List (List T1383.T)) (k : Nat) : Nat → Int → Int → Option R
  | 0, _, _ => none
  | m + 1, p2, p3 => b2 a1 a2 (l2 a1 a2 k m) k p2 p3
theorem l2_ok {r a1 a2} (k : Nat) : ∀ (m2 : Nat) (p2 : Int) (p3 : Int), l2 a1 a2 k m2 p2 p3 = some r → Gw P 0 (Q r) (Pb c0 43 [] m2) (s2 a1 a2 p2 p3)
  | 0, _, _, H => by cases H
  | m2 + 1, p2, p3, H => SU (by kernel_rfl) (b2_ok (l2_ok k m2) H)
noncomputable def j1 (a1 : T5477.T) (a2 : List (List T1383.T)) (k : Nat) (p2 : Bool) : Option R :=
  if p2 = true then
  some (false, ())
else
  l2 a1 a2 k k (a2.length : Int) 0
theorem j1_ok {r a1 a2} {k p2} (H : j1 a1 a2 k p2 = some r) : Gw P 0 (Q r) (Px c0 13 []) (s1 a1 a2 p2) := by
  unfold j1 at H
  rcases of_ite H with ⟨hb4, H⟩ | ⟨hb4, H⟩
  · refine C1 hb4 ?_
    refine Rg V_ok 0 [] az ?_
    exact Lf (Eq.trans (by kernel_rfl) H)
  · refine C0 hb4 ?_
    refine Rg V_ok 0 [] az ?_
    exact LP k (Jm (tn [2, 17, 18, 19] 1) (l2_ok k k (a2.length : Int) 0 H))
noncomputable def f (k : Nat) (a1 : T5477.T) (a2 : List (List T1383.T)) : Option R :=
  (f_topo_May.f k a1).bind fun y1 =>
    if (!y1.1) = true then
      j1 a1 a2 k true
    else
      j1 a1 a2 k ((a2.length : Int) != a1.1)
noncomputable def S : Spec := ⟨ps, rs, .any, none, fun x r => ∃ k, f k x.1 x.2.1 = some r⟩
theorem rl {k a1 a2 r} (e : f k a1 a2 = some r) : S.rel (a1, a2, ()) r := ⟨k, e⟩
theorem f_ok {r k a1 a2} (H : f k a1 a2 = some r) : Gw P 0 (Q r) (Px c0 1 []) (⟨28, [(0, .cv (.agg (encC .any T5477 a1))), (1, .cv (.one (.sl (.slice T1383) a2 .any)))], []⟩) := by
  unfold f at H
  refine Rg V_ok 1 [(0, hb 0)] az ?_
  obtain ⟨y1, e2, H⟩ := of_bind H
  rcases of_ite H with ⟨hb3, H⟩ | ⟨hb3, H⟩
  · refine Rg V_ok 0 [(1, hr f_topo_May.S y1), (2, {bv := some true})] (ac (f_topo_May.rl e2) (ac hb3 az)) ?_
    exact Jm (tn [1, 2, 16] 1) (j1_ok H)
  · refine Rg V_ok 0 [(1, hr f_topo_May.S y1), (2, {bv := some false})] (ac (f_topo_May.rl e2) (ac hb3 az)) ?_
    exact Jm (tn [1, 2, 16] 1) (j1_ok H)
theorem fits : Fits P 43 S := fits_of V_ok Go.Proofs.Tryz.func43 (by kernel_rfl) (by decide) (by decide) rfl (fun x r ⟨k, H⟩ => of_G (f_ok H))
end f_conf_May
/-! ### function 32, wayfinder/control.own, where it is called -/
namespace i_control_own_c1am
noncomputable def c0 : Code := (Go.Proofs.Tryz.f32.body).getD .skip
noncomputable def V : Env := { tt := tt, Γ := slk [(75, f_slices_Clone_ConfO.S), (76, f_slices_Clone_Conf_RuleO.S), (77, f_slices_Clone_Rule.S), (78, f_slices_Clone_PeerO.S), (79, f_slices_Clone_Msg.S), (80, f_slices_Clone_intO.S), (81, f_slices_Clone_GivenO.S)] }
theorem V_ok : EnvOk P V := { ck := tt_ck, fits := slk_cons f_slices_Clone_ConfO.fits (slk_cons f_slices_Clone_Conf_RuleO.fits (slk_cons f_slices_Clone_Rule.fits (slk_cons f_slices_Clone_PeerO.fits (slk_cons f_slices_Clone_Msg.fits (slk_cons f_slices_Clone_intO.fits (slk_cons f_slices_Clone_GivenO.fits (slk_nil))))))), mixed := mixed }
abbrev R := (Int) × (Int) × (Int) × (Int) × (Int) × (Int) × (Int) × (List (List (List T1383.T))) × (List Int) × (List T23b6.T) × (List T713d.T) × (List Int) × (List Int) × Unit
noncomputable def s0 (x1 x2 : T26b3.T) (x3 : T5477.T) (x4 x5 x6 x7 x8 x9 x10 : Int) : St := ⟨85, [(0, .cv (.agg (encC .any T26b3 x1)))], [(.box 13, (encC .any T26b3 x2)), (.box 3, (encC .any T5477 x3)), (.box 13, [.nils, .i x4, .i x5, .i x6, .i x7, .i x8, .i x9, .nils, .nils, .nils, .nils, .nils, .i x10])]⟩
noncomputable def out (x2 : T26b3.T) (x3 : T5477.T) (x4 x5 x6 x7 x8 x9 x10 : Int) (r : R) : St := ⟨85, [(2, .cv (.one (.ptr 3 0)))], [(.box 13, (encC .any T26b3 x2)), (.box 3, (encC .any T5477 x3)), (.box 13, [.nils, .i x4, .i x5, .i x6, .i x7, .i x8, .i x9, .nils, .nils, .nils, .nils, .nils, .i x10]), (.box 13, [.own 4, .i r.1, .i r.2.1, .i r.2.2.1, .i r.2.2.2.1, .i r.2.2.2.2.1, .i r.2.2.2.2.2.1, .own 5, .own 6, .own 7, .own 8, .own 9, .i r.2.2.2.2.2.2.1]), (.buf 38 (.slice (.slice T1383)) r.2.2.2.2.2.2.2.1, []), (.buf 3 (.int .i64) r.2.2.2.2.2.2.2.2.1, []), (.buf 58 T23b6 r.2.2.2.2.2.2.2.2.2.1, []), (.buf 93 T713d r.2.2.2.2.2.2.2.2.2.2.1, []), (.buf 3 (.int .i64) r.2.2.2.2.2.2.2.2.2.2.2.1, []), (.buf 3 (.int .i64) r.2.2.2.2.2.2.2.2.2.2.2.2.1, [])]⟩
abbrev Q (x2 : T26b3.T) (x3 : T5477.T) (x4 x5 x6 x7 x8 x9 x10 : Int) (r : R) := CallQ 3 (out x2 x3 x4 x5 x6 x7 x8 x9 x10 r)
noncomputable def s1 (x2 : T26b3.T) (x3 : T5477.T) (x4 x5 x6 x7 x8 x9 x10 p1 p2 p12 p13 p14 p15 p16 p17 : Int) (p18 : List Int) (p19 : List T23b6.T) (p20 : List T713d.T) (p21 p22 : List Int) (p23 : Int) (p24 : List (List (List T1383.T))) : St := ⟨85, [(1, .cv (.one (.ptr 3 0))), (13, .cv (.one (.own 4))), (14, .cv (.one (.i p1))), (15, .cv (.one (.i p2)))], [(.box 13, (encC .any T26b3 x2)), (.box 3, (encC .any T5477 x3)), (.box 13, [.nils, .i x4, .i x5, .i x6, .i x7, .i x8, .i x9, .nils, .nils, .nils, .nils, .nils, .i x10]), (.box 13, [.own 4, .i p12, .i p13, .i p14, .i p15, .i p16, .i p17, .sl (.int .i64) p18 .any, .sl T23b6 p19 .any, .sl T713d p20 .any, .sl (.int .i64) p21 .any, .sl (.int .i64) p22 .any, .i p23]), (.buf 38 (.slice (.slice T1383)) p24, [])]⟩
noncomputable def s2 (x2 : T26b3.T) (x3 : T5477.T) (x4 x5 x6 x7 x8 x9 x10 p1 p2 p3 p4 p5 p15 p16 p17 p18 p19 p20 : Int) (p21 : List Int) (p22 : List T23b6.T) (p23 : List T713d.T) (p24 p25 : List Int) (p26 : Int) (p27 : List (List T1383.T)) (p28 : List (List (List T1383.T))) : St := ⟨85, [(1, .cv (.one (.ptr 3 0))), (3, .cv (.one (.i p1))), (4, .cv (.one (.own 4))), (13, .cv (.one (.own 5))), (14, .cv (.one (.i p2))), (15, .cv (.one (.i p3))), (22, .cv (.one (.own 4))), (23, .cv (.one (.i p4))), (24, .cv (.one (.i p5)))], [(.box 13, (encC .any T26b3 x2)), (.box 3, (encC .any T5477 x3)), (.box 13, [.nils, .i x4, .i x5, .i x6, .i x7, .i x8, .i x9, .nils, .nils, .nils, .nils, .nils, .i x10]), (.box 13, [.own 5, .i p15, .i p16, .i p17, .i p18, .i p19, .i p20, .sl (.int .i64) p21 .any, .sl T23b6 p22 .any, .sl T713d p23 .any, .sl (.int .i64) p24 .any, .sl (.int .i64) p25 .any, .i p26]), (.buf 89 (.slice T1383) p27, []), (.buf 38 (.slice (.slice T1383)) p28, [])]⟩
noncomputable def b2 (x2 : T26b3.T) (x3 : T5477.T) (x4 x5 x6 x7 x8 x9 x10 : Int) (L1 : Int → Int → Int → Int → Int → Int → Int → Int → List Int → List T23b6.T → List T713d.T → List Int → List Int → Int → List (List (List T1383.T)) → Option R) (L2 : Int → Int → Int → Int → Int → Int → Int → Int → Int → Int → Int → List Int → List T23b6.T → List T713d.T → List Int → List Int → Int → List (List T1383.T) → List (List (List T1383.T)) → Option R) (k : Nat) (p1 p2 p3 p4 p5 p15 p16 p17 p18 p19 p20 : Int) (p21 : List Int) (p22 : List T23b6.T) (p23 : List T713d.T) (p24 p25 : List Int) (p26 : Int) (p27 : List (List T1383.T)) (p28 : List (List (List T1383.T))) : Option R :=
  if (decide (p5 < p4)) = true then
  if 0 ≤ p5 then
    if p5 < (p27.length : Int) then
      (f_slices_Clone_Rule.f k (att (.slice T1383) p27 p5)).bind fun y11 =>
        L2 p1 p2 p3 p4 (IntKind.i64.wrap (p5 + 1)) p15 p16 p17 p18 p19 p20 p21 p22 p23 p24 p25 p26 (p27.set p5.toNat y11.1) p28
    else none
  else none
else
  if 0 ≤ p1 then
    if p1 < (p28.length : Int) then
      L1 p2 (IntKind.i64.wrap (p3 + 1)) p15 p16 p17 p18 p19 p20 p21 p22 p23 p24 p25 p26 (p28.set p1.toNat p27)
    else none
  else none
theorem b2_ok {r x2 x3 x4 x5 x6 x7 x8 x9 x10} {L1 : Int → Int → Int → Int → Int → Int → Int → Int → List Int → List T23b6.T → List T713d.T → List Int → List Int → Int → List (List (List T1383.T)) → Option R} {m1 : Nat} (hL1 : ∀ p1 p2 p12 p13 p14 p15 p16 p17 p18 p19 p20 p21 p22 p23 p24, L1 p1 p2 p12 p13 p14 p15 p16 p17 p18 p19 p20 p21 p22 p23 p24 = some r → Gw P 3 (Q x2 x3 x4 x5 x6 x7 x8 x9 x10 r) (Pb c0 43 [] m1) (s1 x2 x3 x4 x5 x6 x7 x8 x9 x10 p1 p2 p12 p13 p14 p15 p16 p17 p18 p19 p20 p21 p22 p23 p24)) {L2 : Int → Int → Int → Int → Int → Int → Int → Int → Int → Int → Int → List Int → List T23b6.T → List T713d.T → List Int → List Int → Int → List (List T1383.T) → List (List (List T1383.T)) → Option R} {m2 : Nat} (hL2 : ∀ p1 p2 p3 p4 p5 p15 p16 p17 p18 p19 p20 p21 p22 p23 p24 p25 p26 p27 p28, L2 p1 p2 p3 p4 p5 p15 p16 p17 p18 p19 p20 p21 p22 p23 p24 p25 p26 p27 p28 = some r → Gw P 3 (Q x2 x3 x4 x5 x6 x7 x8 x9 x10 r) (Pb c0 44235 [m1] m2) (s2 x2 x3 x4 x5 x6 x7 x8 x9 x10 p1 p2 p3 p4 p5 p15 p16 p17 p18 p19 p20 p21 p22 p23 p24 p25 p26 p27 p28)) {k p1 p2 p3 p4 p5 p15 p16 p17 p18 p19 p20 p21 p22 p23 p24 p25 p26 p27 p28} (H : b2 x2 x3 x4 x5 x6 x7 x8 x9 x10 L1 L2 k p1 p2 p3 p4 p5 p15 p16 p17 p18 p19 p20 p21 p22 p23 p24 p25 p26 p27 p28 = some r) : Gw P 3 (Q x2 x3 x4 x5 x6 x7 x8 x9 x10 r) (Px c0 77003 [m1, m2]) (s2 x2 x3 x4 x5 x6 x7 x8 x9 x10 p1 p2 p3 p4 p5 p15 p16 p17 p18 p19 p20 p21 p22 p23 p24 p25 p26 p27 p28) := by
  unfold b2 at H
  refine Rg V_ok 0 [] az ?_
  rcases of_ite H with ⟨hb8, H⟩ | ⟨hb8, H⟩
  · refine C1 hb8 ?_
    obtain ⟨n9, H⟩ := of_if H
    obtain ⟨n10, H⟩ := of_if H
    refine Rg V_ok 0 [] (ac n9 (ac n10 az)) ?_
    obtain ⟨y11, e12, H⟩ := of_bind H
    refine Rg V_ok 0 [(3, hr f_slices_Clone_Rule.S y11)] (ac (f_slices_Clone_Rule.rl e12) (ac n9 (ac n10 az))) ?_
    refine Rg V_ok 0 [] az ?_
    exact Jm (tn [1, 3, 4, 13, 14, 15, 22, 23, 24] 6) (hL2 p1 p2 p3 p4 (IntKind.i64.wrap (p5 + 1)) p15 p16 p17 p18 p19 p20 p21 p22 p23 p24 p25 p26 (p27.set p5.toNat y11.1) p28 H)
  · refine C0 hb8 ?_
    refine FZ 4 ?_
    obtain ⟨n13, H⟩ := of_if H
    obtain ⟨n14, H⟩ := of_if H
    refine Rg V_ok 0 [] (ac n13 (ac n14 az)) ?_
    refine Rg V_ok 0 [] az ?_
    exact Jm (tl [1, 13, 14, 15] [0, 1, 2, 3, 5]) (hL1 p2 (IntKind.i64.wrap (p3 + 1)) p15 p16 p17 p18 p19 p20 p21 p22 p23 p24 p25 p26 (p28.set p1.toNat p27) H)
noncomputable def l2 (x2 : T26b3.T) (x3 : T5477.T) (x4 x5 x6 x7 x8 x9 x10 : Int) (L1 : Int → Int → Int → Int → Int → Int → Int → Int → List Int → List T23b6.T → List T713d.T → List Int → List Int → Int → List (List (List T1383.T)) → Option R) (k : Nat) : Nat → Int → Int → Int → Int → Int → Int → Int → Int → Int → Int → Int → List Int → List T23b6.T → List T713d.T → List Int → List Int → Int → List (List T1383.T) → List (List (List T1383.T)) → Option R
  | 0, _, _, _, _, _, _, _, _, _, _, _, _, _, _, _, _, _, _, _ => none
  | m + 1, p1, p2, p3, p4, p5, p15, p16, p17, p18, p19, p20, p21, p22, p23, p24, p25, p26, p27, p28 => b2 x2 x3 x4 x5 x6 x7 x8 x9 x10 L1 (l2 x2 x3 x4 x5 x6 x7 x8 x9 x10 L1 k m) k p1 p2 p3 p4 p5 p15 p16 p17 p18 p19 p20 p21 p22 p23 p24 p25 p26 p27 p28
theorem l2_ok {r x2 x3 x4 x5 x6 x7 x8 x9 x10} {L1 : Int → Int → Int → Int → Int → Int → Int → Int → List Int → List T23b6.T → List T713d.T → List Int → List Int → Int → List (List (List T1383.T)) → Option R} {m1 : Nat} (hL1 : ∀ p1 p2 p12 p13 p14 p15 p16 p17 p18 p19 p20 p21 p22 p23 p24, L1 p1 p2 p12 p13 p14 p15 p16 p17 p18 p19 p20 p21 p22 p23 p24 = some r → Gw P 3 (Q x2 x3 x4 x5 x6 x7 x8 x9 x10 r) (Pb c0 43 [] m1) (s1 x2 x3 x4 x5 x6 x7 x8 x9 x10 p1 p2 p12 p13 p14 p15 p16 p17 p18 p19 p20 p21 p22 p23 p24)) (k : Nat) : ∀ (m2 : Nat) (p1 p2 p3 p4 p5 p15 p16 p17 p18 p19 p20 : Int) (p21 : List Int) (p22 : List T23b6.T) (p23 : List T713d.T) (p24 p25 : List Int) (p26 : Int) (p27 : List (List T1383.T)) (p28 : List (List (List T1383.T))), l2 x2 x3 x4 x5 x6 x7 x8 x9 x10 L1 k m2 p1 p2 p3 p4 p5 p15 p16 p17 p18 p19 p20 p21 p22 p23 p24 p25 p26 p27 p28 = some r → Gw P 3 (Q x2 x3 x4 x5 x6 x7 x8 x9 x10 r) (Pb c0 44235 [m1] m2) (s2 x2 x3 x4 x5 x6 x7 x8 x9 x10 p1 p2 p3 p4 p5 p15 p16 p17 p18 p19 p20 p21 p22 p23 p24 p25 p26 p27 p28)
  | 0, _, _, _, _, _, _, _, _, _, _, _, _, _, _, _, _, _, _, _, H => by cases H
  | m2 + 1, p1, p2, p3, p4, p5, p15, p16, p17, p18, p19, p20, p21, p22, p23, p24, p25, p26, p27, p28, H => SU (by kernel_rfl) (b2_ok hL1 (l2_ok hL1 k m2) H)
noncomputable def s3 (x2 : T26b3.T) (x3 : T5477.T) (x4 x5 x6 x7 x8 x9 x10 p1 p2 p12 p13 p14 p15 p16 p17 : Int) (p18 : List Int) (p19 : List T713d.T) (p20 p21 : List Int) (p22 : Int) (p23 : List (List (List T1383.T))) (p24 : List T23b6.T) : St := ⟨85, [(1, .cv (.one (.ptr 3 0))), (47, .cv (.one (.i p1))), (48, .cv (.one (.i p2)))], [(.box 13, (encC .any T26b3 x2)), (.box 3, (encC .any T5477 x3)), (.box 13, [.nils, .i x4, .i x5, .i x6, .i x7, .i x8, .i x9, .nils, .nils, .nils, .nils, .nils, .i x10]), (.box 13, [.own 4, .i p12, .i p13, .i p14, .i p15, .i p16, .i p17, .sl (.int .i64) p18 .any, .own 5, .sl T713d p19 .any, .sl (.int .i64) p20 .any, .sl (.int .i64) p21 .any, .i p22]), (.buf 38 (.slice (.slice T1383)) p23, []), (.buf 58 T23b6 p24, [])]⟩
noncomputable def b3 (x2 : T26b3.T) (x3 : T5477.T) (x4 x5 x6 x7 x8 x9 x10 : Int) (L3 : Int → Int → Int → Int → Int → Int → Int → Int → List Int → List T713d.T → List Int → List Int → Int → List (List (List T1383.T)) → List T23b6.T → Option R) (k : Nat) (p1 p2 p12 p13 p14 p15 p16 p17 : Int) (p18 : List Int) (p19 : List T713d.T) (p20 p21 : List Int) (p22 : Int) (p23 : List (List (List T1383.T))) (p24 : List T23b6.T) : Option R :=
  if (decide (p2 < p1)) = true then
  if 0 ≤ p2 then
    if p2 < (p24.length : Int) then
      (f_slices_Clone_Msg.f k (((((att T23b6 p24 p2).2).2).2).2)).bind fun y18 =>
        L3 p1 (IntKind.i64.wrap (p2 + 1)) p12 p13 p14 p15 p16 p17 p18 p19 p20 p21 p22 p23 (p24.set p2.toNat ((att T23b6 p24 p2).1, (((att T23b6 p24 p2).2).1, ((((att T23b6 p24 p2).2).2).1, (((((att T23b6 p24 p2).2).2).2).1, y18.1)))))
    else none
  else none
else
  (f_slices_Clone_intO.f k p18).bind fun y22 =>
      (f_slices_Clone_GivenO.f k p19).bind fun y24 =>
        (f_slices_Clone_intO.f k p20).bind fun y26 =>
          (f_slices_Clone_intO.f k p21).bind fun y28 =>
            some (p12, (p13, (p14, (p15, (p16, (p17, (p22, (p23, (y22.1, (p24, (y24.1, (y26.1, (y28.1, ())))))))))))))
theorem b3_ok {r x2 x3 x4 x5 x6 x7 x8 x9 x10} {L3 : Int → Int → Int → Int → Int → Int → Int → Int → List Int → List T713d.T → List Int → List Int → Int → List (List (List T1383.T)) → List T23b6.T → Option R} {m3 : Nat} (hL3 : ∀ p1 p2 p12 p13 p14 p15 p16 p17 p18 p19 p20 p21 p22 p23 p24, L3 p1 p2 p12 p13 p14 p15 p16 p17 p18 p19 p20 p21 p22 p23 p24 = some r → Gw P 3 (Q x2 x3 x4 x5 x6 x7 x8 x9 x10 r) (Pb c0 175 [] m3) (s3 x2 x3 x4 x5 x6 x7 x8 x9 x10 p1 p2 p12 p13 p14 p15 p16 p17 p18 p19 p20 p21 p22 p23 p24)) {k p1 p2 p12 p13 p14 p15 p16 p17 p18 p19 p20 p21 p22 p23 p24} (H : b3 x2 x3 x4 x5 x6 x7 x8 x9 x10 L3 k p1 p2 p12 p13 p14 p15 p16 p17 p18 p19 p20 p21 p22 p23 p24 = some r) : Gw P 3 (Q x2 x3 x4 x5 x6 x7 x8 x9 x10 r) (Px c0 303 [m3]) (s3 x2 x3 x4 x5 x6 x7 x8 x9 x10 p1 p2 p12 p13 p14 p15 p16 p17 p18 p19 p20 p21 p22 p23 p24) := by
  unfold b3 at H
  refine Rg V_ok 0 [] az ?_
  rcases of_ite H with ⟨hb17, H⟩ | ⟨hb17, H⟩
  · refine C1 hb17 ?_
    refine Rg V_ok 0 [] az ?_
    obtain ⟨n19, H⟩ := of_if H
    obtain ⟨n20, H⟩ := of_if H
    obtain ⟨y18, e21, H⟩ := of_bind H
    refine Rg V_ok 0 [(10, hr f_slices_Clone_Msg.S y18)] (ac n19 (ac n20 (ac (f_slices_Clone_Msg.rl e21) (ac n19 (ac n20 az))))) ?_
    refine Rg V_ok 0 [] az ?_
    exact Jm (tn [1, 47, 48] 6) (hL3 p1 (IntKind.i64.wrap (p2 + 1)) p12 p13 p14 p15 p16 p17 p18 p19 p20 p21 p22 p23 (p24.set p2.toNat ((att T23b6 p24 p2).1, (((att T23b6 p24 p2).2).1, ((((att T23b6 p24 p2).2).2).1, (((((att T23b6 p24 p2).2).2).2).1, y18.1))))) H)
  · refine C0 hb17 ?_
    obtain ⟨y22, e23, H⟩ := of_bind H
    obtain ⟨y24, e25, H⟩ := of_bind H
    obtain ⟨y26, e27, H⟩ := of_bind H
    obtain ⟨y28, e29, H⟩ := of_bind H
    let x : Nx := (Px c0 95 [])
    let t0 : St := ⟨85, [(1, .cv (.one (.ptr 3 0)))], [(.box 13, (encC .any T26b3 x2)), (.box 3, (encC .any T5477 x3)), (.box 13, [.nils, .i x4, .i x5, .i x6, .i x7, .i x8, .i x9, .nils, .nils, .nils, .nils, .nils, .i x10]), (.box 13, [.own 4, .i p12, .i p13, .i p14, .i p15, .i p16, .i p17, .sl (.int .i64) p18 .any, .own 5, .sl T713d p19 .any, .sl (.int .i64) p20 .any, .sl (.int .i64) p21 .any, .i p22]), (.buf 38 (.slice (.slice T1383)) p23, []), (.buf 58 T23b6 p24, [])]⟩
    refine Jm (x' := x) (τ := t0) (tn [1] 6) ?_
    let Φ := phiX P 3 (Q x2 x3 x4 x5 x6 x7 x8 x9 x10 r) x
    let t1 : St := stpS V x 0 [] 0 (tn [1, 66] 6) t0
    let t2 : St := stpS V x 0 [] 3 (tn [1, 66, 69] 6) t1
    let t3 : St := stpS V x 0 [] 6 (tn [1, 66, 69, 72] 6) t2
    let t4 : St := stpS V x 0 [] 9 (tn [1, 66, 69, 72, 75] 6) t3
    let t5 : St := stpS V x 0 [] 1 (tn [1, 67, 69, 72, 75] 6) t4
    let t6 : St := stpS V x 0 [] 4 (tn [1, 66, 70, 72, 75] 6) t4
    let t7 : St := stpS V x 0 [] 7 (tn [1, 66, 69, 73, 75] 6) t4
    let t8 : St := stpS V x 0 [] 10 (tn [1, 66, 69, 72, 76] 6) t4
    let t9 : St := stpS V x 1 [(2, {sb := 6, res := some ⟨f_slices_Clone_intO.S.rs, y22⟩})] 2 (tl [1, 68, 69, 72, 75] [0, 1, 2, 3, 6, 4, 5]) t5
    let t10 : St := stpS V x 0 [] 4 (tn [1, 67, 70, 72, 75] 6) t5
    let t11 : St := stpS V x 0 [] 7 (tn [1, 67, 69, 73, 75] 6) t5
    let t12 : St := stpS V x 0 [] 10 (tn [1, 67, 69, 72, 76] 6) t5
    let t13 : St := stpS V x 0 [] 7 (tn [1, 66, 70, 73, 75] 6) t6
    let t14 : St := stpS V x 0 [] 10 (tn [1, 66, 70, 72, 76] 6) t6
    let t15 : St := stpS V x 0 [] 10 (tn [1, 66, 69, 73, 76] 6) t7
    let t16 : St := stpS V x 0 [] 4 (tn [1, 68, 70, 72, 75] 7) t9
    let t17 : St := stpS V x 0 [] 7 (tn [1, 68, 69, 73, 75] 7) t9
    let t18 : St := stpS V x 0 [] 10 (tn [1, 68, 69, 72, 76] 7) t9
    let t19 : St := stpS V x 0 [] 7 (tn [1, 67, 70, 73, 75] 6) t10
    let t20 : St := stpS V x 0 [] 10 (tn [1, 67, 70, 72, 76] 6) t10
    let t21 : St := stpS V x 0 [] 10 (tn [1, 67, 69, 73, 76] 6) t11
    let t22 : St := stpS V x 0 [] 10 (tn [1, 66, 70, 73, 76] 6) t13
    let t23 : St := stpS V x 1 [(5, {sb := 7, res := some ⟨f_slices_Clone_GivenO.S.rs, y24⟩})] 5 (tl [1, 68, 71, 72, 75] [0, 1, 2, 3, 4, 7, 5, 6]) t16
    let t24 : St := stpS V x 0 [] 7 (tn [1, 68, 70, 73, 75] 7) t16
    let t25 : St := stpS V x 0 [] 10 (tn [1, 68, 70, 72, 76] 7) t16
    let t26 : St := stpS V x 0 [] 10 (tn [1, 68, 69, 73, 76] 7) t17
    let t27 : St := stpS V x 0 [] 10 (tn [1, 67, 70, 73, 76] 6) t19
    let t28 : St := stpS V x 0 [] 7 (tn [1, 68, 71, 73, 75] 8) t23
    let t29 : St := stpS V x 0 [] 10 (tn [1, 68, 71, 72, 76] 8) t23
    let t30 : St := stpS V x 0 [] 10 (tn [1, 68, 70, 73, 76] 7) t24
    let t31 : St := stpS V x 1 [(8, {sb := 8, res := some ⟨f_slices_Clone_intO.S.rs, y26⟩})] 8 (tl [1, 68, 71, 74, 75] [0, 1, 2, 3, 4, 5, 8, 6, 7]) t28
    let t32 : St := stpS V x 0 [] 10 (tn [1, 68, 71, 73, 76] 8) t28
    let t33 : St := stpS V x 0 [] 12 (tn [1, 68, 70, 73, 76, 78] 7) t30
    let t34 : St := stpS V x 0 [] 10 (tn [1, 68, 71, 74, 76] 9) t31
    let t35 : St := stpS V x 0 [] 12 (tn [1, 68, 71, 73, 76, 78] 8) t32
    let t36 : St := stpS V x 0 [] 12 (tn [1, 68, 71, 74, 76, 78] 9) t34
    let t37 : St := stpS V x 1 [(11, {sb := 9, res := some ⟨f_slices_Clone_intO.S.rs, y28⟩})] 11 (tl [1, 68, 71, 74, 77, 78] [0, 1, 2, 3, 4, 5, 6, 9, 7, 8]) t36
    let t38 : St := stpS V x 0 [] 13 (tl [1, 71, 74, 77] [0, 1, 2, 3, 5, 6, 7, 8, 4, 9]) t37
    let t39 : St := stpS V x 0 [] 14 (tn [1, 71, 74, 77, 79] 10) t38
    let t40 : St := stpS V x 0 [] 15 (tl [1, 74, 77] [0, 1, 2, 3, 5, 6, 7, 8, 9, 4]) t39
    let t41 : St := stpS V x 0 [] 16 (tn [1, 74, 77, 80] 10) t40
    let t42 : St := stpS V x 0 [] 17 (tl [1, 77] [0, 1, 2, 3, 5, 6, 7, 8, 9, 4]) t41
    let t43 : St := stpS V x 0 [] 18 (tn [1, 77, 81] 10) t42
    let t44 : St := stpS V x 0 [] 19 (tl [1] [0, 1, 2, 3, 5, 6, 7, 8, 9, 4]) t43
    have w44 : WA P 3 (opsX x) 0 (bs 20 1048575) Φ t44 := by
      refine WA_nil (by kernel_rfl) (RAn (by kernel_rfl) ?_)
      refine Rg V_ok 1 [(2, hb 10)] az ?_
      obtain rfl := Option.some.inj H
      exact Lq (tl [2] [0, 1, 2, 10, 4, 5, 6, 7, 8, 9])
    have w43 : WA P 3 (opsX x) 1 (bs 20 524287) Φ t43 := WAs (an (WE V_ok 0 [] 19 (tl [1] [0, 1, 2, 3, 5, 6, 7, 8, 9, 4]) az w44) aN)
    have w42 : WA P 3 (opsX x) 2 (bs 20 262143) Φ t42 := WT V_ok [] 18 (tn [1, 77, 81] 10) az w43
    have w41 : WA P 3 (opsX x) 3 (bs 20 131071) Φ t41 := WAs (an (WE V_ok 0 [] 17 (tl [1, 77] [0, 1, 2, 3, 5, 6, 7, 8, 9, 4]) az w42) aN)
    have w40 : WA P 3 (opsX x) 4 (bs 20 65535) Φ t40 := WT V_ok [] 16 (tn [1, 74, 77, 80] 10) az w41
    have w39 : WA P 3 (opsX x) 5 (bs 20 32767) Φ t39 := WAs (an (WE V_ok 0 [] 15 (tl [1, 74, 77] [0, 1, 2, 3, 5, 6, 7, 8, 9, 4]) az w40) aN)
    have w38 : WA P 3 (opsX x) 6 (bs 20 16383) Φ t38 := WT V_ok [] 14 (tn [1, 71, 74, 77, 79] 10) az w39
    have w37 : WA P 3 (opsX x) 7 (bs 20 8191) Φ t37 := WAs (an (WE V_ok 0 [] 13 (tl [1, 71, 74, 77] [0, 1, 2, 3, 5, 6, 7, 8, 4, 9]) az w38) aN)
    have w36 : WA P 3 (opsX x) 8 (bs 20 6143) Φ t36 := WAs (an (WE V_ok 1 [(11, {sb := 9, res := some ⟨f_slices_Clone_intO.S.rs, y28⟩})] 11 (tl [1, 68, 71, 74, 77, 78] [0, 1, 2, 3, 4, 5, 6, 9, 7, 8]) (ac (f_slices_Clone_intO.rl e29) az) w37) aN)
    have w35 : WA P 3 (opsX x) 9 (bs 20 5887) Φ t35 := WAs (an (WE V_ok 1 [(8, {sb := 8, res := some ⟨f_slices_Clone_intO.S.rs, y26⟩})] 8 (tl [1, 68, 71, 74, 76, 78] [0, 1, 2, 3, 4, 5, 8, 6, 7]) (ac (f_slices_Clone_intO.rl e27) az) w36) aN)
    have w34 : WA P 3 (opsX x) 9 (bs 20 2047) Φ t34 := WT V_ok [] 12 (tn [1, 68, 71, 74, 76, 78] 9) az w36
    have w33 : WA P 3 (opsX x) 10 (bs 20 5855) Φ t33 := WAs (an (WE V_ok 1 [(5, {sb := 7, res := some ⟨f_slices_Clone_GivenO.S.rs, y24⟩})] 5 (tl [1, 68, 71, 73, 76, 78] [0, 1, 2, 3, 4, 7, 5, 6]) (ac (f_slices_Clone_GivenO.rl e25) az) w35) aN)
    have w32 : WA P 3 (opsX x) 10 (bs 20 1791) Φ t32 := WT V_ok [] 12 (tn [1, 68, 71, 73, 76, 78] 8) az w35
    have w31 : WA P 3 (opsX x) 10 (bs 20 1023) Φ t31 := WAs (an (WE V_ok 0 [] 10 (tn [1, 68, 71, 74, 76] 9) az w34) aN)
    have w30 : WA P 3 (opsX x) 11 (bs 20 1759) Φ t30 := WT V_ok [] 12 (tn [1, 68, 70, 73, 76, 78] 7) az w33
    have w29 : WA P 3 (opsX x) 11 (bs 20 1663) Φ t29 := WAs (an (WE V_ok 0 [] 7 (tn [1, 68, 71, 73, 76] 8) az w32) aN)
    have w28 : WA P 3 (opsX x) 11 (bs 20 767) Φ t28 := WAs (an (WE V_ok 1 [(8, {sb := 8, res := some ⟨f_slices_Clone_intO.S.rs, y26⟩})] 8 (tl [1, 68, 71, 74, 75] [0, 1, 2, 3, 4, 5, 8, 6, 7]) (ac (f_slices_Clone_intO.rl e27) az) w31) (an (WE V_ok 0 [] 10 (tn [1, 68, 71, 73, 76] 8) az w32) aN))
    have w27 : WA P 3 (opsX x) 12 (bs 20 1755) Φ t27 := WAs (an (WE V_ok 1 [(2, {sb := 6, res := some ⟨f_slices_Clone_intO.S.rs, y22⟩})] 2 (tl [1, 68, 70, 73, 76] [0, 1, 2, 3, 6, 4, 5]) (ac (f_slices_Clone_intO.rl e23) az) w30) aN)
    have w26 : WA P 3 (opsX x) 12 (bs 20 1743) Φ t26 := WAs (an (WE V_ok 0 [] 4 (tn [1, 68, 70, 73, 76] 7) az w30) aN)
    have w25 : WA P 3 (opsX x) 12 (bs 20 1631) Φ t25 := WAs (an (WE V_ok 1 [(5, {sb := 7, res := some ⟨f_slices_Clone_GivenO.S.rs, y24⟩})] 5 (tl [1, 68, 71, 72, 76] [0, 1, 2, 3, 4, 7, 5, 6]) (ac (f_slices_Clone_GivenO.rl e25) az) w29) (an (WE V_ok 0 [] 7 (tn [1, 68, 70, 73, 76] 7) az w30) aN))
    have w24 : WA P 3 (opsX x) 12 (bs 20 735) Φ t24 := WAs (an (WE V_ok 1 [(5, {sb := 7, res := some ⟨f_slices_Clone_GivenO.S.rs, y24⟩})] 5 (tl [1, 68, 71, 73, 75] [0, 1, 2, 3, 4, 7, 5, 6]) (ac (f_slices_Clone_GivenO.rl e25) az) w28) (an (WE V_ok 0 [] 10 (tn [1, 68, 70, 73, 76] 7) az w30) aN))
    have w23 : WA P 3 (opsX x) 12 (bs 20 639) Φ t23 := WAs (an (WE V_ok 0 [] 7 (tn [1, 68, 71, 73, 75] 8) az w28) (an (WE V_ok 0 [] 10 (tn [1, 68, 71, 72, 76] 8) az w29) aN))
    have w22 : WA P 3 (opsX x) 13 (bs 20 1753) Φ t22 := WAs (an (WE V_ok 0 [] 1 (tn [1, 67, 70, 73, 76] 6) az w27) aN)
    have w21 : WA P 3 (opsX x) 13 (bs 20 1739) Φ t21 := WAs (an (WE V_ok 1 [(2, {sb := 6, res := some ⟨f_slices_Clone_intO.S.rs, y22⟩})] 2 (tl [1, 68, 69, 73, 76] [0, 1, 2, 3, 6, 4, 5]) (ac (f_slices_Clone_intO.rl e23) az) w26) (an (WE V_ok 0 [] 4 (tn [1, 67, 70, 73, 76] 6) az w27) aN))
    have w20 : WA P 3 (opsX x) 13 (bs 20 1627) Φ t20 := WAs (an (WE V_ok 1 [(2, {sb := 6, res := some ⟨f_slices_Clone_intO.S.rs, y22⟩})] 2 (tl [1, 68, 70, 72, 76] [0, 1, 2, 3, 6, 4, 5]) (ac (f_slices_Clone_intO.rl e23) az) w25) (an (WE V_ok 0 [] 7 (tn [1, 67, 70, 73, 76] 6) az w27) aN))
    have w19 : WA P 3 (opsX x) 13 (bs 20 731) Φ t19 := WAs (an (WE V_ok 1 [(2, {sb := 6, res := some ⟨f_slices_Clone_intO.S.rs, y22⟩})] 2 (tl [1, 68, 70, 73, 75] [0, 1, 2, 3, 6, 4, 5]) (ac (f_slices_Clone_intO.rl e23) az) w24) (an (WE V_ok 0 [] 10 (tn [1, 67, 70, 73, 76] 6) az w27) aN))
    have w18 : WA P 3 (opsX x) 13 (bs 20 1615) Φ t18 := WAs (an (WE V_ok 0 [] 4 (tn [1, 68, 70, 72, 76] 7) az w25) (an (WE V_ok 0 [] 7 (tn [1, 68, 69, 73, 76] 7) az w26) aN))
    have w17 : WA P 3 (opsX x) 13 (bs 20 719) Φ t17 := WAs (an (WE V_ok 0 [] 4 (tn [1, 68, 70, 73, 75] 7) az w24) (an (WE V_ok 0 [] 10 (tn [1, 68, 69, 73, 76] 7) az w26) aN))
    have w16 : WA P 3 (opsX x) 13 (bs 20 607) Φ t16 := WAs (an (WE V_ok 1 [(5, {sb := 7, res := some ⟨f_slices_Clone_GivenO.S.rs, y24⟩})] 5 (tl [1, 68, 71, 72, 75] [0, 1, 2, 3, 4, 7, 5, 6]) (ac (f_slices_Clone_GivenO.rl e25) az) w23) (an (WE V_ok 0 [] 7 (tn [1, 68, 70, 73, 75] 7) az w24) (an (WE V_ok 0 [] 10 (tn [1, 68, 70, 72, 76] 7) az w25) aN)))
    have w15 : WA P 3 (opsX x) 14 (bs 20 1737) Φ t15 := WAs (an (WE V_ok 0 [] 1 (tn [1, 67, 69, 73, 76] 6) az w21) (an (WE V_ok 0 [] 4 (tn [1, 66, 70, 73, 76] 6) az w22) aN))
    have w14 : WA P 3 (opsX x) 14 (bs 20 1625) Φ t14 := WAs (an (WE V_ok 0 [] 1 (tn [1, 67, 70, 72, 76] 6) az w20) (an (WE V_ok 0 [] 7 (tn [1, 66, 70, 73, 76] 6) az w22) aN))
    have w13 : WA P 3 (opsX x) 14 (bs 20 729) Φ t13 := WAs (an (WE V_ok 0 [] 1 (tn [1, 67, 70, 73, 75] 6) az w19) (an (WE V_ok 0 [] 10 (tn [1, 66, 70, 73, 76] 6) az w22) aN))
    have w12 : WA P 3 (opsX x) 14 (bs 20 1611) Φ t12 := WAs (an (WE V_ok 1 [(2, {sb := 6, res := some ⟨f_slices_Clone_intO.S.rs, y22⟩})] 2 (tl [1, 68, 69, 72, 76] [0, 1, 2, 3, 6, 4, 5]) (ac (f_slices_Clone_intO.rl e23) az) w18) (an (WE V_ok 0 [] 4 (tn [1, 67, 70, 72, 76] 6) az w20) (an (WE V_ok 0 [] 7 (tn [1, 67, 69, 73, 76] 6) az w21) aN)))
    have w11 : WA P 3 (opsX x) 14 (bs 20 715) Φ t11 := WAs (an (WE V_ok 1 [(2, {sb := 6, res := some ⟨f_slices_Clone_intO.S.rs, y22⟩})] 2 (tl [1, 68, 69, 73, 75] [0, 1, 2, 3, 6, 4, 5]) (ac (f_slices_Clone_intO.rl e23) az) w17) (an (WE V_ok 0 [] 4 (tn [1, 67, 70, 73, 75] 6) az w19) (an (WE V_ok 0 [] 10 (tn [1, 67, 69, 73, 76] 6) az w21) aN)))
    have w10 : WA P 3 (opsX x) 14 (bs 20 603) Φ t10 := WAs (an (WE V_ok 1 [(2, {sb := 6, res := some ⟨f_slices_Clone_intO.S.rs, y22⟩})] 2 (tl [1, 68, 70, 72, 75] [0, 1, 2, 3, 6, 4, 5]) (ac (f_slices_Clone_intO.rl e23) az) w16) (an (WE V_ok 0 [] 7 (tn [1, 67, 70, 73, 75] 6) az w19) (an (WE V_ok 0 [] 10 (tn [1, 67, 70, 72, 76] 6) az w20) aN)))
    have w9 : WA P 3 (opsX x) 14 (bs 20 591) Φ t9 := WAs (an (WE V_ok 0 [] 4 (tn [1, 68, 70, 72, 75] 7) az w16) (an (WE V_ok 0 [] 7 (tn [1, 68, 69, 73, 75] 7) az w17) (an (WE V_ok 0 [] 10 (tn [1, 68, 69, 72, 76] 7) az w18) aN)))
    have w8 : WA P 3 (opsX x) 15 (bs 20 1609) Φ t8 := WAs (an (WE V_ok 0 [] 1 (tn [1, 67, 69, 72, 76] 6) az w12) (an (WE V_ok 0 [] 4 (tn [1, 66, 70, 72, 76] 6) az w14) (an (WE V_ok 0 [] 7 (tn [1, 66, 69, 73, 76] 6) az w15) aN)))
    have w7 : WA P 3 (opsX x) 15 (bs 20 713) Φ t7 := WAs (an (WE V_ok 0 [] 1 (tn [1, 67, 69, 73, 75] 6) az w11) (an (WE V_ok 0 [] 4 (tn [1, 66, 70, 73, 75] 6) az w13) (an (WE V_ok 0 [] 10 (tn [1, 66, 69, 73, 76] 6) az w15) aN)))
    have w6 : WA P 3 (opsX x) 15 (bs 20 601) Φ t6 := WAs (an (WE V_ok 0 [] 1 (tn [1, 67, 70, 72, 75] 6) az w10) (an (WE V_ok 0 [] 7 (tn [1, 66, 70, 73, 75] 6) az w13) (an (WE V_ok 0 [] 10 (tn [1, 66, 70, 72, 76] 6) az w14) aN)))
    have w5 : WA P 3 (opsX x) 15 (bs 20 587) Φ t5 := WAs (an (WE V_ok 1 [(2, {sb := 6, res := some ⟨f_slices_Clone_intO.S.rs, y22⟩})] 2 (tl [1, 68, 69, 72, 75] [0, 1, 2, 3, 6, 4, 5]) (ac (f_slices_Clone_intO.rl e23) az) w9) (an (WE V_ok 0 [] 4 (tn [1, 67, 70, 72, 75] 6) az w10) (an (WE V_ok 0 [] 7 (tn [1, 67, 69, 73, 75] 6) az w11) (an (WE V_ok 0 [] 10 (tn [1, 67, 69, 72, 76] 6) az w12) aN))))
    have w4 : WA P 3 (opsX x) 16 (bs 20 585) Φ t4 := WAs (an (WE V_ok 0 [] 1 (tn [1, 67, 69, 72, 75] 6) az w5) (an (WE V_ok 0 [] 4 (tn [1, 66, 70, 72, 75] 6) az w6) (an (WE V_ok 0 [] 7 (tn [1, 66, 69, 73, 75] 6) az w7) (an (WE V_ok 0 [] 10 (tn [1, 66, 69, 72, 76] 6) az w8) aN))))
    have w3 : WA P 3 (opsX x) 17 (bs 20 73) Φ t3 := WT V_ok [] 9 (tn [1, 66, 69, 72, 75] 6) az w4
    have w2 : WA P 3 (opsX x) 18 (bs 20 9) Φ t2 := WT V_ok [] 6 (tn [1, 66, 69, 72] 6) az w3
    have w1 : WA P 3 (opsX x) 19 (bs 20 1) Φ t1 := WT V_ok [] 3 (tn [1, 66, 69] 6) az w2
    have w0 : WA P 3 (opsX x) 20 (bs 20 0) Φ t0 := WT V_ok [] 0 (tn [1, 66] 6) az w1
    exact RA V_ok 20 (by kernel_rfl) (by kernel_rfl) (by kernel_rfl) w0
noncomputable def l3 (x2 : T26b3.T) (x3 : T5477.T) (x4 x5 x6 x7 x8 x9 x10 : Int) (k : Nat) : Nat → Int → Int → Int → Int → Int → Int → Int → Int → List Int → List T713d.T → List Int → List Int → Int → List (List (List T1383.T)) → List T23b6.T → Option R
  | 0, _, _, _, _, _, _, _, _, _, _, _, _, _, _, _ => none
  | m + 1, p1, p2, p12, p13, p14, p15, p16, p17, p18, p19, p20, p21, p22, p23, p24 => b3 x2 x3 x4 x5 x6 x7 x8 x9 x10 (l3 x2 x3 x4 x5 x6 x7 x8 x9 x10 k m) k p1 p2 p12 p13 p14 p15 p16 p17 p18 p19 p20 p21 p22 p23 p24
theorem l3_ok {r x2 x3 x4 x5 x6 x7 x8 x9 x10} (k : Nat) : ∀ (m3 : Nat) (p1 p2 p12 p13 p14 p15 p16 p17 : Int) (p18 : List Int) (p19 : List T713d.T) (p20 p21 : List Int) (p22 : Int) (p23 : List (List (List T1383.T))) (p24 : List T23b6.T), l3 x2 x3 x4 x5 x6 x7 x8 x9 x10 k m3 p1 p2 p12 p13 p14 p15 p16 p17 p18 p19 p20 p21 p22 p23 p24 = some r → Gw P 3 (Q x2 x3 x4 x5 x6 x7 x8 x9 x10 r) (Pb c0 175 [] m3) (s3 x2 x3 x4 x5 x6 x7 x8 x9 x10 p1 p2 p12 p13 p14 p15 p16 p17 p18 p19 p20 p21 p22 p23 p24)
  | 0, _, _, _, _, _, _, _, _, _, _, _, _, _, _, _, H => by cases H
  | m3 + 1, p1, p2, p12, p13, p14, p15, p16, p17, p18, p19, p20, p21, p22, p23, p24, H => SU (by kernel_rfl) (b3_ok (l3_ok k m3) H)
noncomputable def b1 (x2 : T26b3.T) (x3 : T5477.T) (x4 x5 x6 x7 x8 x9 x10 : Int) (L1 : Int → Int → Int → Int → Int → Int → Int → Int → List Int → List T23b6.T → List T713d.T → List Int → List Int → Int → List (List (List T1383.T)) → Option R) (k : Nat) (p1 p2 p12 p13 p14 p15 p16 p17 : Int) (p18 : List Int) (p19 : List T23b6.T) (p20 : List T713d.T) (p21 p22 : List Int) (p23 : Int) (p24 : List (List (List T1383.T))) : Option R :=
  if (decide (p2 < p1)) = true then
  if 0 ≤ p2 then
    if p2 < (p24.length : Int) then
      (f_slices_Clone_Conf_RuleO.f k (att (.slice (.slice T1383)) p24 p2)).bind fun y6 =>
        l2 x2 x3 x4 x5 x6 x7 x8 x9 x10 L1 k k p2 p1 p2 (y6.1.length : Int) 0 p12 p13 p14 p15 p16 p17 p18 p19 p20 p21 p22 p23 y6.1 p24
    else none
  else none
else
  (f_slices_Clone_PeerO.f k p19).bind fun y15 =>
    l3 x2 x3 x4 x5 x6 x7 x8 x9 x10 k k (y15.1.length : Int) 0 p12 p13 p14 p15 p16 p17 p18 p20 p21 p22 p23 p24 y15.1
theorem b1_ok {r x2 x3 x4 x5 x6 x7 x8 x9 x10} {L1 : Int → Int → Int → Int → Int → Int → Int → Int → List Int → List T23b6.T → List T713d.T → List Int → List Int → Int → List (List (List T1383.T)) → Option R} {m1 : Nat} (hL1 : ∀ p1 p2 p12 p13 p14 p15 p16 p17 p18 p19 p20 p21 p22 p23 p24, L1 p1 p2 p12 p13 p14 p15 p16 p17 p18 p19 p20 p21 p22 p23 p24 = some r → Gw P 3 (Q x2 x3 x4 x5 x6 x7 x8 x9 x10 r) (Pb c0 43 [] m1) (s1 x2 x3 x4 x5 x6 x7 x8 x9 x10 p1 p2 p12 p13 p14 p15 p16 p17 p18 p19 p20 p21 p22 p23 p24)) {k p1 p2 p12 p13 p14 p15 p16 p17 p18 p19 p20 p21 p22 p23 p24} (H : b1 x2 x3 x4 x5 x6 x7 x8 x9 x10 L1 k p1 p2 p12 p13 p14 p15 p16 p17 p18 p19 p20 p21 p22 p23 p24 = some r) : Gw P 3 (Q x2 x3 x4 x5 x6 x7 x8 x9 x10 r) (Px c0 75 [m1]) (s1 x2 x3 x4 x5 x6 x7 x8 x9 x10 p1 p2 p12 p13 p14 p15 p16 p17 p18 p19 p20 p21 p22 p23 p24) := by
  unfold b1 at H
  refine Rg V_ok 0 [] az ?_
  rcases of_ite H with ⟨hb3, H⟩ | ⟨hb3, H⟩
  · refine C1 hb3 ?_
    obtain ⟨n4, H⟩ := of_if H
    obtain ⟨n5, H⟩ := of_if H
    refine Rg V_ok 0 [] (ac n4 (ac n5 az)) ?_
    obtain ⟨y6, e7, H⟩ := of_bind H
    refine Rg V_ok 1 [(1, {sb := 5, res := some ⟨f_slices_Clone_Conf_RuleO.S.rs, y6⟩})] (ac (f_slices_Clone_Conf_RuleO.rl e7) az) ?_
    refine Rg V_ok 0 [] az ?_
    exact LP k (Jm (tl [1, 3, 4, 13, 14, 15, 22, 23, 24] [0, 1, 2, 3, 5, 4]) (l2_ok hL1 k k p2 p1 p2 (y6.1.length : Int) 0 p12 p13 p14 p15 p16 p17 p18 p19 p20 p21 p22 p23 y6.1 p24 H))
  · refine C0 hb3 ?_
    obtain ⟨y15, e16, H⟩ := of_bind H
    refine Rg V_ok 1 [(2, {sb := 5, res := some ⟨f_slices_Clone_PeerO.S.rs, y15⟩})] (ac (f_slices_Clone_PeerO.rl e16) az) ?_
    refine Rg V_ok 0 [] az ?_
    exact LP k (Jm (tn [1, 47, 48] 6) (l3_ok k k (y15.1.length : Int) 0 p12 p13 p14 p15 p16 p17 p18 p20 p21 p22 p23 p24 y15.1 H))
noncomputable def l1 (x2 : T26b3.T) (x3 : T5477.T) (x4 x5 x6 x7 x8 x9 x10 : Int) (k : Nat) : Nat → Int → Int → Int → Int → Int → Int → Int → Int → List Int → List T23b6.T → List T713d.T → List Int → List Int → Int → List (List (List T1383.T)) → Option R
  | 0, _, _, _, _, _, _, _, _, _, _, _, _, _, _, _ => none
  | m + 1, p1, p2, p12, p13, p14, p15, p16, p17, p18, p19, p20, p21, p22, p23, p24 => b1 x2 x3 x4 x5 x6 x7 x8 x9 x10 (l1 x2 x3 x4 x5 x6 x7 x8 x9 x10 k m) k p1 p2 p12 p13 p14 p15 p16 p17 p18 p19 p20 p21 p22 p23 p24
theorem l1_ok {r x2 x3 x4 x5 x6 x7 x8 x9 x10} (k : Nat) : ∀ (m1 : Nat) (p1 p2 p12 p13 p14 p15 p16 p17 : Int) (p18 : List Int) (p19 : List T23b6.T) (p20 : List T713d.T) (p21 p22 : List Int) (p23 : Int) (p24 : List (List (List T1383.T))), l1 x2 x3 x4 x5 x6 x7 x8 x9 x10 k m1 p1 p2 p12 p13 p14 p15 p16 p17 p18 p19 p20 p21 p22 p23 p24 = some r → Gw P 3 (Q x2 x3 x4 x5 x6 x7 x8 x9 x10 r) (Pb c0 43 [] m1) (s1 x2 x3 x4 x5 x6 x7 x8 x9 x10 p1 p2 p12 p13 p14 p15 p16 p17 p18 p19 p20 p21 p22 p23 p24)
  | 0, _, _, _, _, _, _, _, _, _, _, _, _, _, _, _, H => by cases H
  | m1 + 1, p1, p2, p12, p13, p14, p15, p16, p17, p18, p19, p20, p21, p22, p23, p24, H => SU (by kernel_rfl) (b1_ok (l1_ok k m1) H)
noncomputable def f (k : Nat) (x1 x2 : T26b3.T) (x3 : T5477.T) (x4 x5 x6 x7 x8 x9 x10 : Int) : Option R :=
  (f_slices_Clone_ConfO.f k x1.1).bind fun y1 =>
    l1 x2 x3 x4 x5 x6 x7 x8 x9 x10 k k (y1.1.length : Int) 0 x1.2.1 x1.2.2.1 x1.2.2.2.1 x1.2.2.2.2.1 x1.2.2.2.2.2.1 x1.2.2.2.2.2.2.1 x1.2.2.2.2.2.2.2.1 x1.2.2.2.2.2.2.2.2.1 x1.2.2.2.2.2.2.2.2.2.1 x1.2.2.2.2.2.2.2.2.2.2.1 x1.2.2.2.2.2.2.2.2.2.2.2.1 x1.2.2.2.2.2.2.2.2.2.2.2.2 y1.1
theorem f_ok {r k x1 x2 x3 x4 x5 x6 x7 x8 x9 x10} (H : f k x1 x2 x3 x4 x5 x6 x7 x8 x9 x10 = some r) : Gw P 3 (Q x2 x3 x4 x5 x6 x7 x8 x9 x10 r) (Px c0 1 []) (s0 x1 x2 x3 x4 x5 x6 x7 x8 x9 x10) := by
  unfold f at H
  refine Rg V_ok 1 [(0, hb 3)] az ?_
  obtain ⟨y1, e2, H⟩ := of_bind H
  refine Rg V_ok 1 [(2, {sb := 4, res := some ⟨f_slices_Clone_ConfO.S.rs, y1⟩})] (ac (f_slices_Clone_ConfO.rl e2) az) ?_
  refine Rg V_ok 0 [] az ?_
  exact LP k (Jm (tn [1, 13, 14, 15] 5) (l1_ok k k (y1.1.length : Int) 0 x1.2.1 x1.2.2.1 x1.2.2.2.1 x1.2.2.2.2.1 x1.2.2.2.2.2.1 x1.2.2.2.2.2.2.1 x1.2.2.2.2.2.2.2.1 x1.2.2.2.2.2.2.2.2.1 x1.2.2.2.2.2.2.2.2.2.1 x1.2.2.2.2.2.2.2.2.2.2.1 x1.2.2.2.2.2.2.2.2.2.2.2.1 x1.2.2.2.2.2.2.2.2.2.2.2.2 y1.1 H))
theorem ok {r k x1 x2 x3 x4 x5 x6 x7 x8 x9 x10} (H : f k x1 x2 x3 x4 x5 x6 x7 x8 x9 x10 = some r) : W P 3 c0 (s0 x1 x2 x3 x4 x5 x6 x7 x8 x9 x10) (CallQ 3 (out x2 x3 x4 x5 x6 x7 x8 x9 x10 r)) := of_G (f_ok H)
theorem at_ : FnAt P 32 85 c0 Go.Proofs.Tryz.f32.results := fnAt Go.Proofs.Tryz.func32 (by kernel_rfl) (by decide) (by kernel_rfl) (by kernel_rfl)
end i_control_own_c1am
/-! ### function 83, (*wayfinder/control.controller).two, where it is called -/
namespace i_control_controller_two_cc3
noncomputable def c0 : Code := (Go.Proofs.Tryz.f83.body).getD .skip
noncomputable def V : Env := { tt := tt, Γ := slk [(119, f_slices_Contains_int.S)] }
theorem V_ok : EnvOk P V := { ck := tt_ck, fits := slk_cons f_slices_Contains_int.fits (slk_nil), mixed := mixed }
abbrev R := (Bool) × Unit
noncomputable def s0 (x1 : T26b3.T) (x2 : T5477.T) (x3 x4 x5 x6 x7 x8 x9 x10 x11 x12 x13 x14 x15 x16 : Int) (x17 : List (List (List T1383.T))) (x18 : List Int) (x19 : List T23b6.T) (x20 : List T713d.T) (x21 x22 : List Int) : St := ⟨10, [(0, .cv (.one (.ptr 3 0)))], [(.box 13, (encC .any T26b3 x1)), (.box 3, (encC .any T5477 x2)), (.box 13, [.nils, .i x3, .i x4, .i x5, .i x6, .i x7, .i x8, .nils, .nils, .nils, .nils, .nils, .i x9]), (.box 13, [.own 4, .i x10, .i x11, .i x12, .i x13, .i x14, .i x15, .own 5, .own 6, .own 7, .own 8, .own 9, .i x16]), (.buf 38 (.slice (.slice T1383)) x17, []), (.buf 3 (.int .i64) x18, []), (.buf 58 T23b6 x19, []), (.buf 93 T713d x20, []), (.buf 3 (.int .i64) x21, []), (.buf 3 (.int .i64) x22, []), (.box 1, [.ptr 3 0])]⟩
noncomputable def out (x1 : T26b3.T) (x2 : T5477.T) (x3 x4 x5 x6 x7 x8 x9 x10 x11 x12 x13 x14 x15 x16 : Int) (x17 : List (List (List T1383.T))) (x18 : List Int) (x19 : List T23b6.T) (x20 : List T713d.T) (x21 x22 : List Int) (r : R) : St := ⟨10, [(2, .cv (.one (.bool r.1)))], [(.box 13, (encC .any T26b3 x1)), (.box 3, (encC .any T5477 x2)), (.box 13, [.nils, .i x3, .i x4, .i x5, .i x6, .i x7, .i x8, .nils, .nils, .nils, .nils, .nils, .i x9]), (.box 13, [.own 4, .i x10, .i x11, .i x12, .i x13, .i x14, .i x15, .own 5, .own 6, .own 7, .own 8, .own 9, .i x16]), (.buf 38 (.slice (.slice T1383)) x17, []), (.buf 3 (.int .i64) x18, []), (.buf 58 T23b6 x19, []), (.buf 93 T713d x20, []), (.buf 3 (.int .i64) x21, []), (.buf 3 (.int .i64) x22, []), (.box 1, [.ptr 3 0])]⟩
abbrev Q (x1 : T26b3.T) (x2 : T5477.T) (x3 x4 x5 x6 x7 x8 x9 x10 x11 x12 x13 x14 x15 x16 : Int) (x17 : List (List (List T1383.T))) (x18 : List Int) (x19 : List T23b6.T) (x20 : List T713d.T) (x21 x22 : List Int) (r : R) := CallQ 11 (out x1 x2 x3 x4 x5 x6 x7 x8 x9 x10 x11 x12 x13 x14 x15 x16 x17 x18 x19 x20 x21 x22 r)
noncomputable def f (k : Nat) (x1 : T26b3.T) (x2 : T5477.T) (x3 x4 x5 x6 x7 x8 x9 x10 x11 x12 x13 x14 x15 x16 : Int) (x17 : List (List (List T1383.T))) (x18 : List Int) (x19 : List T23b6.T) (x20 : List T713d.T) (x21 x22 : List Int) : Option R :=
  (f_slices_Contains_int.f k [1, 2, 3] x14).bind fun y1 =>
    some (y1.1, ())
theorem f_ok {r k x1 x2 x3 x4 x5 x6 x7 x8 x9 x10 x11 x12 x13 x14 x15 x16 x17 x18 x19 x20 x21 x22} (H : f k x1 x2 x3 x4 x5 x6 x7 x8 x9 x10 x11 x12 x13 x14 x15 x16 x17 x18 x19 x20 x21 x22 = some r) : Gw P 11 (Q x1 x2 x3 x4 x5 x6 x7 x8 x9 x10 x11 x12 x13 x14 x15 x16 x17 x18 x19 x20 x21 x22 r) (Px c0 1 []) (s0 x1 x2 x3 x4 x5 x6 x7 x8 x9 x10 x11 x12 x13 x14 x15 x16 x17 x18 x19 x20 x21 x22) := by
  unfold f at H
  refine Rg V_ok 0 [] az ?_
  obtain ⟨y1, e2, H⟩ := of_bind H
  refine Rg V_ok 0 [(6, hr f_slices_Contains_int.S y1)] (ac (f_slices_Contains_int.rl e2) az) ?_
  obtain rfl := Option.some.inj H
  exact Lq (tn [2] 11)
theorem ok {r k x1 x2 x3 x4 x5 x6 x7 x8 x9 x10 x11 x12 x13 x14 x15 x16 x17 x18 x19 x20 x21 x22} (H : f k x1 x2 x3 x4 x5 x6 x7 x8 x9 x10 x11 x12 x13 x14 x15 x16 x17 x18 x19 x20 x21 x22 = some r) : W P 11 c0 (s0 x1 x2 x3 x4 x5 x6 x7 x8 x9 x10 x11 x12 x13 x14 x15 x16 x17 x18 x19 x20 x21 x22) (CallQ 11 (out x1 x2 x3 x4 x5 x6 x7 x8 x9 x10 x11 x12 x13 x14 x15 x16 x17 x18 x19 x20 x21 x22 r)) := of_G (f_ok H)
theorem at_ : FnAt P 83 10 c0 Go.Proofs.Tryz.f83.results := fnAt Go.Proofs.Tryz.func83 (by kernel_rfl) (by decide) (by kernel_rfl) (by kernel_rfl)
end i_control_controller_two_cc3
/-! ### function 82, (*wayfinder/control.controller).is$1, where it is called -/
namespace i_control_controller_is_1_249
noncomputable def c0 : Code := (Go.Proofs.Tryz.f82.body).getD .skip
noncomputable def V : Env := { tt := tt, Γ := slk [] }
theorem V_ok : EnvOk P V := { ck := tt_ck, fits := slk_nil, mixed := mixed }
abbrev R := (Bool) × Unit
noncomputable def s0 (x1 : Int) (x2 : T26b3.T) (x3 : T5477.T) (x4 x5 x6 x7 x8 x9 x10 x11 x12 x13 x14 x15 x16 x17 : Int) (x18 : List (List (List T1383.T))) (x19 : List Int) (x20 : List T23b6.T) (x21 : List T713d.T) (x22 x23 : List Int) : St := ⟨16, [(0, .cv (.one (.i x1))), (1, .cv (.one (.ptr 10 0)))], [(.box 13, (encC .any T26b3 x2)), (.box 3, (encC .any T5477 x3)), (.box 13, [.nils, .i x4, .i x5, .i x6, .i x7, .i x8, .i x9, .nils, .nils, .nils, .nils, .nils, .i x10]), (.box 13, [.own 4, .i x11, .i x12, .i x13, .i x14, .i x15, .i x16, .own 5, .own 6, .own 7, .own 8, .own 9, .i x17]), (.buf 38 (.slice (.slice T1383)) x18, []), (.buf 3 (.int .i64) x19, []), (.buf 58 T23b6 x20, []), (.buf 93 T713d x21, []), (.buf 3 (.int .i64) x22, []), (.buf 3 (.int .i64) x23, []), (.box 1, [.ptr 3 0])]⟩
noncomputable def out (x2 : T26b3.T) (x3 : T5477.T) (x4 x5 x6 x7 x8 x9 x10 x11 x12 x13 x14 x15 x16 x17 : Int) (x18 : List (List (List T1383.T))) (x19 : List Int) (x20 : List T23b6.T) (x21 : List T713d.T) (x22 x23 : List Int) (r : R) : St := ⟨16, [(3, .cv (.one (.bool r.1)))], [(.box 13, (encC .any T26b3 x2)), (.box 3, (encC .any T5477 x3)), (.box 13, [.nils, .i x4, .i x5, .i x6, .i x7, .i x8, .i x9, .nils, .nils, .nils, .nils, .nils, .i x10]), (.box 13, [.own 4, .i x11, .i x12, .i x13, .i x14, .i x15, .i x16, .own 5, .own 6, .own 7, .own 8, .own 9, .i x17]), (.buf 38 (.slice (.slice T1383)) x18, []), (.buf 3 (.int .i64) x19, []), (.buf 58 T23b6 x20, []), (.buf 93 T713d x21, []), (.buf 3 (.int .i64) x22, []), (.buf 3 (.int .i64) x23, []), (.box 1, [.ptr 3 0])]⟩
abbrev Q (x2 : T26b3.T) (x3 : T5477.T) (x4 x5 x6 x7 x8 x9 x10 x11 x12 x13 x14 x15 x16 x17 : Int) (x18 : List (List (List T1383.T))) (x19 : List Int) (x20 : List T23b6.T) (x21 : List T713d.T) (x22 x23 : List Int) (r : R) := CallQ 11 (out x2 x3 x4 x5 x6 x7 x8 x9 x10 x11 x12 x13 x14 x15 x16 x17 x18 x19 x20 x21 x22 x23 r)
noncomputable def f (k : Nat) (x1 : Int) (x2 : T26b3.T) (x3 : T5477.T) (x4 x5 x6 x7 x8 x9 x10 x11 x12 x13 x14 x15 x16 x17 : Int) (x18 : List (List (List T1383.T))) (x19 : List Int) (x20 : List T23b6.T) (x21 : List T713d.T) (x22 x23 : List Int) : Option R :=
  if (decide (x1 < (0 : Int))) = true then
    some (true, ())
  else
    some ((decide (x1 ≥ (x18.length : Int))), ())
theorem f_ok {r k x1 x2 x3 x4 x5 x6 x7 x8 x9 x10 x11 x12 x13 x14 x15 x16 x17 x18 x19 x20 x21 x22 x23} (H : f k x1 x2 x3 x4 x5 x6 x7 x8 x9 x10 x11 x12 x13 x14 x15 x16 x17 x18 x19 x20 x21 x22 x23 = some r) : Gw P 11 (Q x2 x3 x4 x5 x6 x7 x8 x9 x10 x11 x12 x13 x14 x15 x16 x17 x18 x19 x20 x21 x22 x23 r) (Px c0 1 []) (s0 x1 x2 x3 x4 x5 x6 x7 x8 x9 x10 x11 x12 x13 x14 x15 x16 x17 x18 x19 x20 x21 x22 x23) := by
  unfold f at H
  refine Rg V_ok 0 [] az ?_
  rcases of_ite H with ⟨hb1, H⟩ | ⟨hb1, H⟩
  · refine Rg V_ok 0 [(1, {bv := some true})] (ac hb1 az) ?_
    obtain rfl := Option.some.inj H
    exact Lq (tn [3] 11)
  · refine Rg V_ok 0 [(1, {bv := some false})] (ac hb1 az) ?_
    obtain rfl := Option.some.inj H
    exact Lq (tn [3] 11)
theorem ok {r k x1 x2 x3 x4 x5 x6 x7 x8 x9 x10 x11 x12 x13 x14 x15 x16 x17 x18 x19 x20 x21 x22 x23} (H : f k x1 x2 x3 x4 x5 x6 x7 x8 x9 x10 x11 x12 x13 x14 x15 x16 x17 x18 x19 x20 x21 x22 x23 = some r) : W P 11 c0 (s0 x1 x2 x3 x4 x5 x6 x7 x8 x9 x10 x11 x12 x13 x14 x15 x16 x17 x18 x19 x20 x21 x22 x23) (CallQ 11 (out x2 x3 x4 x5 x6 x7 x8 x9 x10 x11 x12 x13 x14 x15 x16 x17 x18 x19 x20 x21 x22 x23 r)) := of_G (f_ok H)
theorem at_ : FnAt P 82 16 c0 Go.Proofs.Tryz.f82.results := fnAt Go.Proofs.Tryz.func82 (by kernel_rfl) (by decide) (by kernel_rfl) (by kernel_rfl)
end i_control_controller_is_1_249
/-! ### function 120, slices.IndexFunc[[]int,int], where it is called -/
namespace i_slices_IndexFunc_int_fc1
noncomputable def c0 : Code := (Go.Proofs.Tryz.f120.body).getD .skip
noncomputable def V : Env := { tt := tt, Γ := slk [] }
theorem V_ok : EnvOk P V := { ck := tt_ck, fits := slk_nil, mixed := mixed }
abbrev R := (Int) × Unit
noncomputable def s0 (x1 : T26b3.T) (x2 : T5477.T) (x3 x4 x5 x6 x7 x8 x9 x10 x11 x12 x13 x14 x15 x16 : Int) (x17 : List (List (List T1383.T))) (x18 : List Int) (x19 : List T23b6.T) (x20 : List T713d.T) (x21 x22 : List Int) : St := ⟨19, [(0, .cv (.one (.own 5))), (1, .cv (.one (.fn 82 [] [(10, 0)])))], [(.box 13, (encC .any T26b3 x1)), (.box 3, (encC .any T5477 x2)), (.box 13, [.nils, .i x3, .i x4, .i x5, .i x6, .i x7, .i x8, .nils, .nils, .nils, .nils, .nils, .i x9]), (.box 13, [.own 4, .i x10, .i x11, .i x12, .i x13, .i x14, .i x15, .own 5, .own 6, .own 7, .own 8, .own 9, .i x16]), (.buf 38 (.slice (.slice T1383)) x17, []), (.buf 3 (.int .i64) x18, []), (.buf 58 T23b6 x19, []), (.buf 93 T713d x20, []), (.buf 3 (.int .i64) x21, []), (.buf 3 (.int .i64) x22, []), (.box 1, [.ptr 3 0])]⟩
noncomputable def out (x1 : T26b3.T) (x2 : T5477.T) (x3 x4 x5 x6 x7 x8 x9 x10 x11 x12 x13 x14 x15 x16 : Int) (x17 : List (List (List T1383.T))) (x18 : List Int) (x19 : List T23b6.T) (x20 : List T713d.T) (x21 x22 : List Int) (r : R) : St := ⟨19, [(4, .cv (.one (.i r.1)))], [(.box 13, (encC .any T26b3 x1)), (.box 3, (encC .any T5477 x2)), (.box 13, [.nils, .i x3, .i x4, .i x5, .i x6, .i x7, .i x8, .nils, .nils, .nils, .nils, .nils, .i x9]), (.box 13, [.own 4, .i x10, .i x11, .i x12, .i x13, .i x14, .i x15, .own 5, .own 6, .own 7, .own 8, .own 9, .i x16]), (.buf 38 (.slice (.slice T1383)) x17, []), (.buf 3 (.int .i64) x18, []), (.buf 58 T23b6 x19, []), (.buf 93 T713d x20, []), (.buf 3 (.int .i64) x21, []), (.buf 3 (.int .i64) x22, []), (.box 1, [.ptr 3 0])]⟩
abbrev Q (x1 : T26b3.T) (x2 : T5477.T) (x3 x4 x5 x6 x7 x8 x9 x10 x11 x12 x13 x14 x15 x16 : Int) (x17 : List (List (List T1383.T))) (x18 : List Int) (x19 : List T23b6.T) (x20 : List T713d.T) (x21 x22 : List Int) (r : R) := CallQ 11 (out x1 x2 x3 x4 x5 x6 x7 x8 x9 x10 x11 x12 x13 x14 x15 x16 x17 x18 x19 x20 x21 x22 r)
noncomputable def s1 (x1 : T26b3.T) (x2 : T5477.T) (x3 x4 x5 x6 x7 x8 x9 x10 x11 x12 x13 x14 x15 x16 : Int) (x17 : List (List (List T1383.T))) (x18 : List Int) (x19 : List T23b6.T) (x20 : List T713d.T) (x21 x22 : List Int) (p1 p2 : Int) : St := ⟨19, [(0, .cv (.one (.own 5))), (1, .cv (.one (.fn 82 [] [(10, 0)]))), (7, .cv (.one (.i p1))), (8, .cv (.one (.i p2)))], [(.box 13, (encC .any T26b3 x1)), (.box 3, (encC .any T5477 x2)), (.box 13, [.nils, .i x3, .i x4, .i x5, .i x6, .i x7, .i x8, .nils, .nils, .nils, .nils, .nils, .i x9]), (.box 13, [.own 4, .i x10, .i x11, .i x12, .i x13, .i x14, .i x15, .own 5, .own 6, .own 7, .own 8, .own 9, .i x16]), (.buf 38 (.slice (.slice T1383)) x17, []), (.buf 3 (.int .i64) x18, []), (.buf 58 T23b6 x19, []), (.buf 93 T713d x20, []), (.buf 3 (.int .i64) x21, []), (.buf 3 (.int .i64) x22, []), (.box 1, [.ptr 3 0])]⟩
noncomputable def b1 (x1 : T26b3.T) (x2 : T5477.T) (x3 x4 x5 x6 x7 x8 x9 x10 x11 x12 x13 x14 x15 x16 : Int) (x17 : List (List (List T1383.T))) (x18 : List Int) (x19 : List T23b6.T) (x20 : List T713d.T) (x21 x22 : List Int) (L1 : Int → Int → Option R) (k : Nat) (p1 p2 : Int) : Option R :=
  if (decide (p2 < p1)) = true then
  if 0 ≤ p2 then
    if p2 < (x18.length : Int) then
      (i_control_controller_is_1_249.f k (att (.int .i64) x18 p2) x1 x2 x3 x4 x5 x6 x7 x8 x9 x10 x11 x12 x13 x14 x15 x16 x17 x18 x19 x20 x21 x22).bind fun y4 =>
        if y4.1 = true then
          some (p2, ())
        else
          L1 p1 (IntKind.i64.wrap (p2 + 1))
    else none
  else none
else
  some ((-1), ())
theorem b1_ok {r x1 x2 x3 x4 x5 x6 x7 x8 x9 x10 x11 x12 x13 x14 x15 x16 x17 x18 x19 x20 x21 x22} {L1 : Int → Int → Option R} {m1 : Nat} (hL1 : ∀ p1 p2, L1 p1 p2 = some r → Gw P 11 (Q x1 x2 x3 x4 x5 x6 x7 x8 x9 x10 x11 x12 x13 x14 x15 x16 x17 x18 x19 x20 x21 x22 r) (Pb c0 21 [] m1) (s1 x1 x2 x3 x4 x5 x6 x7 x8 x9 x10 x11 x12 x13 x14 x15 x16 x17 x18 x19 x20 x21 x22 p1 p2)) {k p1 p2} (H : b1 x1 x2 x3 x4 x5 x6 x7 x8 x9 x10 x11 x12 x13 x14 x15 x16 x17 x18 x19 x20 x21 x22 L1 k p1 p2 = some r) : Gw P 11 (Q x1 x2 x3 x4 x5 x6 x7 x8 x9 x10 x11 x12 x13 x14 x15 x16 x17 x18 x19 x20 x21 x22 r) (Px c0 37 [m1]) (s1 x1 x2 x3 x4 x5 x6 x7 x8 x9 x10 x11 x12 x13 x14 x15 x16 x17 x18 x19 x20 x21 x22 p1 p2) := by
  unfold b1 at H
  refine Rg V_ok 0 [] az ?_
  rcases of_ite H with ⟨hb1, H⟩ | ⟨hb1, H⟩
  · refine C1 hb1 ?_
    refine Rg V_ok 0 [] az ?_
    refine GT (tn [0, 1, 5, 7, 8] 11) (RI ?_)
    obtain ⟨n2, H⟩ := of_if H
    obtain ⟨n3, H⟩ := of_if H
    refine EV V_ok 0 [] 5 (ac n2 (ac n3 az)) ?_
    obtain ⟨y4, e5, H⟩ := of_bind H
    refine CL V_ok i_control_controller_is_1_249.at_ (i_control_controller_is_1_249.ok e5) ?_
    refine RN ?_
    rcases of_ite H with ⟨hb6, H⟩ | ⟨hb6, H⟩
    · refine C1 hb6 ?_
      refine Rg V_ok 0 [] az ?_
      obtain rfl := Option.some.inj H
      exact Lq (tn [4] 11)
    · refine C0 hb6 ?_
      refine Rg V_ok 0 [] az ?_
      exact Jm (tn [0, 1, 7, 8] 11) (hL1 p1 (IntKind.i64.wrap (p2 + 1)) H)
  · refine C0 hb1 ?_
    refine Rg V_ok 0 [] az ?_
    obtain rfl := Option.some.inj H
    exact Lq (tn [4] 11)
noncomputable def l1 (x1 : T26b3.T) (x2 : T5477.T) (x3 x4 x5 x6 x7 x8 x9 x10 x11 x12 x13 x14 x15 x16 : Int) (x17 : List (List (List T1383.T))) (x18 : List Int) (x19 : List T23b6.T) (x20 : List T713d.T) (x21 x22 : List Int) (k : Nat) : Nat → Int → Int → Option R
  | 0, _, _ => none
  | m + 1, p1, p2 => b1 x1 x2 x3 x4 x5 x6 x7 x8 x9 x10 x11 x12 x13 x14 x15 x16 x17 x18 x19 x20 x21 x22 (l1 x1 x2 x3 x4 x5 x6 x7 x8 x9 x10 x11 x12 x13 x14 x15 x16 x17 x18 x19 x20 x21 x22 k m) k p1 p2
theorem l1_ok {r x1 x2 x3 x4 x5 x6 x7 x8 x9 x10 x11 x12 x13 x14 x15 x16 x17 x18 x19 x20 x21 x22} (k : Nat) : ∀ (m1 : Nat) (p1 : Int) (p2 : Int), l1 x1 x2 x3 x4 x5 x6 x7 x8 x9 x10 x11 x12 x13 x14 x15 x16 x17 x18 x19 x20 x21 x22 k m1 p1 p2 = some r → Gw P 11 (Q x1 x2 x3 x4 x5 x6 x7 x8 x9 x10 x11 x12 x13 x14 x15 x16 x17 x18 x19 x20 x21 x22 r) (Pb c0 21 [] m1) (s1 x1 x2 x3 x4 x5 x6 x7 x8 x9 x10 x11 x12 x13 x14 x15 x16 x17 x18 x19 x20 x21 x22 p1 p2)
  | 0, _, _, H => by cases H
  | m1 + 1, p1, p2, H => SU (by kernel_rfl) (b1_ok (l1_ok k m1) H)
noncomputable def f (k : Nat) (x1 : T26b3.T) (x2 : T5477.T) (x3 x4 x5 x6 x7 x8 x9 x10 x11 x12 x13 x14 x15 x16 : Int) (x17 : List (List (List T1383.T))) (x18 : List Int) (x19 : List T23b6.T) (x20 : List T713d.T) (x21 x22 : List Int) : Option R :=
  l1 x1 x2 x3 x4 x5 x6 x7 x8 x9 x10 x11 x12 x13 x14 x15 x16 x17 x18 x19 x20 x21 x22 k k (x18.length : Int) 0
theorem f_ok {r k x1 x2 x3 x4 x5 x6 x7 x8 x9 x10 x11 x12 x13 x14 x15 x16 x17 x18 x19 x20 x21 x22} (H : f k x1 x2 x3 x4 x5 x6 x7 x8 x9 x10 x11 x12 x13 x14 x15 x16 x17 x18 x19 x20 x21 x22 = some r) : Gw P 11 (Q x1 x2 x3 x4 x5 x6 x7 x8 x9 x10 x11 x12 x13 x14 x15 x16 x17 x18 x19 x20 x21 x22 r) (Px c0 1 []) (s0 x1 x2 x3 x4 x5 x6 x7 x8 x9 x10 x11 x12 x13 x14 x15 x16 x17 x18 x19 x20 x21 x22) := by
  unfold f at H
  refine Rg V_ok 0 [] az ?_
  refine Rg V_ok 0 [] az ?_
  exact LP k (Jm (tn [0, 1, 7, 8] 11) (l1_ok k k (x18.length : Int) 0 H))
theorem ok {r k x1 x2 x3 x4 x5 x6 x7 x8 x9 x10 x11 x12 x13 x14 x15 x16 x17 x18 x19 x20 x21 x22} (H : f k x1 x2 x3 x4 x5 x6 x7 x8 x9 x10 x11 x12 x13 x14 x15 x16 x17 x18 x19 x20 x21 x22 = some r) : W P 11 c0 (s0 x1 x2 x3 x4 x5 x6 x7 x8 x9 x10 x11 x12 x13 x14 x15 x16 x17 x18 x19 x20 x21 x22) (CallQ 11 (out x1 x2 x3 x4 x5 x6 x7 x8 x9 x10 x11 x12 x13 x14 x15 x16 x17 x18 x19 x20 x21 x22 r)) := of_G (f_ok H)
theorem at_ : FnAt P 120 19 c0 Go.Proofs.Tryz.f120.results := fnAt Go.Proofs.Tryz.func120 (by kernel_rfl) (by decide) (by kernel_rfl) (by kernel_rfl)
end i_slices_IndexFunc_int_fc1
/-! ### function 84, slices.ContainsFunc[[]int,int], where it is called -/
namespace i_slices_ContainsFunc_int_fc1
noncomputable def c0 : Code := (Go.Proofs.Tryz.f84.body).getD .skip
noncomputable def V : Env := { tt := tt, Γ := slk [] }
theorem V_ok : EnvOk P V := { ck := tt_ck, fits := slk_nil, mixed := mixed }
abbrev R := (Bool) × Unit
noncomputable def s0 (x1 : T26b3.T) (x2 : T5477.T) (x3 x4 x5 x6 x7 x8 x9 x10 x11 x12 x13 x14 x15 x16 : Int) (x17 : List (List (List T1383.T))) (x18 : List Int) (x19 : List T23b6.T) (x20 : List T713d.T) (x21 x22 : List Int) : St := ⟨9, [(0, .cv (.one (.own 5))), (1, .cv (.one (.fn 82 [] [(10, 0)])))], [(.box 13, (encC .any T26b3 x1)), (.box 3, (encC .any T5477 x2)), (.box 13, [.nils, .i x3, .i x4, .i x5, .i x6, .i x7, .i x8, .nils, .nils, .nils, .nils, .nils, .i x9]), (.box 13, [.own 4, .i x10, .i x11, .i x12, .i x13, .i x14, .i x15, .own 5, .own 6, .own 7, .own 8, .own 9, .i x16]), (.buf 38 (.slice (.slice T1383)) x17, []), (.buf 3 (.int .i64) x18, []), (.buf 58 T23b6 x19, []), (.buf 93 T713d x20, []), (.buf 3 (.int .i64) x21, []), (.buf 3 (.int .i64) x22, []), (.box 1, [.ptr 3 0])]⟩
noncomputable def out (x1 : T26b3.T) (x2 : T5477.T) (x3 x4 x5 x6 x7 x8 x9 x10 x11 x12 x13 x14 x15 x16 : Int) (x17 : List (List (List T1383.T))) (x18 : List Int) (x19 : List T23b6.T) (x20 : List T713d.T) (x21 x22 : List Int) (r : R) : St := ⟨9, [(4, .cv (.one (.bool r.1)))], [(.box 13, (encC .any T26b3 x1)), (.box 3, (encC .any T5477 x2)), (.box 13, [.nils, .i x3, .i x4, .i x5, .i x6, .i x7, .i x8, .nils, .nils, .nils, .nils, .nils, .i x9]), (.box 13, [.own 4, .i x10, .i x11, .i x12, .i x13, .i x14, .i x15, .own 5, .own 6, .own 7, .own 8, .own 9, .i x16]), (.buf 38 (.slice (.slice T1383)) x17, []), (.buf 3 (.int .i64) x18, []), (.buf 58 T23b6 x19, []), (.buf 93 T713d x20, []), (.buf 3 (.int .i64) x21, []), (.buf 3 (.int .i64) x22, []), (.box 1, [.ptr 3 0])]⟩
abbrev Q (x1 : T26b3.T) (x2 : T5477.T) (x3 x4 x5 x6 x7 x8 x9 x10 x11 x12 x13 x14 x15 x16 : Int) (x17 : List (List (List T1383.T))) (x18 : List Int) (x19 : List T23b6.T) (x20 : List T713d.T) (x21 x22 : List Int) (r : R) := CallQ 11 (out x1 x2 x3 x4 x5 x6 x7 x8 x9 x10 x11 x12 x13 x14 x15 x16 x17 x18 x19 x20 x21 x22 r)
noncomputable def f (k : Nat) (x1 : T26b3.T) (x2 : T5477.T) (x3 x4 x5 x6 x7 x8 x9 x10 x11 x12 x13 x14 x15 x16 : Int) (x17 : List (List (List T1383.T))) (x18 : List Int) (x19 : List T23b6.T) (x20 : List T713d.T) (x21 x22 : List Int) : Option R :=
  (i_slices_IndexFunc_int_fc1.f k x1 x2 x3 x4 x5 x6 x7 x8 x9 x10 x11 x12 x13 x14 x15 x16 x17 x18 x19 x20 x21 x22).bind fun y1 =>
    some ((decide (y1.1 ≥ (0 : Int))), ())
theorem f_ok {r k x1 x2 x3 x4 x5 x6 x7 x8 x9 x10 x11 x12 x13 x14 x15 x16 x17 x18 x19 x20 x21 x22} (H : f k x1 x2 x3 x4 x5 x6 x7 x8 x9 x10 x11 x12 x13 x14 x15 x16 x17 x18 x19 x20 x21 x22 = some r) : Gw P 11 (Q x1 x2 x3 x4 x5 x6 x7 x8 x9 x10 x11 x12 x13 x14 x15 x16 x17 x18 x19 x20 x21 x22 r) (Px c0 1 []) (s0 x1 x2 x3 x4 x5 x6 x7 x8 x9 x10 x11 x12 x13 x14 x15 x16 x17 x18 x19 x20 x21 x22) := by
  unfold f at H
  refine Rg V_ok 0 [] az ?_
  refine GT (tn [0, 1] 11) (RI ?_)
  refine EV V_ok 0 [] 2 az ?_
  obtain ⟨y1, e2, H⟩ := of_bind H
  refine CL V_ok i_slices_IndexFunc_int_fc1.at_ (i_slices_IndexFunc_int_fc1.ok e2) ?_
  refine EV V_ok 0 [] 2 az ?_
  refine RN ?_
  obtain rfl := Option.some.inj H
  exact Lq (tn [4] 11)
theorem ok {r k x1 x2 x3 x4 x5 x6 x7 x8 x9 x10 x11 x12 x13 x14 x15 x16 x17 x18 x19 x20 x21 x22} (H : f k x1 x2 x3 x4 x5 x6 x7 x8 x9 x10 x11 x12 x13 x14 x15 x16 x17 x18 x19 x20 x21 x22 = some r) : W P 11 c0 (s0 x1 x2 x3 x4 x5 x6 x7 x8 x9 x10 x11 x12 x13 x14 x15 x16 x17 x18 x19 x20 x21 x22) (CallQ 11 (out x1 x2 x3 x4 x5 x6 x7 x8 x9 x10 x11 x12 x13 x14 x15 x16 x17 x18 x19 x20 x21 x22 r)) := of_G (f_ok H)
theorem at_ : FnAt P 84 9 c0 Go.Proofs.Tryz.f84.results := fnAt Go.Proofs.Tryz.func84 (by kernel_rfl) (by decide) (by kernel_rfl) (by kernel_rfl)
end i_slices_ContainsFunc_int_fc1
/-! ### function 33, (*wayfinder/control.controller).is, where it is called -/
namespace i_control_controller_is_ac1
noncomputable def c0 : Code := (Go.Proofs.Tryz.f33.body).getD .skip
noncomputable def V : Env := { tt := tt, Γ := slk [] }
theorem V_ok : EnvOk P V := { ck := tt_ck, fits := slk_nil, mixed := mixed }
abbrev R := (Bool) × Unit
noncomputable def s0 (x1 : T26b3.T) (x2 : T5477.T) (x3 x4 x5 x6 x7 x8 x9 x10 x11 x12 x13 x14 x15 x16 : Int) (x17 : List (List (List T1383.T))) (x18 : List Int) (x19 : List T23b6.T) (x20 : List T713d.T) (x21 x22 : List Int) : St := ⟨57, [(0, .cv (.one (.ptr 3 0)))], [(.box 13, (encC .any T26b3 x1)), (.box 3, (encC .any T5477 x2)), (.box 13, [.nils, .i x3, .i x4, .i x5, .i x6, .i x7, .i x8, .nils, .nils, .nils, .nils, .nils, .i x9]), (.box 13, [.own 4, .i x10, .i x11, .i x12, .i x13, .i x14, .i x15, .own 5, .own 6, .own 7, .own 8, .own 9, .i x16]), (.buf 38 (.slice (.slice T1383)) x17, []), (.buf 3 (.int .i64) x18, []), (.buf 58 T23b6 x19, []), (.buf 93 T713d x20, []), (.buf 3 (.int .i64) x21, []), (.buf 3 (.int .i64) x22, [])]⟩
noncomputable def out (x1 : T26b3.T) (x2 : T5477.T) (x3 x4 x5 x6 x7 x8 x9 x10 x11 x12 x13 x14 x15 x16 : Int) (x17 : List (List (List T1383.T))) (x18 : List Int) (x19 : List T23b6.T) (x20 : List T713d.T) (x21 x22 : List Int) (r : R) : St := ⟨57, [(2, .cv (.one (.bool r.1)))], [(.box 13, (encC .any T26b3 x1)), (.box 3, (encC .any T5477 x2)), (.box 13, [.nils, .i x3, .i x4, .i x5, .i x6, .i x7, .i x8, .nils, .nils, .nils, .nils, .nils, .i x9]), (.box 13, [.own 4, .i x10, .i x11, .i x12, .i x13, .i x14, .i x15, .own 5, .own 6, .own 7, .own 8, .own 9, .i x16]), (.buf 38 (.slice (.slice T1383)) x17, []), (.buf 3 (.int .i64) x18, []), (.buf 58 T23b6 x19, []), (.buf 93 T713d x20, []), (.buf 3 (.int .i64) x21, []), (.buf 3 (.int .i64) x22, [])]⟩
abbrev Q (x1 : T26b3.T) (x2 : T5477.T) (x3 x4 x5 x6 x7 x8 x9 x10 x11 x12 x13 x14 x15 x16 : Int) (x17 : List (List (List T1383.T))) (x18 : List Int) (x19 : List T23b6.T) (x20 : List T713d.T) (x21 x22 : List Int) (r : R) := CallQ 10 (out x1 x2 x3 x4 x5 x6 x7 x8 x9 x10 x11 x12 x13 x14 x15 x16 x17 x18 x19 x20 x21 x22 r)
noncomputable def s1 (x1 : T26b3.T) (x2 : T5477.T) (x3 x4 x5 x6 x7 x8 x9 x10 x11 x12 x13 x14 x15 x16 : Int) (x17 : List (List (List T1383.T))) (x18 : List Int) (x19 : List T23b6.T) (x20 : List T713d.T) (x21 x22 : List Int) (p1 : Bool) : St := ⟨57, [(1, .cv (.one (.ptr 10 0))), (3, .cv (.one (.fn 82 [] [(10, 0)]))), (4, .cv (.one (.bool p1)))], [(.box 13, (encC .any T26b3 x1)), (.box 3, (encC .any T5477 x2)), (.box 13, [.nils, .i x3, .i x4, .i x5, .i x6, .i x7, .i x8, .nils, .nils, .nils, .nils, .nils, .i x9]), (.box 13, [.own 4, .i x10, .i x11, .i x12, .i x13, .i x14, .i x15, .own 5, .own 6, .own 7, .own 8, .own 9, .i x16]), (.buf 38 (.slice (.slice T1383)) x17, []), (.buf 3 (.int .i64) x18, []), (.buf 58 T23b6 x19, []), (.buf 93 T713d x20, []), (.buf 3 (.int .i64) x21, []), (.buf 3 (.int .i64) x22, []), (.box 1, [.ptr 3 0])]⟩
noncomputable def j1 (x1 : T26b3.T) (x2 : T5477.T) (x3 x4 x5 x6 x7 x8 x9 x10 x11 x12 x13 x14 x15 x16 : Int) (x17 : List (List (List T1383.T))) (x18 : List Int) (x19 : List T23b6.T) (x20 : List T713d.T) (x21 x22 : List Int) (k : Nat) (p1 : Bool) : Option R :=
  if p1 = true then
  (i_control_controller_is_1_249.f k x10 x1 x2 x3 x4 x5 x6 x7 x8 x9 x10 x11 x12 x13 x14 x15 x16 x17 x18 x19 x20 x21 x22).bind fun y6 =>
    if (!y6.1) = true then
      (i_slices_ContainsFunc_int_fc1.f k x1 x2 x3 x4 x5 x6 x7 x8 x9 x10 x11 x12 x13 x14 x15 x16 x17 x18 x19 x20 x21 x22).bind fun y9 =>
        if (!y9.1) = true then
          some ((decide ((x19.length : Int) ≤ (100 : Int))), ())
        else
          some (false, ())
    else
      some (false, ())
else
  some (false, ())
theorem j1_ok {r x1 x2 x3 x4 x5 x6 x7 x8 x9 x10 x11 x12 x13 x14 x15 x16 x17 x18 x19 x20 x21 x22} {k p1} (H : j1 x1 x2 x3 x4 x5 x6 x7 x8 x9 x10 x11 x12 x13 x14 x15 x16 x17 x18 x19 x20 x21 x22 k p1 = some r) : Gw P 10 (Q x1 x2 x3 x4 x5 x6 x7 x8 x9 x10 x11 x12 x13 x14 x15 x16 x17 x18 x19 x20 x21 x22 r) (Px c0 15 []) (s1 x1 x2 x3 x4 x5 x6 x7 x8 x9 x10 x11 x12 x13 x14 x15 x16 x17 x18 x19 x20 x21 x22 p1) := by
  unfold j1 at H
  refine GT (tn [1, 3, 4] 11) (RI ?_)
  refine EV V_ok 0 [] 2 az ?_
  rcases of_ite H with ⟨hb5, H⟩ | ⟨hb5, H⟩
  · refine FXO 28 hb5 ?_
    refine EV V_ok 0 [] 6 az ?_
    obtain ⟨y6, e7, H⟩ := of_bind H
    refine CL V_ok i_control_controller_is_1_249.at_ (i_control_controller_is_1_249.ok e7) ?_
    refine EV V_ok 0 [] 3 az ?_
    rcases of_ite H with ⟨hb8, H⟩ | ⟨hb8, H⟩
    · refine FXO 38 hb8 ?_
      refine EV V_ok 0 [] 6 az ?_
      obtain ⟨y9, e10, H⟩ := of_bind H
      refine CL V_ok i_slices_ContainsFunc_int_fc1.at_ (i_slices_ContainsFunc_int_fc1.ok e10) ?_
      refine EV V_ok 0 [] 3 az ?_
      rcases of_ite H with ⟨hb11, H⟩ | ⟨hb11, H⟩
      · refine FXO 48 hb11 ?_
        refine EV V_ok 0 [] 9 az ?_
        refine RN ?_
        obtain rfl := Option.some.inj H
        exact Lq (tn [2] 10)
      · refine FXO 48 hb11 ?_
        refine EV V_ok 0 [] 9 az ?_
        refine RN ?_
        obtain rfl := Option.some.inj H
        exact Lq (tn [2] 10)
    · refine FXO 38 hb8 ?_
      refine EV V_ok 0 [] 10 az ?_
      refine EV V_ok 0 [] 9 az ?_
      refine RN ?_
      obtain rfl := Option.some.inj H
      exact Lq (tn [2] 10)
  · refine FXO 28 hb5 ?_
    refine EV V_ok 0 [] 10 az ?_
    refine EV V_ok 0 [] 10 az ?_
    refine EV V_ok 0 [] 9 az ?_
    refine RN ?_
    obtain rfl := Option.some.inj H
    exact Lq (tn [2] 10)
noncomputable def f (k : Nat) (x1 : T26b3.T) (x2 : T5477.T) (x3 x4 x5 x6 x7 x8 x9 x10 x11 x12 x13 x14 x15 x16 : Int) (x17 : List (List (List T1383.T))) (x18 : List Int) (x19 : List T23b6.T) (x20 : List T713d.T) (x21 x22 : List Int) : Option R :=
  if (x11 == (-1 : Int)) = true then
    (i_control_controller_two_cc3.f k x1 x2 x3 x4 x5 x6 x7 x8 x9 x10 x11 x12 x13 x14 x15 x16 x17 x18 x19 x20 x21 x22).bind fun y2 =>
      if (!y2.1) = true then
        j1 x1 x2 x3 x4 x5 x6 x7 x8 x9 x10 x11 x12 x13 x14 x15 x16 x17 x18 x19 x20 x21 x22 k true
      else
        (i_control_controller_is_1_249.f k x11 x1 x2 x3 x4 x5 x6 x7 x8 x9 x10 x11 x12 x13 x14 x15 x16 x17 x18 x19 x20 x21 x22).bind fun y12 =>
          j1 x1 x2 x3 x4 x5 x6 x7 x8 x9 x10 x11 x12 x13 x14 x15 x16 x17 x18 x19 x20 x21 x22 k (!y12.1)
  else
    (i_control_controller_is_1_249.f k x11 x1 x2 x3 x4 x5 x6 x7 x8 x9 x10 x11 x12 x13 x14 x15 x16 x17 x18 x19 x20 x21 x22).bind fun y14 =>
      j1 x1 x2 x3 x4 x5 x6 x7 x8 x9 x10 x11 x12 x13 x14 x15 x16 x17 x18 x19 x20 x21 x22 k (!y14.1)
theorem f_ok {r k x1 x2 x3 x4 x5 x6 x7 x8 x9 x10 x11 x12 x13 x14 x15 x16 x17 x18 x19 x20 x21 x22} (H : f k x1 x2 x3 x4 x5 x6 x7 x8 x9 x10 x11 x12 x13 x14 x15 x16 x17 x18 x19 x20 x21 x22 = some r) : Gw P 10 (Q x1 x2 x3 x4 x5 x6 x7 x8 x9 x10 x11 x12 x13 x14 x15 x16 x17 x18 x19 x20 x21 x22 r) (Px c0 1 []) (s0 x1 x2 x3 x4 x5 x6 x7 x8 x9 x10 x11 x12 x13 x14 x15 x16 x17 x18 x19 x20 x21 x22) := by
  unfold f at H
  refine Rg V_ok 1 [(0, hb 10)] az ?_
  refine Rg V_ok 0 [] az ?_
  refine GT (tn [1, 3] 11) (RI ?_)
  refine EV V_ok 0 [] 7 az ?_
  rcases of_ite H with ⟨hb1, H⟩ | ⟨hb1, H⟩
  · refine FXO 12 hb1 ?_
    refine EV V_ok 0 [] 1 az ?_
    obtain ⟨y2, e3, H⟩ := of_bind H
    refine CL V_ok i_control_controller_two_cc3.at_ (i_control_controller_two_cc3.ok e3) ?_
    refine EV V_ok 0 [] 3 az ?_
    rcases of_ite H with ⟨hb4, H⟩ | ⟨hb4, H⟩
    · refine FXO 17 hb4 ?_
      refine EV V_ok 0 [] 10 az ?_
      refine RN ?_
      exact Jm (tn [1, 3, 4] 11) (j1_ok H)
    · refine FXO 17 hb4 ?_
      refine EV V_ok 0 [] 6 az ?_
      obtain ⟨y12, e13, H⟩ := of_bind H
      refine CL V_ok i_control_controller_is_1_249.at_ (i_control_controller_is_1_249.ok e13) ?_
      refine EV V_ok 0 [] 3 az ?_
      refine RN ?_
      exact Jm (tn [1, 3, 4] 11) (j1_ok H)
  · refine FXO 12 hb1 ?_
    refine EV V_ok 0 [] 5 az ?_
    refine EV V_ok 0 [] 6 az ?_
    obtain ⟨y14, e15, H⟩ := of_bind H
    refine CL V_ok i_control_controller_is_1_249.at_ (i_control_controller_is_1_249.ok e15) ?_
    refine EV V_ok 0 [] 3 az ?_
    refine RN ?_
    exact Jm (tn [1, 3, 4] 11) (j1_ok H)
theorem ok {r k x1 x2 x3 x4 x5 x6 x7 x8 x9 x10 x11 x12 x13 x14 x15 x16 x17 x18 x19 x20 x21 x22} (H : f k x1 x2 x3 x4 x5 x6 x7 x8 x9 x10 x11 x12 x13 x14 x15 x16 x17 x18 x19 x20 x21 x22 = some r) : W P 10 c0 (s0 x1 x2 x3 x4 x5 x6 x7 x8 x9 x10 x11 x12 x13 x14 x15 x16 x17 x18 x19 x20 x21 x22) (CallQ 10 (out x1 x2 x3 x4 x5 x6 x7 x8 x9 x10 x11 x12 x13 x14 x15 x16 x17 x18 x19 x20 x21 x22 r)) := of_G (f_ok H)
theorem at_ : FnAt P 33 57 c0 Go.Proofs.Tryz.f33.results := fnAt Go.Proofs.Tryz.func33 (by kernel_rfl) (by decide) (by kernel_rfl) (by kernel_rfl)
end i_control_controller_is_ac1
/-! ### function 13, wayfinder/control.Update -/
namespace f_control_Update
noncomputable def c0 : Code := (Go.Proofs.Tryz.f13.body).getD .skip
abbrev ps : Sg := [(true, T26b3), (true, T5477), (false, (.slice (.slice T1383)))]
abbrev rs : Sg := [(true, T26b3), (false, (.int .i64))]
noncomputable def V : Env := { tt := tt, Γ := slk [(43, f_conf_May.S), (44, f_conf_At.S)] }
theorem V_ok : EnvOk P V := { ck := tt_ck, fits := slk_cons f_conf_May.fits (slk_cons f_conf_At.fits (slk_nil)), mixed := mixed }
abbrev R := Tup rs
noncomputable abbrev Q (r : R) : Exit → St → Prop := Qr tt Go.Proofs.Tryz.f13.results ⟨ps, rs, .any, none, fun _ _ => True⟩ r
noncomputable def s1 (a1 : T26b3.T) (a3 : List (List T1383.T)) (p2 : Bool) (p4 p5 p6 p7 p8 p9 p10 p11 p12 p13 p14 p15 p16 p17 : Int) (p18 : List (List (List T1383.T))) (p19 : List Int) (p20 : List T23b6.T) (p21 : List T713d.T) (p22 p23 : List Int) : St := ⟨81, [(2, .cv (.one (.sl (.slice T1383) a3 .any))), (3, .cv (.one (.ptr 0 0))), (6, .cv (.one (.ptr 1 0))), (8, .cv (.one (.ptr 2 0))), (13, .cv (.one (.bool p2)))], [(.box 13, (encC .any T26b3 a1)), (.box 13, [.nils, .i p4, .i p5, .i p6, .i p7, .i p8, .i p9, .nils, .nils, .nils, .nils, .nils, .i p10]), (.box 13, [.own 3, .i p11, .i p12, .i p13, .i p14, .i p15, .i p16, .own 4, .own 5, .own 6, .own 7, .own 8, .i p17]), (.buf 38 (.slice (.slice T1383)) p18, []), (.buf 3 (.int .i64) p19, []), (.buf 58 T23b6 p20, []), (.buf 93 T713d p21, []), (.buf 3 (.int .i64) p22, []), (.buf 3 (.int .i64) p23, [])]⟩
noncomputable def s2 (a3 : List (List T1383.T)) (p2 p3 p4 p5 p6 p7 p8 p9 p10 p11 p12 p13 p14 p15 p16 p17 : Int) (p18 : List (List T1383.T)) (p19 : List (List (List T1383.T))) (p20 : List Int) (p21 : List T23b6.T) (p22 : List T713d.T) (p23 p24 : List Int) : St := ⟨81, [(2, .cv (.one (.sl (.slice T1383) a3 .any))), (6, .cv (.one (.ptr 0 0))), (8, .cv (.one (.ptr 1 0))), (9, .cv (.one (.own 2))), (37, .cv (.one (.i p2))), (38, .cv (.one (.i p3)))], [(.box 13, [.nils, .i p4, .i p5, .i p6, .i p7, .i p8, .i p9, .nils, .nils, .nils, .nils, .nils, .i p10]), (.box 13, [.own 3, .i p11, .i p12, .i p13, .i p14, .i p15, .i p16, .own 4, .own 5, .own 6, .own 7, .own 8, .i p17]), (.buf 89 (.slice T1383) p18, []), (.buf 38 (.slice (.slice T1383)) p19, []), (.buf 3 (.int .i64) p20, []), (.buf 58 T23b6 p21, []), (.buf 93 T713d p22, []), (.buf 3 (.int .i64) p23, []), (.buf 3 (.int .i64) p24, [])]⟩
noncomputable def b2 (a3 : List (List T1383.T)) (L2 : Int → Int → Int → Int → Int → Int → Int → Int → Int → Int → Int → Int → Int → Int → Int → Int → List (List T1383.T) → List (List (List T1383.T)) → List Int → List T23b6.T → List T713d.T → List Int → List Int → Option R) (k : Nat) (p2 p3 p4 p5 p6 p7 p8 p9 p10 p11 p12 p13 p14 p15 p16 p17 : Int) (p18 : List (List T1383.T)) (p19 : List (List (List T1383.T))) (p20 : List Int) (p21 : List T23b6.T) (p22 : List T713d.T) (p23 p24 : List Int) : Option R :=
  if (decide (p3 < p2)) = true then
  (f_conf_At.f k a3 p3).bind fun y9 =>
    if (p18.length + 1) * 24 ≤ 140737488355328 then
      L2 p2 (IntKind.i64.wrap (p3 + 1)) p4 p5 p6 p7 p8 p9 p10 p11 p12 p13 p14 p15 p16 p17 (p18 ++ [y9.1]) p19 p20 p21 p22 p23 p24
    else none
else
  if (p20.length + 1) * 8 ≤ 140737488355328 then
    if (p19.length + 1) * 24 ≤ 140737488355328 then
      some (((p19 ++ [p18]), (p11, (p12, (p13, (p14, (p15, (p16, ((p20 ++ [(p19.length : Int)]), (p21, (p22, (p23, (p24, p17)))))))))))), ((0 : Int), ()))
    else none
  else none
theorem b2_ok {r a3} {L2 : Int → Int → Int → Int → Int → Int → Int → Int → Int → Int → Int → Int → Int → Int → Int → Int → List (List T1383.T) → List (List (List T1383.T)) → List Int → List T23b6.T → List T713d.T → List Int → List Int → Option R} {m2 : Nat} (hL2 : ∀ p2 p3 p4 p5 p6 p7 p8 p9 p10 p11 p12 p13 p14 p15 p16 p17 p18 p19 p20 p21 p22 p23 p24, L2 p2 p3 p4 p5 p6 p7 p8 p9 p10 p11 p12 p13 p14 p15 p16 p17 p18 p19 p20 p21 p22 p23 p24 = some r → Gw P 0 (Q r) (Pb c0 175 [] m2) (s2 a3 p2 p3 p4 p5 p6 p7 p8 p9 p10 p11 p12 p13 p14 p15 p16 p17 p18 p19 p20 p21 p22 p23 p24)) {k p2 p3 p4 p5 p6 p7 p8 p9 p10 p11 p12 p13 p14 p15 p16 p17 p18 p19 p20 p21 p22 p23 p24} (H : b2 a3 L2 k p2 p3 p4 p5 p6 p7 p8 p9 p10 p11 p12 p13 p14 p15 p16 p17 p18 p19 p20 p21 p22 p23 p24 = some r) : Gw P 0 (Q r) (Px c0 303 [m2]) (s2 a3 p2 p3 p4 p5 p6 p7 p8 p9 p10 p11 p12 p13 p14 p15 p16 p17 p18 p19 p20 p21 p22 p23 p24) := by
  unfold b2 at H
  refine Rg V_ok 0 [] az ?_
  rcases of_ite H with ⟨hb8, H⟩ | ⟨hb8, H⟩
  · refine C1 hb8 ?_
    refine Rg V_ok 0 [] az ?_
    obtain ⟨y9, e10, H⟩ := of_bind H
    obtain ⟨n11, H⟩ := of_if H
    refine Rg V_ok 1 [(3, hr f_conf_At.S y9), (5, hb 9)] (ac (f_conf_At.rl e10) (ac n11 az)) ?_
    refine Rg V_ok 0 [] az ?_
    exact Jm (tl [2, 6, 8, 9, 37, 38] [0, 1, 9, 3, 4, 5, 6, 7, 8]) (hL2 p2 (IntKind.i64.wrap (p3 + 1)) p4 p5 p6 p7 p8 p9 p10 p11 p12 p13 p14 p15 p16 p17 (p18 ++ [y9.1]) p19 p20 p21 p22 p23 p24 H)
  · refine C0 hb8 ?_
    refine FZ 2 ?_
    obtain ⟨n12, H⟩ := of_if H
    obtain ⟨n13, H⟩ := of_if H
    refine Rg V_ok 2 [(14, hb 9), (22, hb 10)] (ac n12 (ac n13 az)) ?_
    refine Rg V_ok 0 [] az ?_
    exact Lf (Eq.trans (by kernel_rfl) H)
noncomputable def l2 (a3 : List (List T1383.T)) (k : Nat) : Nat → Int → Int → Int → Int → Int → Int → Int → Int → Int → Int → Int → Int → Int → Int → Int → Int → List (List T1383.T) → List (List (List T1383.T)) → List Int → List T23b6.T → List T713d.T → List Int → List Int → Option R
  | 0, _, _, _, _, _, _, _, _, _, _, _, _, _, _, _, _, _, _, _, _, _, _, _ => none
  | m + 1, p2, p3, p4, p5, p6, p7, p8, p9, p10, p11, p12, p13, p14, p15, p16, p17, p18, p19, p20, p21, p22, p23, p24 => b2 a3 (l2 a3 k m) k p2 p3 p4 p5 p6 p7 p8 p9 p10 p11 p12 p13 p14 p15 p16 p17 p18 p19 p20 p21 p22 p23 p24
theorem l2_ok {r a3} (k : Nat) : ∀ (m2 : Nat) (p2 p3 p4 p5 p6 p7 p8 p9 p10 p11 p12 p13 p14 p15 p16 p17 : Int) (p18 : List (List T1383.T)) (p19 : List (List (List T1383.T))) (p20 : List Int) (p21 : List T23b6.T) (p22 : List T713d.T) (p23 : List Int) (p24 : List Int), l2 a3 k m2 p2 p3 p4 p5 p6 p7 p8 p9 p10 p11 p12 p13 p14 p15 p16 p17 p18 p19 p20 p21 p22 p23 p24 = some r → Gw P 0 (Q r) (Pb c0 175 [] m2) (s2 a3 p2 p3 p4 p5 p6 p7 p8 p9 p10 p11 p12 p13 p14 p15 p16 p17 p18 p19 p20 p21 p22 p23 p24)
  | 0, _, _, _, _, _, _, _, _, _, _, _, _, _, _, _, _, _, _, _, _, _, _, _, H => by cases H
  | m2 + 1, p2, p3, p4, p5, p6, p7, p8, p9, p10, p11, p12, p13, p14, p15, p16, p17, p18, p19, p20, p21, p22, p23, p24, H => SU (by kernel_rfl) (b2_ok (l2_ok k m2) H)
noncomputable def j1 (a1 : T26b3.T) (a3 : List (List T1383.T)) (k : Nat) (p2 : Bool) (p4 p5 p6 p7 p8 p9 p10 p11 p12 p13 p14 p15 p16 p17 : Int) (p18 : List (List (List T1383.T))) (p19 : List Int) (p20 : List T23b6.T) (p21 : List T713d.T) (p22 p23 : List Int) : Option R :=
  if p2 = true then
  some ((p18, (p11, (p12, (p13, (p14, (p15, (p16, (p19, (p20, (p21, (p22, (p23, p17)))))))))))), ((1 : Int), ()))
else
  if (decide ((a1.2.2.2.2.2.2.2.1.length : Int) ≥ (4 : Int))) = true then
    some ((p18, (p11, (p12, (p13, (p14, (p15, (p16, (p19, (p20, (p21, (p22, (p23, p17)))))))))))), ((7 : Int), ()))
  else
    l2 a3 k k (a3.length : Int) 0 p4 p5 p6 p7 p8 p9 p10 p11 p12 p13 p14 p15 p16 p17 [] p18 p19 p20 p21 p22 p23
theorem j1_ok {r a1 a3} {k p2 p4 p5 p6 p7 p8 p9 p10 p11 p12 p13 p14 p15 p16 p17 p18 p19 p20 p21 p22 p23} (H : j1 a1 a3 k p2 p4 p5 p6 p7 p8 p9 p10 p11 p12 p13 p14 p15 p16 p17 p18 p19 p20 p21 p22 p23 = some r) : Gw P 0 (Q r) (Px c0 51 []) (s1 a1 a3 p2 p4 p5 p6 p7 p8 p9 p10 p11 p12 p13 p14 p15 p16 p17 p18 p19 p20 p21 p22 p23) := by
  unfold j1 at H
  rcases of_ite H with ⟨hb6, H⟩ | ⟨hb6, H⟩
  · refine C1 hb6 ?_
    refine Rg V_ok 0 [] az ?_
    exact Lf (Eq.trans (by kernel_rfl) H)
  · refine C0 hb6 ?_
    refine Rg V_ok 0 [] az ?_
    rcases of_ite H with ⟨hb7, H⟩ | ⟨hb7, H⟩
    · refine C1 hb7 ?_
      refine Rg V_ok 0 [] az ?_
      exact Lf (Eq.trans (by kernel_rfl) H)
    · refine C0 hb7 ?_
      refine Rg V_ok 0 [] az ?_
      refine Rg V_ok 0 [] az ?_
      exact LP k (Jm {fz := [], gr := 1, ad := [.ownT 9 9 89 (.slice T1383)], live := [2, 6, 8, 9, 37, 38], src := [some 1, some 2, some 9, some 3, some 4, some 5, some 6, some 7, some 8]} (l2_ok k k (a3.length : Int) 0 p4 p5 p6 p7 p8 p9 p10 p11 p12 p13 p14 p15 p16 p17 [] p18 p19 p20 p21 p22 p23 H))
noncomputable def f (k : Nat) (a1 : T26b3.T) (a2 : T5477.T) (a3 : List (List T1383.T)) : Option R :=
  (i_control_own_c1am.f k a1 a1 a2 (0 : Int) (0 : Int) (0 : Int) (0 : Int) (0 : Int) (0 : Int) (0 : Int)).bind fun y1 =>
    (i_control_controller_is_ac1.f k a1 a2 (0 : Int) (0 : Int) (0 : Int) (0 : Int) (0 : Int) (0 : Int) (0 : Int) y1.1 y1.2.1 y1.2.2.1 y1.2.2.2.1 y1.2.2.2.2.1 y1.2.2.2.2.2.1 y1.2.2.2.2.2.2.1 y1.2.2.2.2.2.2.2.1 y1.2.2.2.2.2.2.2.2.1 y1.2.2.2.2.2.2.2.2.2.1 y1.2.2.2.2.2.2.2.2.2.2.1 y1.2.2.2.2.2.2.2.2.2.2.2.1 y1.2.2.2.2.2.2.2.2.2.2.2.2.1).bind fun y3 =>
      if (!y3.1) = true then
        j1 a1 a3 k true (0 : Int) (0 : Int) (0 : Int) (0 : Int) (0 : Int) (0 : Int) (0 : Int) y1.1 y1.2.1 y1.2.2.1 y1.2.2.2.1 y1.2.2.2.2.1 y1.2.2.2.2.2.1 y1.2.2.2.2.2.2.1 y1.2.2.2.2.2.2.2.1 y1.2.2.2.2.2.2.2.2.1 y1.2.2.2.2.2.2.2.2.2.1 y1.2.2.2.2.2.2.2.2.2.2.1 y1.2.2.2.2.2.2.2.2.2.2.2.1 y1.2.2.2.2.2.2.2.2.2.2.2.2.1
      else
        (f_conf_May.f k a2 a3).bind fun y14 =>
          j1 a1 a3 k (!y14.1) (0 : Int) (0 : Int) (0 : Int) (0 : Int) (0 : Int) (0 : Int) (0 : Int) y1.1 y1.2.1 y1.2.2.1 y1.2.2.2.1 y1.2.2.2.2.1 y1.2.2.2.2.2.1 y1.2.2.2.2.2.2.1 y1.2.2.2.2.2.2.2.1 y1.2.2.2.2.2.2.2.2.1 y1.2.2.2.2.2.2.2.2.2.1 y1.2.2.2.2.2.2.2.2.2.2.1 y1.2.2.2.2.2.2.2.2.2.2.2.1 y1.2.2.2.2.2.2.2.2.2.2.2.2.1
noncomputable def S : Spec := ⟨ps, rs, .any, none, fun x r => ∃ k, f k x.1 x.2.1 x.2.2.1 = some r⟩
theorem rl {k a1 a2 a3 r} (e : f k a1 a2 a3 = some r) : S.rel (a1, a2, a3, ()) r := ⟨k, e⟩
theorem f_ok {r k a1 a2 a3} (H : f k a1 a2 a3 = some r) : Gw P 0 (Q r) (Px c0 1 []) (⟨81, [(0, .cv (.agg (encC .any T26b3 a1))), (1, .cv (.agg (encC .any T5477 a2))), (2, .cv (.one (.sl (.slice T1383) a3 .any)))], []⟩) := by
  unfold f at H
  refine Rg V_ok 3 [(0, hb 0), (1, hb 1), (2, hb 2)] az ?_
  refine GT (tn [2, 3, 4, 6] 3) (RI ?_)
  refine EV V_ok 0 [] 1 az ?_
  obtain ⟨y1, e2, H⟩ := of_bind H
  refine CL V_ok i_control_own_c1am.at_ (i_control_own_c1am.ok e2) ?_
  refine EV V_ok 0 [] 1 az ?_
  refine RN ?_
  refine GT (tn [2, 3, 4, 6, 8] 10) (RI ?_)
  refine EV V_ok 0 [] 1 az ?_
  obtain ⟨y3, e4, H⟩ := of_bind H
  refine CL V_ok i_control_controller_is_ac1.at_ (i_control_controller_is_ac1.ok e4) ?_
  refine EV V_ok 0 [] 2 az ?_
  rcases of_ite H with ⟨hb5, H⟩ | ⟨hb5, H⟩
  · refine FXO 17 hb5 ?_
    refine EV V_ok 0 [] 6 az ?_
    refine RN ?_
    exact Jm (tl [2, 3, 6, 8, 13] [0, 2, 3, 4, 5, 6, 7, 8, 9]) (j1_ok H)
  · refine FXO 17 hb5 ?_
    obtain ⟨y14, e15, H⟩ := of_bind H
    refine EV V_ok 0 [(6, hr f_conf_May.S y14)] 6 (ac (f_conf_May.rl e15) az) ?_
    refine RN ?_
    exact Jm (tl [2, 3, 6, 8, 13] [0, 2, 3, 4, 5, 6, 7, 8, 9]) (j1_ok H)
theorem fits : Fits P 13 S := fits_of V_ok Go.Proofs.Tryz.func13 (by kernel_rfl) (by decide) (by decide) rfl (fun x r ⟨k, H⟩ => of_G (f_ok H))
end f_control_Update
/-! ### function 61, wayfinder/wayfinderref21.two -/
namespace f_ref21_two
noncomputable def c0 : Code := (Go.Proofs.Tryz.f61.body).getD .skip
abbrev ps : Sg := [(true, T26b3)]
abbrev rs : Sg := [(false, .bool)]
noncomputable def V : Env := { tt := tt, Γ := slk [] }
theorem V_ok : EnvOk P V := { ck := tt_ck, fits := slk_nil, mixed := mixed }
abbrev R := Tup rs
noncomputable abbrev Q (r : R) : Exit → St → Prop := Qr tt Go.Proofs.Tryz.f61.results ⟨ps, rs, .any, none, fun _ _ => True⟩ r
noncomputable def f (k : Nat) (a1 : T26b3.T) : Option R :=
  if (a1.2.2.2.2.2.1 == (1 : Int)) = true then
    some (true, ())
  else
    if (a1.2.2.2.2.2.1 == (2 : Int)) = true then
      some (true, ())
    else
      some ((a1.2.2.2.2.2.1 == (3 : Int)), ())
noncomputable def S : Spec := ⟨ps, rs, .any, none, fun x r => ∃ k, f k x.1 = some r⟩
theorem rl {k a1 r} (e : f k a1 = some r) : S.rel (a1, ()) r := ⟨k, e⟩
theorem f_ok {r k a1} (H : f k a1 = some r) : Gw P 0 (Q r) (Px c0 1 []) (⟨16, [(0, .cv (.agg (encC .any T26b3 a1)))], []⟩) := by
  unfold f at H
  refine Rg V_ok 1 [(0, hb 0)] az ?_
  rcases of_ite H with ⟨hb1, H⟩ | ⟨hb1, H⟩
  · refine Rg V_ok 0 [(2, {bv := some true})] (ac hb1 az) ?_
    exact Lf (Eq.trans (by kernel_rfl) H)
  · rcases of_ite H with ⟨hb2, H⟩ | ⟨hb2, H⟩
    · refine Rg V_ok 0 [(2, {bv := some false}), (7, {bv := some true})] (ac hb1 (ac hb2 az)) ?_
      exact Lf (Eq.trans (by kernel_rfl) H)
    · refine Rg V_ok 0 [(2, {bv := some false}), (7, {bv := some false})] (ac hb1 (ac hb2 az)) ?_
      exact Lf (Eq.trans (by kernel_rfl) H)
theorem fits : Fits P 61 S := fits_of V_ok Go.Proofs.Tryz.func61 (by kernel_rfl) (by decide) (by decide) rfl (fun x r ⟨k, H⟩ => of_G (f_ok H))
end f_ref21_two
/-! ### function 36, wayfinder/wayfinderref21.May -/
namespace f_ref21_May
noncomputable def c0 : Code := (Go.Proofs.Tryz.f36.body).getD .skip
abbrev ps : Sg := [(true, T26b3)]
abbrev rs : Sg := [(false, .bool)]
noncomputable def V : Env := { tt := tt, Γ := slk [(61, f_ref21_two.S)] }
theorem V_ok : EnvOk P V := { ck := tt_ck, fits := slk_cons f_ref21_two.fits (slk_nil), mixed := mixed }
abbrev R := Tup rs
noncomputable abbrev Q (r : R) : Exit → St → Prop := Qr tt Go.Proofs.Tryz.f36.results ⟨ps, rs, .any, none, fun _ _ => True⟩ r
noncomputable def s4 (a1 : T26b3.T) (p1 : Bool) : St := ⟨74, [(1, .cv (.one (.ptr 0 0))), (3, .cv (.one (.bool p1)))], [(.box 13, (encC .any T26b3 a1))]⟩
noncomputable def s3 (a1 : T26b3.T) (p1 p2 : Bool) : St := ⟨74, [(1, .cv (.one (.ptr 0 0))), (3, .cv (.one (.bool p1))), (4, .cv (.one (.bool p2)))], [(.box 13, (encC .any T26b3 a1))]⟩
noncomputable def s1 (a1 : T26b3.T) (p1 p2 p3 : Bool) (p4 : Int) : St := ⟨74, [(1, .cv (.one (.ptr 0 0))), (3, .cv (.one (.bool p1))), (4, .cv (.one (.bool p2))), (5, .cv (.one (.bool p3))), (6, .cv (.one (.i p4)))], [(.box 13, (encC .any T26b3 a1))]⟩
noncomputable def s2 (a1 : T26b3.T) (p1 p2 p3 : Bool) (p4 : Int) (p5 : Bool) : St := ⟨74, [(1, .cv (.one (.ptr 0 0))), (3, .cv (.one (.bool p1))), (4, .cv (.one (.bool p2))), (5, .cv (.one (.bool p3))), (6, .cv (.one (.i p4))), (54, .cv (.one (.bool p5)))], [(.box 13, (encC .any T26b3 a1))]⟩
noncomputable def j2 (a1 : T26b3.T) (L1 : Bool → Bool → Bool → Int → Option R) (k : Nat) (p1 p2 p3 : Bool) (p4 : Int) (p5 : Bool) : Option R :=
  if p5 = true then
  some (false, ())
else
  L1 p1 p2 p3 (IntKind.i64.wrap (p4 + 1))
theorem j2_ok {r a1} {L1 : Bool → Bool → Bool → Int → Option R} {m1 : Nat} (hL1 : ∀ p1 p2 p3 p4, L1 p1 p2 p3 p4 = some r → Gw P 0 (Q r) (Pb c0 175 [] m1) (s1 a1 p1 p2 p3 p4)) {k p1 p2 p3 p4 p5} (H : j2 a1 L1 k p1 p2 p3 p4 p5 = some r) : Gw P 0 (Q r) (Px c0 6447 [m1]) (s2 a1 p1 p2 p3 p4 p5) := by
  unfold j2 at H
  rcases of_ite H with ⟨hb9, H⟩ | ⟨hb9, H⟩
  · refine C1 hb9 ?_
    refine Rg V_ok 0 [] az ?_
    exact Lf (Eq.trans (by kernel_rfl) H)
  · refine C0 hb9 ?_
    refine Rg V_ok 0 [] az ?_
    exact Jm (tn [1, 3, 4, 5, 6] 1) (hL1 p1 p2 p3 (IntKind.i64.wrap (p4 + 1)) H)
noncomputable def b1 (a1 : T26b3.T) (L1 : Bool → Bool → Bool → Int → Option R) (k : Nat) (p1 p2 p3 : Bool) (p4 : Int) : Option R :=
  if (decide (p4 < (a1.2.2.2.2.2.2.2.1.length : Int))) = true then
  if 0 ≤ p4 then
    if p4 < (a1.2.2.2.2.2.2.2.1.length : Int) then
      if (decide ((att (.int .i64) a1.2.2.2.2.2.2.2.1 p4) < (0 : Int))) = true then
        j2 a1 L1 k p1 p2 p3 p4 true
      else
        j2 a1 L1 k p1 p2 p3 p4 (decide ((att (.int .i64) a1.2.2.2.2.2.2.2.1 p4) ≥ (a1.1.length : Int)))
    else none
  else none
else
  if p1 = true then
    if p2 = true then
      if (!p3) = true then
        some ((decide ((a1.2.2.2.2.2.2.2.2.1.length : Int) ≤ (100 : Int))), ())
      else
        if (decide (a1.2.2.1 ≥ (0 : Int))) = true then
          some ((decide ((a1.2.2.2.2.2.2.2.2.1.length : Int) ≤ (100 : Int))), ())
        else
          some (false, ())
    else
      some (false, ())
  else
    some (false, ())
theorem b1_ok {r a1} {L1 : Bool → Bool → Bool → Int → Option R} {m1 : Nat} (hL1 : ∀ p1 p2 p3 p4, L1 p1 p2 p3 p4 = some r → Gw P 0 (Q r) (Pb c0 175 [] m1) (s1 a1 p1 p2 p3 p4)) {k p1 p2 p3 p4} (H : b1 a1 L1 k p1 p2 p3 p4 = some r) : Gw P 0 (Q r) (Px c0 303 [m1]) (s1 a1 p1 p2 p3 p4) := by
  unfold b1 at H
  refine Rg V_ok 0 [] az ?_
  rcases of_ite H with ⟨hb5, H⟩ | ⟨hb5, H⟩
  · refine C1 hb5 ?_
    obtain ⟨n6, H⟩ := of_if H
    obtain ⟨n7, H⟩ := of_if H
    rcases of_ite H with ⟨hb8, H⟩ | ⟨hb8, H⟩
    · refine Rg V_ok 0 [(5, {bv := some true})] (ac n6 (ac n7 (ac hb8 az))) ?_
      exact Jm (tn [1, 3, 4, 5, 6, 54] 1) (j2_ok hL1 H)
    · refine Rg V_ok 0 [(5, {bv := some false})] (ac n6 (ac n7 (ac hb8 (ac n6 (ac n7 az))))) ?_
      exact Jm (tn [1, 3, 4, 5, 6, 54] 1) (j2_ok hL1 H)
  · refine C0 hb5 ?_
    rcases of_ite H with ⟨hb10, H⟩ | ⟨hb10, H⟩
    · rcases of_ite H with ⟨hb11, H⟩ | ⟨hb11, H⟩
      · rcases of_ite H with ⟨hb12, H⟩ | ⟨hb12, H⟩
        · refine Rg V_ok 0 [(0, {bv := some true}), (3, {bv := some true}), (6, {bv := some true})] (ac hb10 (ac hb11 (ac hb12 az))) ?_
          exact Lf (Eq.trans (by kernel_rfl) H)
        · rcases of_ite H with ⟨hb13, H⟩ | ⟨hb13, H⟩
          · refine Rg V_ok 0 [(0, {bv := some true}), (3, {bv := some true}), (6, {bv := some false}), (12, {bv := some true})] (ac hb10 (ac hb11 (ac hb12 (ac hb13 az)))) ?_
            exact Lf (Eq.trans (by kernel_rfl) H)
          · refine Rg V_ok 0 [(0, {bv := some true}), (3, {bv := some true}), (6, {bv := some false}), (12, {bv := some false})] (ac hb10 (ac hb11 (ac hb12 (ac hb13 az)))) ?_
            exact Lf (Eq.trans (by kernel_rfl) H)
      · refine Rg V_ok 0 [(0, {bv := some true}), (3, {bv := some false})] (ac hb10 (ac hb11 az)) ?_
        exact Lf (Eq.trans (by kernel_rfl) H)
    · refine Rg V_ok 0 [(0, {bv := some false})] (ac hb10 az) ?_
      exact Lf (Eq.trans (by kernel_rfl) H)
noncomputable def l1 (a1 : T26b3.T) (k : Nat) : Nat → Bool → Bool → Bool → Int → Option R
  | 0, _, _, _, _ => none
  | m + 1, p1, p2, p3, p4 => b1 a1 (l1 a1 k m) k p1 p2 p3 p4
theorem l1_ok {r a1} (k : Nat) : ∀ (m1 : Nat) (p1 p2 p3 : Bool) (p4 : Int), l1 a1 k m1 p1 p2 p3 p4 = some r → Gw P 0 (Q r) (Pb c0 175 [] m1) (s1 a1 p1 p2 p3 p4)
  | 0, _, _, _, _, H => by cases H
  | m1 + 1, p1, p2, p3, p4, H => SU (by kernel_rfl) (b1_ok (l1_ok k m1) H)
noncomputable def j3 (a1 : T26b3.T) (k : Nat) (p1 p2 : Bool) : Option R :=
  (f_ref21_two.f k a1).bind fun y3 =>
  l1 a1 k k p1 p2 y3.1 0
theorem j3_ok {r a1} {k p1 p2} (H : j3 a1 k p1 p2 = some r) : Gw P 0 (Q r) (Px c0 15 []) (s3 a1 p1 p2) := by
  unfold j3 at H
  obtain ⟨y3, e4, H⟩ := of_bind H
  refine Rg V_ok 0 [(1, hr f_ref21_two.S y3)] (ac (f_ref21_two.rl e4) az) ?_
  refine Rg V_ok 0 [] az ?_
  exact LP k (Jm (tn [1, 3, 4, 5, 6] 1) (l1_ok k k p1 p2 y3.1 0 H))
noncomputable def j4 (a1 : T26b3.T) (k : Nat) (p1 : Bool) : Option R :=
  if (decide (a1.2.2.1 ≥ (-1 : Int))) = true then
  j3 a1 k p1 (decide (a1.2.2.1 < (a1.1.length : Int)))
else
  j3 a1 k p1 false
theorem j4_ok {r a1} {k p1} (H : j4 a1 k p1 = some r) : Gw P 0 (Q r) (Px c0 7 []) (s4 a1 p1) := by
  unfold j4 at H
  rcases of_ite H with ⟨hb2, H⟩ | ⟨hb2, H⟩
  · refine Rg V_ok 0 [(2, {bv := some true})] (ac hb2 az) ?_
    exact Jm (tn [1, 3, 4] 1) (j3_ok H)
  · refine Rg V_ok 0 [(2, {bv := some false})] (ac hb2 az) ?_
    exact Jm (tn [1, 3, 4] 1) (j3_ok H)
noncomputable def f (k : Nat) (a1 : T26b3.T) : Option R :=
  if (decide (a1.2.1 ≥ (0 : Int))) = true then
    j4 a1 k (decide (a1.2.1 < (a1.1.length : Int)))
  else
    j4 a1 k false
noncomputable def S : Spec := ⟨ps, rs, .any, none, fun x r => ∃ k, f k x.1 = some r⟩
theorem rl {k a1 r} (e : f k a1 = some r) : S.rel (a1, ()) r := ⟨k, e⟩
theorem f_ok {r k a1} (H : f k a1 = some r) : Gw P 0 (Q r) (Px c0 1 []) (⟨74, [(0, .cv (.agg (encC .any T26b3 a1)))], []⟩) := by
  unfold f at H
  refine Rg V_ok 1 [(0, hb 0)] az ?_
  rcases of_ite H with ⟨hb1, H⟩ | ⟨hb1, H⟩
  · refine Rg V_ok 0 [(2, {bv := some true})] (ac hb1 az) ?_
    exact Jm (tn [1, 3] 1) (j4_ok H)
  · refine Rg V_ok 0 [(2, {bv := some false})] (ac hb1 az) ?_
    exact Jm (tn [1, 3] 1) (j4_ok H)
theorem fits : Fits P 36 S := fits_of V_ok Go.Proofs.Tryz.func36 (by kernel_rfl) (by decide) (by decide) rfl (fun x r ⟨k, H⟩ => of_G (f_ok H))
end f_ref21_May
/-! ### function 135, wayfinder/wayfinderref11.port -/
namespace f_ref11_port
noncomputable def c0 : Code := (Go.Proofs.Tryz.f135.body).getD .skip
abbrev ps : Sg := [(true, T5477), (false, (.int .i64)), (false, (.int .i64))]
abbrev rs : Sg := [(false, .bool)]
noncomputable def V : Env := { tt := tt, Γ := slk [] }
theorem V_ok : EnvOk P V := { ck := tt_ck, fits := slk_nil, mixed := mixed }
abbrev R := Tup rs
noncomputable abbrev Q (r : R) : Exit → St → Prop := Qr tt Go.Proofs.Tryz.f135.results ⟨ps, rs, .any, none, fun _ _ => True⟩ r
noncomputable def f (k : Nat) (a1 : T5477.T) (a2 a3 : Int) : Option R :=
  if (decide (a2 ≥ (0 : Int))) = true then
    if (decide (a2 < a1.1)) = true then
      if (decide (a3 ≥ (0 : Int))) = true then
        some ((decide (a3 < a1.2.1)), ())
      else
        some (false, ())
    else
      some (false, ())
  else
    some (false, ())
noncomputable def S : Spec := ⟨ps, rs, .any, none, fun x r => ∃ k, f k x.1 x.2.1 x.2.2.1 = some r⟩
theorem rl {k a1 a2 a3 r} (e : f k a1 a2 a3 = some r) : S.rel (a1, a2, a3, ()) r := ⟨k, e⟩
theorem f_ok {r k a1 a2 a3} (H : f k a1 a2 a3 = some r) : Gw P 0 (Q r) (Px c0 1 []) (⟨25, [(0, .cv (.agg (encC .any T5477 a1))), (1, .cv (.one (.i a2))), (2, .cv (.one (.i a3)))], []⟩) := by
  unfold f at H
  refine Rg V_ok 1 [(0, hb 0)] az ?_
  rcases of_ite H with ⟨hb1, H⟩ | ⟨hb1, H⟩
  · rcases of_ite H with ⟨hb2, H⟩ | ⟨hb2, H⟩
    · rcases of_ite H with ⟨hb3, H⟩ | ⟨hb3, H⟩
      · refine Rg V_ok 0 [(1, {bv := some true}), (7, {bv := some true}), (11, {bv := some true})] (ac hb1 (ac hb2 (ac hb3 az))) ?_
        exact Lf (Eq.trans (by kernel_rfl) H)
      · refine Rg V_ok 0 [(1, {bv := some true}), (7, {bv := some true}), (11, {bv := some false})] (ac hb1 (ac hb2 (ac hb3 az))) ?_
        exact Lf (Eq.trans (by kernel_rfl) H)
    · refine Rg V_ok 0 [(1, {bv := some true}), (7, {bv := some false})] (ac hb1 (ac hb2 az)) ?_
      exact Lf (Eq.trans (by kernel_rfl) H)
  · refine Rg V_ok 0 [(1, {bv := some false})] (ac hb1 az) ?_
    exact Lf (Eq.trans (by kernel_rfl) H)
theorem fits : Fits P 135 S := fits_of V_ok Go.Proofs.Tryz.func135 (by kernel_rfl) (by decide) (by decide) rfl (fun x r ⟨k, H⟩ => of_G (f_ok H))
end f_ref11_port
/-! ### function 136, wayfinder/wayfinderref11.ends -/
namespace f_ref11_ends
noncomputable def c0 : Code := (Go.Proofs.Tryz.f136.body).getD .skip
abbrev ps : Sg := [(true, T5477), (false, (.int .i64)), (false, (.int .i64))]
abbrev rs : Sg := [(false, (.int .i64))]
noncomputable def V : Env := { tt := tt, Γ := slk [] }
theorem V_ok : EnvOk P V := { ck := tt_ck, fits := slk_nil, mixed := mixed }
abbrev R := Tup rs
noncomputable abbrev Q (r : R) : Exit → St → Prop := Qr tt Go.Proofs.Tryz.f136.results ⟨ps, rs, .any, none, fun _ _ => True⟩ r
noncomputable def s1 (a1 : T5477.T) (a2 a3 p3 p4 : Int) : St := ⟨57, [(1, .cv (.one (.i a2))), (2, .cv (.one (.i a3))), (3, .cv (.one (.ptr 0 0))), (7, .cv (.one (.i p3))), (8, .cv (.one (.i p4)))], [(.box 3, (encC .any T5477 a1))]⟩
noncomputable def s5 (a1 : T5477.T) (a2 a3 p3 p4 : Int) (p5 : Bool) : St := ⟨57, [(1, .cv (.one (.i a2))), (2, .cv (.one (.i a3))), (3, .cv (.one (.ptr 0 0))), (7, .cv (.one (.i p3))), (8, .cv (.one (.i p4))), (33, .cv (.one (.bool p5)))], [(.box 3, (encC .any T5477 a1))]⟩
noncomputable def s4 (a1 : T5477.T) (a2 a3 p3 p4 : Int) : St := ⟨57, [(1, .cv (.one (.i a2))), (2, .cv (.one (.i a3))), (3, .cv (.one (.ptr 0 0))), (7, .cv (.one (.i p3))), (8, .cv (.one (.i p4)))], [(.box 3, (encC .any T5477 a1))]⟩
noncomputable def s3 (a1 : T5477.T) (a2 a3 p3 p4 : Int) (p5 : Bool) : St := ⟨57, [(1, .cv (.one (.i a2))), (2, .cv (.one (.i a3))), (3, .cv (.one (.ptr 0 0))), (7, .cv (.one (.i p3))), (8, .cv (.one (.i p4))), (53, .cv (.one (.bool p5)))], [(.box 3, (encC .any T5477 a1))]⟩
noncomputable def s2 (a1 : T5477.T) (a2 a3 p3 p4 : Int) : St := ⟨57, [(1, .cv (.one (.i a2))), (2, .cv (.one (.i a3))), (3, .cv (.one (.ptr 0 0))), (7, .cv (.one (.i p3))), (8, .cv (.one (.i p4)))], [(.box 3, (encC .any T5477 a1))]⟩
noncomputable def j2 (a1 : T5477.T) (a2 a3 : Int) (L1 : Int → Int → Option R) (k : Nat) (p3 p4 : Int) : Option R :=
  L1 p3 (IntKind.i64.wrap (p4 + 1))
theorem j2_ok {r a1 a2 a3} {L1 : Int → Int → Option R} {m1 : Nat} (hL1 : ∀ p3 p4, L1 p3 p4 = some r → Gw P 0 (Q r) (Pb c0 43 [] m1) (s1 a1 a2 a3 p3 p4)) {k p3 p4} (H : j2 a1 a2 a3 L1 k p3 p4 = some r) : Gw P 0 (Q r) (Px c0 459 [m1]) (s2 a1 a2 a3 p3 p4) := by
  unfold j2 at H
  refine Rg V_ok 0 [] az ?_
  exact Jm (tn [1, 2, 3, 7, 8] 1) (hL1 p3 (IntKind.i64.wrap (p4 + 1)) H)
noncomputable def j3 (a1 : T5477.T) (a2 a3 : Int) (L1 : Int → Int → Option R) (k : Nat) (p3 p4 : Int) (p5 : Bool) : Option R :=
  if p5 = true then
  j2 a1 a2 a3 L1 k (IntKind.i64.wrap (p3 + 1)) p4
else
  j2 a1 a2 a3 L1 k p3 p4
theorem j3_ok {r a1 a2 a3} {L1 : Int → Int → Option R} {m1 : Nat} (hL1 : ∀ p3 p4, L1 p3 p4 = some r → Gw P 0 (Q r) (Pb c0 43 [] m1) (s1 a1 a2 a3 p3 p4)) {k p3 p4 p5} (H : j3 a1 a2 a3 L1 k p3 p4 p5 = some r) : Gw P 0 (Q r) (Px c0 3659 [m1]) (s3 a1 a2 a3 p3 p4 p5) := by
  unfold j3 at H
  rcases of_ite H with ⟨hb9, H⟩ | ⟨hb9, H⟩
  · refine C1 hb9 ?_
    refine Rg V_ok 0 [] az ?_
    exact Jm (tn [1, 2, 3, 7, 8] 1) (j2_ok hL1 H)
  · refine C0 hb9 ?_
    exact Jm (tn [1, 2, 3, 7, 8] 1) (j2_ok hL1 H)
noncomputable def j4 (a1 : T5477.T) (a2 a3 : Int) (L1 : Int → Int → Option R) (k : Nat) (p3 p4 : Int) : Option R :=
  if 0 ≤ p4 then
  if p4 < (a1.2.2.length : Int) then
    if (((((att Td285 a1.2.2 p4).2).2).1) == a2) = true then
      j3 a1 a2 a3 L1 k p3 p4 (((((att Td285 a1.2.2 p4).2).2).2) == a3)
    else
      j3 a1 a2 a3 L1 k p3 p4 false
  else none
else none
theorem j4_ok {r a1 a2 a3} {L1 : Int → Int → Option R} {m1 : Nat} (hL1 : ∀ p3 p4, L1 p3 p4 = some r → Gw P 0 (Q r) (Pb c0 43 [] m1) (s1 a1 a2 a3 p3 p4)) {k p3 p4} (H : j4 a1 a2 a3 L1 k p3 p4 = some r) : Gw P 0 (Q r) (Px c0 1611 [m1]) (s4 a1 a2 a3 p3 p4) := by
  unfold j4 at H
  obtain ⟨n6, H⟩ := of_if H
  obtain ⟨n7, H⟩ := of_if H
  rcases of_ite H with ⟨hb8, H⟩ | ⟨hb8, H⟩
  · refine Rg V_ok 0 [(7, {bv := some true})] (ac n6 (ac n7 (ac hb8 (ac n6 (ac n7 az))))) ?_
    exact Jm (tn [1, 2, 3, 7, 8, 53] 1) (j3_ok hL1 H)
  · refine Rg V_ok 0 [(7, {bv := some false})] (ac n6 (ac n7 (ac hb8 az))) ?_
    exact Jm (tn [1, 2, 3, 7, 8, 53] 1) (j3_ok hL1 H)
noncomputable def j5 (a1 : T5477.T) (a2 a3 : Int) (L1 : Int → Int → Option R) (k : Nat) (p3 p4 : Int) (p5 : Bool) : Option R :=
  if p5 = true then
  j4 a1 a2 a3 L1 k (IntKind.i64.wrap (p3 + 1)) p4
else
  j4 a1 a2 a3 L1 k p3 p4
theorem j5_ok {r a1 a2 a3} {L1 : Int → Int → Option R} {m1 : Nat} (hL1 : ∀ p3 p4, L1 p3 p4 = some r → Gw P 0 (Q r) (Pb c0 43 [] m1) (s1 a1 a2 a3 p3 p4)) {k p3 p4 p5} (H : j5 a1 a2 a3 L1 k p3 p4 p5 = some r) : Gw P 0 (Q r) (Px c0 3147 [m1]) (s5 a1 a2 a3 p3 p4 p5) := by
  unfold j5 at H
  rcases of_ite H with ⟨hb5, H⟩ | ⟨hb5, H⟩
  · refine C1 hb5 ?_
    refine Rg V_ok 0 [] az ?_
    exact Jm (tn [1, 2, 3, 7, 8] 1) (j4_ok hL1 H)
  · refine C0 hb5 ?_
    exact Jm (tn [1, 2, 3, 7, 8] 1) (j4_ok hL1 H)
noncomputable def b1 (a1 : T5477.T) (a2 a3 : Int) (L1 : Int → Int → Option R) (k : Nat) (p3 p4 : Int) : Option R :=
  if (decide (p4 < (a1.2.2.length : Int))) = true then
  if 0 ≤ p4 then
    if p4 < (a1.2.2.length : Int) then
      if (((att Td285 a1.2.2 p4).1) == a2) = true then
        j5 a1 a2 a3 L1 k p3 p4 ((((att Td285 a1.2.2 p4).2).1) == a3)
      else
        j5 a1 a2 a3 L1 k p3 p4 false
    else none
  else none
else
  some (p3, ())
theorem b1_ok {r a1 a2 a3} {L1 : Int → Int → Option R} {m1 : Nat} (hL1 : ∀ p3 p4, L1 p3 p4 = some r → Gw P 0 (Q r) (Pb c0 43 [] m1) (s1 a1 a2 a3 p3 p4)) {k p3 p4} (H : b1 a1 a2 a3 L1 k p3 p4 = some r) : Gw P 0 (Q r) (Px c0 75 [m1]) (s1 a1 a2 a3 p3 p4) := by
  unfold b1 at H
  refine Rg V_ok 0 [] az ?_
  rcases of_ite H with ⟨hb1, H⟩ | ⟨hb1, H⟩
  · refine C1 hb1 ?_
    obtain ⟨n2, H⟩ := of_if H
    obtain ⟨n3, H⟩ := of_if H
    rcases of_ite H with ⟨hb4, H⟩ | ⟨hb4, H⟩
    · refine Rg V_ok 0 [(7, {bv := some true})] (ac n2 (ac n3 (ac hb4 (ac n2 (ac n3 az))))) ?_
      exact Jm (tn [1, 2, 3, 7, 8, 33] 1) (j5_ok hL1 H)
    · refine Rg V_ok 0 [(7, {bv := some false})] (ac n2 (ac n3 (ac hb4 az))) ?_
      exact Jm (tn [1, 2, 3, 7, 8, 33] 1) (j5_ok hL1 H)
  · refine C0 hb1 ?_
    refine Rg V_ok 0 [] az ?_
    exact Lf (Eq.trans (by kernel_rfl) H)
noncomputable def l1 (a1 : T5477.T) (a2 a3 : Int) (k : Nat) : Nat → Int → Int → Option R
  | 0, _, _ => none
  | m + 1, p3, p4 => b1 a1 a2 a3 (l1 a1 a2 a3 k m) k p3 p4
theorem l1_ok {r a1 a2 a3} (k : Nat) : ∀ (m1 : Nat) (p3 : Int) (p4 : Int), l1 a1 a2 a3 k m1 p3 p4 = some r → Gw P 0 (Q r) (Pb c0 43 [] m1) (s1 a1 a2 a3 p3 p4)
  | 0, _, _, H => by cases H
  | m1 + 1, p3, p4, H => SU (by kernel_rfl) (b1_ok (l1_ok k m1) H)
noncomputable def f (k : Nat) (a1 : T5477.T) (a2 a3 : Int) : Option R :=
  l1 a1 a2 a3 k k 0 0
noncomputable def S : Spec := ⟨ps, rs, .any, none, fun x r => ∃ k, f k x.1 x.2.1 x.2.2.1 = some r⟩
theorem rl {k a1 a2 a3 r} (e : f k a1 a2 a3 = some r) : S.rel (a1, a2, a3, ()) r := ⟨k, e⟩
theorem f_ok {r k a1 a2 a3} (H : f k a1 a2 a3 = some r) : Gw P 0 (Q r) (Px c0 1 []) (⟨57, [(0, .cv (.agg (encC .any T5477 a1))), (1, .cv (.one (.i a2))), (2, .cv (.one (.i a3)))], []⟩) := by
  unfold f at H
  refine Rg V_ok 1 [(0, hb 0)] az ?_
  refine Rg V_ok 0 [] az ?_
  refine Rg V_ok 0 [] az ?_
  exact LP k (Jm (tn [1, 2, 3, 7, 8] 1) (l1_ok k k 0 0 H))
theorem fits : Fits P 136 S := fits_of V_ok Go.Proofs.Tryz.func136 (by kernel_rfl) (by decide) (by decide) rfl (fun x r ⟨k, H⟩ => of_G (f_ok H))
end f_ref11_ends
/-! ### function 95, wayfinder/wayfinderref11.May -/
namespace f_ref11_May
noncomputable def c0 : Code := (Go.Proofs.Tryz.f95.body).getD .skip
abbrev ps : Sg := [(true, T5477)]
abbrev rs : Sg := [(false, .bool)]
noncomputable def V : Env := { tt := tt, Γ := slk [(135, f_ref11_port.S), (136, f_ref11_ends.S)] }
theorem V_ok : EnvOk P V := { ck := tt_ck, fits := slk_cons f_ref11_port.fits (slk_cons f_ref11_ends.fits (slk_nil)), mixed := mixed }
abbrev R := Tup rs
noncomputable abbrev Q (r : R) : Exit → St → Prop := Qr tt Go.Proofs.Tryz.f95.results ⟨ps, rs, .any, none, fun _ _ => True⟩ r
noncomputable def s1 (a1 : T5477.T) (p1 : Bool) : St := ⟨79, [(1, .cv (.one (.ptr 0 0))), (30, .cv (.one (.bool p1)))], [(.box 3, (encC .any T5477 a1))]⟩
noncomputable def s2 (a1 : T5477.T) (p1 : Int) : St := ⟨79, [(1, .cv (.one (.ptr 0 0))), (3, .cv (.one (.i p1)))], [(.box 3, (encC .any T5477 a1))]⟩
noncomputable def s3 (a1 : T5477.T) (p1 : Int) (p2 : Bool) : St := ⟨79, [(1, .cv (.one (.ptr 0 0))), (3, .cv (.one (.i p1))), (78, .cv (.one (.bool p2)))], [(.box 3, (encC .any T5477 a1))]⟩
noncomputable def j3 (a1 : T5477.T) (L2 : Int → Option R) (k : Nat) (p1 : Int) (p2 : Bool) : Option R :=
  if p2 = true then
  some (false, ())
else
  L2 (IntKind.i64.wrap (p1 + 1))
theorem j3_ok {r a1} {L2 : Int → Option R} {m2 : Nat} (hL2 : ∀ p1, L2 p1 = some r → Gw P 0 (Q r) (Pb c0 43 [] m2) (s2 a1 p1)) {k p1 p2} (H : j3 a1 L2 k p1 p2 = some r) : Gw P 0 (Q r) (Px c0 15947 [m2]) (s3 a1 p1 p2) := by
  unfold j3 at H
  rcases of_ite H with ⟨hb13, H⟩ | ⟨hb13, H⟩
  · refine C1 hb13 ?_
    refine Rg V_ok 0 [] az ?_
    exact Lf (Eq.trans (by kernel_rfl) H)
  · refine C0 hb13 ?_
    refine Rg V_ok 0 [] az ?_
    exact Jm (tn [1, 3] 1) (hL2 (IntKind.i64.wrap (p1 + 1)) H)
noncomputable def b2 (a1 : T5477.T) (L2 : Int → Option R) (k : Nat) (p1 : Int) : Option R :=
  if (decide (p1 < (a1.2.2.length : Int))) = true then
  if 0 ≤ p1 then
    if p1 < (a1.2.2.length : Int) then
      (f_ref11_port.f k a1 ((att Td285 a1.2.2 p1).1) (((att Td285 a1.2.2 p1).2).1)).bind fun y6 =>
        (f_ref11_port.f k a1 ((((att Td285 a1.2.2 p1).2).2).1) ((((att Td285 a1.2.2 p1).2).2).2)).bind fun y8 =>
          if (!y6.1) = true then
            j3 a1 L2 k p1 true
          else
            if (!y8.1) = true then
              j3 a1 L2 k p1 true
            else
              (f_ref11_ends.f k a1 ((att Td285 a1.2.2 p1).1) (((att Td285 a1.2.2 p1).2).1)).bind fun y10 =>
                if (y10.1 != (1 : Int)) = true then
                  j3 a1 L2 k p1 true
                else
                  (f_ref11_ends.f k a1 ((((att Td285 a1.2.2 p1).2).2).1) ((((att Td285 a1.2.2 p1).2).2).2)).bind fun y11 =>
                    j3 a1 L2 k p1 (y11.1 != (1 : Int))
    else none
  else none
else
  some (true, ())
theorem b2_ok {r a1} {L2 : Int → Option R} {m2 : Nat} (hL2 : ∀ p1, L2 p1 = some r → Gw P 0 (Q r) (Pb c0 43 [] m2) (s2 a1 p1)) {k p1} (H : b2 a1 L2 k p1 = some r) : Gw P 0 (Q r) (Px c0 75 [m2]) (s2 a1 p1) := by
  unfold b2 at H
  refine Rg V_ok 0 [] az ?_
  rcases of_ite H with ⟨hb3, H⟩ | ⟨hb3, H⟩
  · refine C1 hb3 ?_
    obtain ⟨n4, H⟩ := of_if H
    obtain ⟨n5, H⟩ := of_if H
    refine Rg V_ok 1 [(5, hb 1)] (ac n4 (ac n5 az)) ?_
    obtain ⟨y6, e7, H⟩ := of_bind H
    refine Rg V_ok 0 [(5, hr f_ref11_port.S y6)] (ac (f_ref11_port.rl e7) az) ?_
    obtain ⟨y8, e9, H⟩ := of_bind H
    refine Rg V_ok 0 [(5, hr f_ref11_port.S y8)] (ac (f_ref11_port.rl e9) az) ?_
    rcases of_ite H with ⟨hb12, H⟩ | ⟨hb12, H⟩
    · refine Rg V_ok 0 [(1, {bv := some true})] (ac hb12 az) ?_
      exact Jm (tn [1, 3, 78] 1) (j3_ok hL2 H)
    · rcases of_ite H with ⟨hb14, H⟩ | ⟨hb14, H⟩
      · refine Rg V_ok 0 [(1, {bv := some false}), (5, {bv := some true})] (ac hb12 (ac hb14 az)) ?_
        exact Jm (tn [1, 3, 78] 1) (j3_ok hL2 H)
      · obtain ⟨y10, e15, H⟩ := of_bind H
        rcases of_ite H with ⟨hb16, H⟩ | ⟨hb16, H⟩
        · refine Rg V_ok 0 [(1, {bv := some false}), (5, {bv := some false}), (12, hr f_ref11_ends.S y10), (14, {bv := some true})] (ac hb12 (ac hb14 (ac (f_ref11_ends.rl e15) (ac hb16 az)))) ?_
          exact Jm (tn [1, 3, 78] 1) (j3_ok hL2 H)
        · obtain ⟨y11, e17, H⟩ := of_bind H
          refine Rg V_ok 0 [(1, {bv := some false}), (5, {bv := some false}), (12, hr f_ref11_ends.S y10), (14, {bv := some false}), (21, hr f_ref11_ends.S y11)] (ac hb12 (ac hb14 (ac (f_ref11_ends.rl e15) (ac hb16 (ac (f_ref11_ends.rl e17) az))))) ?_
          exact Jm (tn [1, 3, 78] 1) (j3_ok hL2 H)
  · refine C0 hb3 ?_
    refine Rg V_ok 0 [] az ?_
    exact Lf (Eq.trans (by kernel_rfl) H)
noncomputable def l2 (a1 : T5477.T) (k : Nat) : Nat → Int → Option R
  | 0, _ => none
  | m + 1, p1 => b2 a1 (l2 a1 k m) k p1
theorem l2_ok {r a1} (k : Nat) : ∀ (m2 : Nat) (p1 : Int), l2 a1 k m2 p1 = some r → Gw P 0 (Q r) (Pb c0 43 [] m2) (s2 a1 p1)
  | 0, _, H => by cases H
  | m2 + 1, p1, H => SU (by kernel_rfl) (b2_ok (l2_ok k m2) H)
noncomputable def j1 (a1 : T5477.T) (k : Nat) (p1 : Bool) : Option R :=
  if p1 = true then
  some (false, ())
else
  l2 a1 k k 0
theorem j1_ok {r a1} {k p1} (H : j1 a1 k p1 = some r) : Gw P 0 (Q r) (Px c0 13 []) (s1 a1 p1) := by
  unfold j1 at H
  rcases of_ite H with ⟨hb2, H⟩ | ⟨hb2, H⟩
  · refine C1 hb2 ?_
    refine Rg V_ok 0 [] az ?_
    exact Lf (Eq.trans (by kernel_rfl) H)
  · refine C0 hb2 ?_
    refine Rg V_ok 0 [] az ?_
    exact LP k (Jm (tn [1, 3] 1) (l2_ok k k 0 H))
noncomputable def f (k : Nat) (a1 : T5477.T) : Option R :=
  if (decide (a1.1 < (1 : Int))) = true then
    j1 a1 k true
  else
    if (decide (a1.1 > (6 : Int))) = true then
      j1 a1 k true
    else
      if (decide (a1.2.1 < (1 : Int))) = true then
        j1 a1 k true
      else
        if (decide (a1.2.1 > (8 : Int))) = true then
          j1 a1 k true
        else
          j1 a1 k (decide ((a1.2.2.length : Int) > (12 : Int)))
noncomputable def S : Spec := ⟨ps, rs, .any, none, fun x r => ∃ k, f k x.1 = some r⟩
theorem rl {k a1 r} (e : f k a1 = some r) : S.rel (a1, ()) r := ⟨k, e⟩
theorem f_ok {r k a1} (H : f k a1 = some r) : Gw P 0 (Q r) (Px c0 1 []) (⟨79, [(0, .cv (.agg (encC .any T5477 a1)))], []⟩) := by
  unfold f at H
  refine Rg V_ok 1 [(0, hb 0)] az ?_
  rcases of_ite H with ⟨hb1, H⟩ | ⟨hb1, H⟩
  · refine Rg V_ok 0 [(2, {bv := some true})] (ac hb1 az) ?_
    exact Jm (tn [1, 30] 1) (j1_ok H)
  · rcases of_ite H with ⟨hb18, H⟩ | ⟨hb18, H⟩
    · refine Rg V_ok 0 [(2, {bv := some false}), (7, {bv := some true})] (ac hb1 (ac hb18 az)) ?_
      exact Jm (tn [1, 30] 1) (j1_ok H)
    · rcases of_ite H with ⟨hb19, H⟩ | ⟨hb19, H⟩
      · refine Rg V_ok 0 [(2, {bv := some false}), (7, {bv := some false}), (12, {bv := some true})] (ac hb1 (ac hb18 (ac hb19 az))) ?_
        exact Jm (tn [1, 30] 1) (j1_ok H)
      · rcases of_ite H with ⟨hb20, H⟩ | ⟨hb20, H⟩
        · refine Rg V_ok 0 [(2, {bv := some false}), (7, {bv := some false}), (12, {bv := some false}), (17, {bv := some true})] (ac hb1 (ac hb18 (ac hb19 (ac hb20 az)))) ?_
          exact Jm (tn [1, 30] 1) (j1_ok H)
        · refine Rg V_ok 0 [(2, {bv := some false}), (7, {bv := some false}), (12, {bv := some false}), (17, {bv := some false})] (ac hb1 (ac hb18 (ac hb19 (ac hb20 az)))) ?_
          exact Jm (tn [1, 30] 1) (j1_ok H)
theorem fits : Fits P 95 S := fits_of V_ok Go.Proofs.Tryz.func95 (by kernel_rfl) (by decide) (by decide) rfl (fun x r ⟨k, H⟩ => of_G (f_ok H))
end f_ref11_May
/-! ### function 164, wayfinder/wayfinderref01.Bit -/
namespace f_ref01_Bit
noncomputable def c0 : Code := (Go.Proofs.Tryz.f164.body).getD .skip
abbrev ps : Sg := [(false, (.int .i64)), (false, (.int .i64))]
abbrev rs : Sg := [(false, (.int .i64))]
noncomputable def V : Env := { tt := tt, Γ := slk [] }
theorem V_ok : EnvOk P V := { ck := tt_ck, fits := slk_nil, mixed := mixed }
abbrev R := Tup rs
noncomputable abbrev Q (r : R) : Exit → St → Prop := Qr tt Go.Proofs.Tryz.f164.results ⟨ps, rs, .any, none, fun _ _ => True⟩ r
noncomputable def s1 (p1 p2 : Int) (p3 : Bool) : St := ⟨24, [(0, .cv (.one (.i p1))), (1, .cv (.one (.i p2))), (12, .cv (.one (.bool p3)))], []⟩
noncomputable def s2 (p1 p2 p3 : Int) : St := ⟨24, [(1, .cv (.one (.i p1))), (5, .cv (.one (.i p2))), (6, .cv (.one (.i p3)))], []⟩
noncomputable def b2 (L2 : Int → Int → Int → Option R) (k : Nat) (p1 p2 p3 : Int) : Option R :=
  if (decide (p3 > p1)) = true then
  L2 p1 (IntKind.i64.wrap (Int.tdiv p2 2)) (IntKind.i64.wrap (p3 - 1))
else
  some ((Int.tmod p2 2), ())
theorem b2_ok {r} {L2 : Int → Int → Int → Option R} {m2 : Nat} (hL2 : ∀ p1 p2 p3, L2 p1 p2 p3 = some r → Gw P 0 (Q r) (Pb c0 87 [] m2) (s2 p1 p2 p3)) {k p1 p2 p3} (H : b2 L2 k p1 p2 p3 = some r) : Gw P 0 (Q r) (Px c0 151 [m2]) (s2 p1 p2 p3) := by
  unfold b2 at H
  refine Rg V_ok 0 [] az ?_
  rcases of_ite H with ⟨hb3, H⟩ | ⟨hb3, H⟩
  · refine C1 hb3 ?_
    refine Rg V_ok 0 [] (ac (show (2 : Int) ≠ 0 by decide) az) ?_
    refine Rg V_ok 0 [] az ?_
    exact Jm (tn [1, 5, 6] 0) (hL2 p1 (IntKind.i64.wrap (Int.tdiv p2 2)) (IntKind.i64.wrap (p3 - 1)) H)
  · refine C0 hb3 ?_
    refine Rg V_ok 0 [] (ac (show (2 : Int) ≠ 0 by decide) az) ?_
    exact Lf (Eq.trans (by kernel_rfl) H)
noncomputable def l2 (k : Nat) : Nat → Int → Int → Int → Option R
  | 0, _, _, _ => none
  | m + 1, p1, p2, p3 => b2 (l2 k m) k p1 p2 p3
theorem l2_ok {r} (k : Nat) : ∀ (m2 : Nat) (p1 p2 : Int) (p3 : Int), l2 k m2 p1 p2 p3 = some r → Gw P 0 (Q r) (Pb c0 87 [] m2) (s2 p1 p2 p3)
  | 0, _, _, _, H => by cases H
  | m2 + 1, p1, p2, p3, H => SU (by kernel_rfl) (b2_ok (l2_ok k m2) H)
noncomputable def j1 (k : Nat) (p1 p2 : Int) (p3 : Bool) : Option R :=
  if p3 = true then
  some ((0 : Int), ())
else
  l2 k k p2 (IntKind.i64.wrap (((BitVec.ofInt IntKind.i64.bits p1 &&& BitVec.ofInt IntKind.i64.bits 4294967295).toNat : Int))) 31
theorem j1_ok {r} {k p1 p2 p3} (H : j1 k p1 p2 p3 = some r) : Gw P 0 (Q r) (Px c0 13 []) (s1 p1 p2 p3) := by
  unfold j1 at H
  rcases of_ite H with ⟨hb2, H⟩ | ⟨hb2, H⟩
  · refine C1 hb2 ?_
    refine Rg V_ok 0 [] az ?_
    exact Lf (Eq.trans (by kernel_rfl) H)
  · refine C0 hb2 ?_
    refine Rg V_ok 0 [] az ?_
    refine Rg V_ok 0 [] az ?_
    exact LP k (Jm (tn [1, 5, 6] 0) (l2_ok k k p2 (IntKind.i64.wrap (((BitVec.ofInt IntKind.i64.bits p1 &&& BitVec.ofInt IntKind.i64.bits 4294967295).toNat : Int))) 31 H))
noncomputable def f (k : Nat) (a1 a2 : Int) : Option R :=
  if (decide (a2 < (0 : Int))) = true then
    j1 k a1 a2 true
  else
    j1 k a1 a2 (decide (a2 > (31 : Int)))
noncomputable def S : Spec := ⟨ps, rs, .any, none, fun x r => ∃ k, f k x.1 x.2.1 = some r⟩
theorem rl {k a1 a2 r} (e : f k a1 a2 = some r) : S.rel (a1, a2, ()) r := ⟨k, e⟩
theorem f_ok {r k a1 a2} (H : f k a1 a2 = some r) : Gw P 0 (Q r) (Px c0 1 []) (⟨24, [(0, .cv (.one (.i a1))), (1, .cv (.one (.i a2)))], []⟩) := by
  unfold f at H
  refine Rg V_ok 0 [] az ?_
  rcases of_ite H with ⟨hb1, H⟩ | ⟨hb1, H⟩
  · refine Rg V_ok 0 [(1, {bv := some true})] (ac hb1 az) ?_
    exact Jm (tn [0, 1, 12] 0) (j1_ok H)
  · refine Rg V_ok 0 [(1, {bv := some false})] (ac hb1 az) ?_
    exact Jm (tn [0, 1, 12] 0) (j1_ok H)
theorem fits : Fits P 164 S := fits_of V_ok Go.Proofs.Tryz.func164 (by kernel_rfl) (by decide) (by decide) rfl (fun x r ⟨k, H⟩ => of_G (f_ok H))
end f_ref01_Bit
/-! ### function 159, wayfinder/wayfinderref01.May -/
namespace f_ref01_May
noncomputable def c0 : Code := (Go.Proofs.Tryz.f159.body).getD .skip
abbrev ps : Sg := [(true, T713d)]
abbrev rs : Sg := [(false, .bool)]
noncomputable def V : Env := { tt := tt, Γ := slk [(164, f_ref01_Bit.S)] }
theorem V_ok : EnvOk P V := { ck := tt_ck, fits := slk_cons f_ref01_Bit.fits (slk_nil), mixed := mixed }
abbrev R := Tup rs
noncomputable abbrev Q (r : R) : Exit → St → Prop := Qr tt Go.Proofs.Tryz.f159.results ⟨ps, rs, .any, none, fun _ _ => True⟩ r
noncomputable def s1 (p1 : Bool) (p2 : T713d.T) : St := ⟨33, [(1, .cv (.one (.ptr 0 0))), (21, .cv (.one (.bool p1)))], [(.box 2, [.i p2.1, .i p2.2])]⟩
noncomputable def s2 (p1 : Int) (p2 : T713d.T) : St := ⟨33, [(1, .cv (.one (.ptr 0 0))), (3, .cv (.one (.i p1)))], [(.box 2, [.i p2.1, .i p2.2])]⟩
noncomputable def b2 (L2 : Int → T713d.T → Option R) (k : Nat) (p1 : Int) (p2 : T713d.T) : Option R :=
  if (decide (p1 < (32 : Int))) = true then
  (f_ref01_Bit.f k p2.1 p1).bind fun y4 =>
    if (y4.1 == (1 : Int)) = true then
      some (false, ())
    else
      L2 (IntKind.i64.wrap (p1 + 1)) p2
else
  some (true, ())
theorem b2_ok {r} {L2 : Int → T713d.T → Option R} {m2 : Nat} (hL2 : ∀ p1 p2, L2 p1 p2 = some r → Gw P 0 (Q r) (Pb c0 43 [] m2) (s2 p1 p2)) {k p1 p2} (H : b2 L2 k p1 p2 = some r) : Gw P 0 (Q r) (Px c0 75 [m2]) (s2 p1 p2) := by
  unfold b2 at H
  refine Rg V_ok 0 [] az ?_
  rcases of_ite H with ⟨hb3, H⟩ | ⟨hb3, H⟩
  · refine C1 hb3 ?_
    obtain ⟨y4, e5, H⟩ := of_bind H
    refine Rg V_ok 0 [(3, hr f_ref01_Bit.S y4)] (ac (f_ref01_Bit.rl e5) az) ?_
    rcases of_ite H with ⟨hb6, H⟩ | ⟨hb6, H⟩
    · refine C1 hb6 ?_
      refine Rg V_ok 0 [] az ?_
      exact Lf (Eq.trans (by kernel_rfl) H)
    · refine C0 hb6 ?_
      refine Rg V_ok 0 [] az ?_
      exact Jm (tn [1, 3] 1) (hL2 (IntKind.i64.wrap (p1 + 1)) p2 H)
  · refine C0 hb3 ?_
    refine Rg V_ok 0 [] az ?_
    exact Lf (Eq.trans (by kernel_rfl) H)
noncomputable def l2 (k : Nat) : Nat → Int → T713d.T → Option R
  | 0, _, _ => none
  | m + 1, p1, p2 => b2 (l2 k m) k p1 p2
theorem l2_ok {r} (k : Nat) : ∀ (m2 : Nat) (p1 : Int) (p2 : T713d.T), l2 k m2 p1 p2 = some r → Gw P 0 (Q r) (Pb c0 43 [] m2) (s2 p1 p2)
  | 0, _, _, H => by cases H
  | m2 + 1, p1, p2, H => SU (by kernel_rfl) (b2_ok (l2_ok k m2) H)
noncomputable def j1 (k : Nat) (p1 : Bool) (p2 : T713d.T) : Option R :=
  if p1 = true then
  some (false, ())
else
  l2 k k p2.2 p2
theorem j1_ok {r} {k p1 p2} (H : j1 k p1 p2 = some r) : Gw P 0 (Q r) (Px c0 13 []) (s1 p1 p2) := by
  unfold j1 at H
  rcases of_ite H with ⟨hb2, H⟩ | ⟨hb2, H⟩
  · refine C1 hb2 ?_
    refine Rg V_ok 0 [] az ?_
    exact Lf (Eq.trans (by kernel_rfl) H)
  · refine C0 hb2 ?_
    refine Rg V_ok 0 [] az ?_
    exact LP k (Jm (tn [1, 3] 1) (l2_ok k k p2.2 p2 H))
noncomputable def f (k : Nat) (a1 : T713d.T) : Option R :=
  if (decide (a1.2 < (0 : Int))) = true then
    j1 k true a1
  else
    if (decide (a1.2 > (32 : Int))) = true then
      j1 k true a1
    else
      if (decide (a1.1 < (0 : Int))) = true then
        j1 k true a1
      else
        j1 k (decide (a1.1 > (4294967295 : Int))) a1
noncomputable def S : Spec := ⟨ps, rs, .any, none, fun x r => ∃ k, f k x.1 = some r⟩
theorem rl {k a1 r} (e : f k a1 = some r) : S.rel (a1, ()) r := ⟨k, e⟩
theorem f_ok {r k a1} (H : f k a1 = some r) : Gw P 0 (Q r) (Px c0 1 []) (⟨33, [(0, .cv (.agg [.i a1.1, .i a1.2]))], []⟩) := by
  unfold f at H
  refine Rg V_ok 1 [(0, hb 0)] az ?_
  rcases of_ite H with ⟨hb1, H⟩ | ⟨hb1, H⟩
  · refine Rg V_ok 0 [(2, {bv := some true})] (ac hb1 az) ?_
    exact Jm (tn [1, 21] 1) (j1_ok H)
  · rcases of_ite H with ⟨hb7, H⟩ | ⟨hb7, H⟩
    · refine Rg V_ok 0 [(2, {bv := some false}), (7, {bv := some true})] (ac hb1 (ac hb7 az)) ?_
      exact Jm (tn [1, 21] 1) (j1_ok H)
    · rcases of_ite H with ⟨hb8, H⟩ | ⟨hb8, H⟩
      · refine Rg V_ok 0 [(2, {bv := some false}), (7, {bv := some false}), (12, {bv := some true})] (ac hb1 (ac hb7 (ac hb8 az))) ?_
        exact Jm (tn [1, 21] 1) (j1_ok H)
      · refine Rg V_ok 0 [(2, {bv := some false}), (7, {bv := some false}), (12, {bv := some false})] (ac hb1 (ac hb7 (ac hb8 az))) ?_
        exact Jm (tn [1, 21] 1) (j1_ok H)
theorem fits : Fits P 159 S := fits_of V_ok Go.Proofs.Tryz.func159 (by kernel_rfl) (by decide) (by decide) rfl (fun x r ⟨k, H⟩ => of_G (f_ok H))
end f_ref01_May
/-! ### function 137, wayfinder/wayfinderref04.May -/
namespace f_ref04_May
noncomputable def c0 : Code := (Go.Proofs.Tryz.f137.body).getD .skip
abbrev ps : Sg := [(true, T1383)]
abbrev rs : Sg := [(false, .bool)]
noncomputable def V : Env := { tt := tt, Γ := slk [(159, f_ref01_May.S)] }
theorem V_ok : EnvOk P V := { ck := tt_ck, fits := slk_cons f_ref01_May.fits (slk_nil), mixed := mixed }
abbrev R := Tup rs
noncomputable abbrev Q (r : R) : Exit → St → Prop := Qr tt Go.Proofs.Tryz.f137.results ⟨ps, rs, .any, none, fun _ _ => True⟩ r
noncomputable def s1 (p1 : Bool) (p2 : T1383.T) : St := ⟨53, [(1, .cv (.one (.ptr 0 0))), (28, .cv (.one (.bool p1)))], [(.box 6, (encC .any T1383 p2))]⟩
noncomputable def j1 (k : Nat) (p1 : Bool) (p2 : T1383.T) : Option R :=
  if p1 = true then
  some (false, ())
else
  if (p2.2.2.2.1 == (0 : Int)) = true then
    some ((p2.2.2.2.2 == (0 : Int)), ())
  else
    if (p2.2.2.2.1 == (1 : Int)) = true then
      if (decide (p2.2.2.2.2 ≥ (0 : Int))) = true then
        some ((decide (p2.2.2.2.2 ≤ (7 : Int))), ())
      else
        some (false, ())
    else
      some (false, ())
theorem j1_ok {r} {k p1 p2} (H : j1 k p1 p2 = some r) : Gw P 0 (Q r) (Px c0 27 []) (s1 p1 p2) := by
  unfold j1 at H
  rcases of_ite H with ⟨hb4, H⟩ | ⟨hb4, H⟩
  · refine C1 hb4 ?_
    refine Rg V_ok 0 [] az ?_
    exact Lf (Eq.trans (by kernel_rfl) H)
  · refine C0 hb4 ?_
    refine Rg V_ok 0 [] az ?_
    rcases of_ite H with ⟨hb5, H⟩ | ⟨hb5, H⟩
    · refine C1 hb5 ?_
      refine Rg V_ok 0 [] az ?_
      exact Lf (Eq.trans (by kernel_rfl) H)
    · refine C0 hb5 ?_
      rcases of_ite H with ⟨hb6, H⟩ | ⟨hb6, H⟩
      · rcases of_ite H with ⟨hb7, H⟩ | ⟨hb7, H⟩
        · refine Rg V_ok 0 [(3, {bv := some true}), (9, {bv := some true})] (ac hb6 (ac hb7 az)) ?_
          exact Lf (Eq.trans (by kernel_rfl) H)
        · refine Rg V_ok 0 [(3, {bv := some true}), (9, {bv := some false})] (ac hb6 (ac hb7 az)) ?_
          exact Lf (Eq.trans (by kernel_rfl) H)
      · refine Rg V_ok 0 [(3, {bv := some false})] (ac hb6 az) ?_
        exact Lf (Eq.trans (by kernel_rfl) H)
noncomputable def f (k : Nat) (a1 : T1383.T) : Option R :=
  (f_ref01_May.f k a1.1).bind fun y1 =>
    if (!y1.1) = true then
      j1 k true a1
    else
      if (decide (a1.2.1 < (-1 : Int))) = true then
        j1 k true a1
      else
        if (decide (a1.2.1 > (7 : Int))) = true then
          j1 k true a1
        else
          if (decide (a1.2.2.1 < (0 : Int))) = true then
            j1 k true a1
          else
            j1 k (decide (a1.2.2.1 > (255 : Int))) a1
noncomputable def S : Spec := ⟨ps, rs, .any, none, fun x r => ∃ k, f k x.1 = some r⟩
theorem rl {k a1 r} (e : f k a1 = some r) : S.rel (a1, ()) r := ⟨k, e⟩
theorem f_ok {r k a1} (H : f k a1 = some r) : Gw P 0 (Q r) (Px c0 1 []) (⟨53, [(0, .cv (.agg (encC .any T1383 a1)))], []⟩) := by
  unfold f at H
  refine Rg V_ok 1 [(0, hb 0)] az ?_
  obtain ⟨y1, e2, H⟩ := of_bind H
  refine Rg V_ok 0 [(2, hr f_ref01_May.S y1)] (ac (f_ref01_May.rl e2) az) ?_
  rcases of_ite H with ⟨hb3, H⟩ | ⟨hb3, H⟩
  · refine Rg V_ok 0 [(1, {bv := some true})] (ac hb3 az) ?_
    exact Jm (tn [1, 28] 1) (j1_ok H)
  · rcases of_ite H with ⟨hb8, H⟩ | ⟨hb8, H⟩
    · refine Rg V_ok 0 [(1, {bv := some false}), (6, {bv := some true})] (ac hb3 (ac hb8 az)) ?_
      exact Jm (tn [1, 28] 1) (j1_ok H)
    · rcases of_ite H with ⟨hb9, H⟩ | ⟨hb9, H⟩
      · refine Rg V_ok 0 [(1, {bv := some false}), (6, {bv := some false}), (11, {bv := some true})] (ac hb3 (ac hb8 (ac hb9 az))) ?_
        exact Jm (tn [1, 28] 1) (j1_ok H)
      · rcases of_ite H with ⟨hb10, H⟩ | ⟨hb10, H⟩
        · refine Rg V_ok 0 [(1, {bv := some false}), (6, {bv := some false}), (11, {bv := some false}), (16, {bv := some true})] (ac hb3 (ac hb8 (ac hb9 (ac hb10 az)))) ?_
          exact Jm (tn [1, 28] 1) (j1_ok H)
        · refine Rg V_ok 0 [(1, {bv := some false}), (6, {bv := some false}), (11, {bv := some false}), (16, {bv := some false})] (ac hb3 (ac hb8 (ac hb9 (ac hb10 az)))) ?_
          exact Jm (tn [1, 28] 1) (j1_ok H)
theorem fits : Fits P 137 S := fits_of V_ok Go.Proofs.Tryz.func137 (by kernel_rfl) (by decide) (by decide) rfl (fun x r ⟨k, H⟩ => of_G (f_ok H))
end f_ref04_May
/-! ### function 138, wayfinder/wayfinderref04.Alike -/
namespace f_ref04_Alike
noncomputable def c0 : Code := (Go.Proofs.Tryz.f138.body).getD .skip
abbrev ps : Sg := [(true, T1383), (true, T1383)]
abbrev rs : Sg := [(false, .bool)]
noncomputable def V : Env := { tt := tt, Γ := slk [] }
theorem V_ok : EnvOk P V := { ck := tt_ck, fits := slk_nil, mixed := mixed }
abbrev R := Tup rs
noncomputable abbrev Q (r : R) : Exit → St → Prop := Qr tt Go.Proofs.Tryz.f138.results ⟨ps, rs, .any, none, fun _ _ => True⟩ r
noncomputable def f (k : Nat) (a1 a2 : T1383.T) : Option R :=
  if ((a1.1.1 == a2.1.1) && ((a1.1.2 == a2.1.2) && true)) = true then
    if (a1.2.1 == a2.2.1) = true then
      some ((a1.2.2.1 == a2.2.2.1), ())
    else
      some (false, ())
  else
    some (false, ())
noncomputable def S : Spec := ⟨ps, rs, .any, none, fun x r => ∃ k, f k x.1 x.2.1 = some r⟩
theorem rl {k a1 a2 r} (e : f k a1 a2 = some r) : S.rel (a1, a2, ()) r := ⟨k, e⟩
theorem f_ok {r k a1 a2} (H : f k a1 a2 = some r) : Gw P 0 (Q r) (Px c0 1 []) (⟨24, [(0, .cv (.agg (encC .any T1383 a1))), (1, .cv (.agg (encC .any T1383 a2)))], []⟩) := by
  unfold f at H
  refine Rg V_ok 2 [(0, hb 0), (1, hb 1)] az ?_
  rcases of_ite H with ⟨hb1, H⟩ | ⟨hb1, H⟩
  · rcases of_ite H with ⟨hb2, H⟩ | ⟨hb2, H⟩
    · refine Rg V_ok 0 [(4, {bv := some true}), (11, {bv := some true})] (ac hb1 (ac hb2 az)) ?_
      exact Lf (Eq.trans (by kernel_rfl) H)
    · refine Rg V_ok 0 [(4, {bv := some true}), (11, {bv := some false})] (ac hb1 (ac hb2 az)) ?_
      exact Lf (Eq.trans (by kernel_rfl) H)
  · refine Rg V_ok 0 [(4, {bv := some false})] (ac hb1 az) ?_
    exact Lf (Eq.trans (by kernel_rfl) H)
theorem fits : Fits P 138 S := fits_of V_ok Go.Proofs.Tryz.func138 (by kernel_rfl) (by decide) (by decide) rfl (fun x r ⟨k, H⟩ => of_G (f_ok H))
end f_ref04_Alike
/-! ### function 96, wayfinder/wayfinderref12.rules -/
namespace f_ref12_rules
noncomputable def c0 : Code := (Go.Proofs.Tryz.f96.body).getD .skip
abbrev ps : Sg := [(true, T5477), (false, (.slice T1383))]
abbrev rs : Sg := [(false, .bool)]
noncomputable def V : Env := { tt := tt, Γ := slk [(137, f_ref04_May.S), (138, f_ref04_Alike.S)] }
theorem V_ok : EnvOk P V := { ck := tt_ck, fits := slk_cons f_ref04_May.fits (slk_cons f_ref04_Alike.fits (slk_nil)), mixed := mixed }
abbrev R := Tup rs
noncomputable abbrev Q (r : R) : Exit → St → Prop := Qr tt Go.Proofs.Tryz.f96.results ⟨ps, rs, .any, none, fun _ _ => True⟩ r
noncomputable def s1 (a1 : T5477.T) (a2 : List T1383.T) (p2 : Int) : St := ⟨70, [(1, .cv (.one (.sl T1383 a2 .any))), (2, .cv (.one (.ptr 0 0))), (5, .cv (.one (.i p2)))], [(.box 3, (encC .any T5477 a1))]⟩
noncomputable def s2 (a1 : T5477.T) (a2 : List T1383.T) (p2 : Int) (p3 : Bool) : St := ⟨70, [(1, .cv (.one (.sl T1383 a2 .any))), (2, .cv (.one (.ptr 0 0))), (5, .cv (.one (.i p2))), (54, .cv (.one (.bool p3)))], [(.box 3, (encC .any T5477 a1))]⟩
noncomputable def s3 (a1 : T5477.T) (a2 : List T1383.T) (p2 p3 : Int) : St := ⟨70, [(1, .cv (.one (.sl T1383 a2 .any))), (2, .cv (.one (.ptr 0 0))), (5, .cv (.one (.i p2))), (7, .cv (.one (.i p3)))], [(.box 3, (encC .any T5477 a1))]⟩
noncomputable def b3 (a1 : T5477.T) (a2 : List T1383.T) (L1 : Int → Option R) (L3 : Int → Int → Option R) (k : Nat) (p2 p3 : Int) : Option R :=
  if (decide (p3 < p2)) = true then
  if 0 ≤ p2 then
    if p2 < (a2.length : Int) then
      if 0 ≤ p3 then
        if p3 < (a2.length : Int) then
          (f_ref04_Alike.f k (att T1383 a2 p2) (att T1383 a2 p3)).bind fun y10 =>
            if y10.1 = true then
              some (false, ())
            else
              L3 p2 (IntKind.i64.wrap (p3 + 1))
        else none
      else none
    else none
  else none
else
  L1 (IntKind.i64.wrap (p2 + 1))
theorem b3_ok {r a1 a2} {L1 : Int → Option R} {m1 : Nat} (hL1 : ∀ p2, L1 p2 = some r → Gw P 0 (Q r) (Pb c0 43 [] m1) (s1 a1 a2 p2)) {L3 : Int → Int → Option R} {m3 : Nat} (hL3 : ∀ p2 p3, L3 p2 p3 = some r → Gw P 0 (Q r) (Pb c0 11851 [m1] m3) (s3 a1 a2 p2 p3)) {k p2 p3} (H : b3 a1 a2 L1 L3 k p2 p3 = some r) : Gw P 0 (Q r) (Px c0 20043 [m1, m3]) (s3 a1 a2 p2 p3) := by
  unfold b3 at H
  refine Rg V_ok 0 [] az ?_
  rcases of_ite H with ⟨hb9, H⟩ | ⟨hb9, H⟩
  · refine C1 hb9 ?_
    obtain ⟨n11, H⟩ := of_if H
    obtain ⟨n12, H⟩ := of_if H
    obtain ⟨n13, H⟩ := of_if H
    obtain ⟨n14, H⟩ := of_if H
    obtain ⟨y10, e15, H⟩ := of_bind H
    refine Rg V_ok 0 [(8, hr f_ref04_Alike.S y10)] (ac n11 (ac n12 (ac n13 (ac n14 (ac (f_ref04_Alike.rl e15) az))))) ?_
    refine Rg V_ok 0 [] az ?_
    rcases of_ite H with ⟨hb16, H⟩ | ⟨hb16, H⟩
    · refine C1 hb16 ?_
      refine Rg V_ok 0 [] az ?_
      exact Lf (Eq.trans (by kernel_rfl) H)
    · refine C0 hb16 ?_
      refine Rg V_ok 0 [] az ?_
      exact Jm (tn [1, 2, 5, 7] 1) (hL3 p2 (IntKind.i64.wrap (p3 + 1)) H)
  · refine C0 hb9 ?_
    refine Rg V_ok 0 [] az ?_
    exact Jm (tn [1, 2, 5] 1) (hL1 (IntKind.i64.wrap (p2 + 1)) H)
noncomputable def l3 (a1 : T5477.T) (a2 : List T1383.T) (L1 : Int → Option R) (k : Nat) : Nat → Int → Int → Option R
  | 0, _, _ => none
  | m + 1, p2, p3 => b3 a1 a2 L1 (l3 a1 a2 L1 k m) k p2 p3
theorem l3_ok {r a1 a2} {L1 : Int → Option R} {m1 : Nat} (hL1 : ∀ p2, L1 p2 = some r → Gw P 0 (Q r) (Pb c0 43 [] m1) (s1 a1 a2 p2)) (k : Nat) : ∀ (m3 : Nat) (p2 : Int) (p3 : Int), l3 a1 a2 L1 k m3 p2 p3 = some r → Gw P 0 (Q r) (Pb c0 11851 [m1] m3) (s3 a1 a2 p2 p3)
  | 0, _, _, H => by cases H
  | m3 + 1, p2, p3, H => SU (by kernel_rfl) (b3_ok hL1 (l3_ok hL1 k m3) H)
noncomputable def j2 (a1 : T5477.T) (a2 : List T1383.T) (L1 : Int → Option R) (k : Nat) (p2 : Int) (p3 : Bool) : Option R :=
  if p3 = true then
  some (false, ())
else
  l3 a1 a2 L1 k k p2 0
theorem j2_ok {r a1 a2} {L1 : Int → Option R} {m1 : Nat} (hL1 : ∀ p2, L1 p2 = some r → Gw P 0 (Q r) (Pb c0 43 [] m1) (s1 a1 a2 p2)) {k p2 p3} (H : j2 a1 a2 L1 k p2 p3 = some r) : Gw P 0 (Q r) (Px c0 6731 [m1]) (s2 a1 a2 p2 p3) := by
  unfold j2 at H
  rcases of_ite H with ⟨hb8, H⟩ | ⟨hb8, H⟩
  · refine C1 hb8 ?_
    refine Rg V_ok 0 [] az ?_
    exact Lf (Eq.trans (by kernel_rfl) H)
  · refine C0 hb8 ?_
    refine Rg V_ok 0 [] az ?_
    exact LP k (Jm (tn [1, 2, 5, 7] 1) (l3_ok hL1 k k p2 0 H))
noncomputable def b1 (a1 : T5477.T) (a2 : List T1383.T) (L1 : Int → Option R) (k : Nat) (p2 : Int) : Option R :=
  if (decide (p2 < (a2.length : Int))) = true then
  if 0 ≤ p2 then
    if p2 < (a2.length : Int) then
      (f_ref04_May.f k (att T1383 a2 p2)).bind fun y3 =>
        if (!y3.1) = true then
          j2 a1 a2 L1 k p2 true
        else
          if (decide ((((att T1383 a2 p2).2).1) ≥ a1.2.1)) = true then
            j2 a1 a2 L1 k p2 true
          else
            if ((((((att T1383 a2 p2).2).2).2).1) == (1 : Int)) = true then
              j2 a1 a2 L1 k p2 (decide ((((((att T1383 a2 p2).2).2).2).2) ≥ a1.2.1))
            else
              j2 a1 a2 L1 k p2 false
    else none
  else none
else
  some (true, ())
theorem b1_ok {r a1 a2} {L1 : Int → Option R} {m1 : Nat} (hL1 : ∀ p2, L1 p2 = some r → Gw P 0 (Q r) (Pb c0 43 [] m1) (s1 a1 a2 p2)) {k p2} (H : b1 a1 a2 L1 k p2 = some r) : Gw P 0 (Q r) (Px c0 75 [m1]) (s1 a1 a2 p2) := by
  unfold b1 at H
  refine Rg V_ok 0 [] az ?_
  rcases of_ite H with ⟨hb2, H⟩ | ⟨hb2, H⟩
  · refine C1 hb2 ?_
    obtain ⟨n4, H⟩ := of_if H
    obtain ⟨n5, H⟩ := of_if H
    obtain ⟨y3, e6, H⟩ := of_bind H
    refine Rg V_ok 0 [(4, hr f_ref04_May.S y3)] (ac n4 (ac n5 (ac (f_ref04_May.rl e6) az))) ?_
    rcases of_ite H with ⟨hb7, H⟩ | ⟨hb7, H⟩
    · refine Rg V_ok 0 [(1, {bv := some true})] (ac hb7 az) ?_
      exact Jm (tn [1, 2, 5, 54] 1) (j2_ok hL1 H)
    · rcases of_ite H with ⟨hb17, H⟩ | ⟨hb17, H⟩
      · refine Rg V_ok 0 [(1, {bv := some false}), (11, {bv := some true})] (ac hb7 (ac n4 (ac n5 (ac hb17 az)))) ?_
        exact Jm (tn [1, 2, 5, 54] 1) (j2_ok hL1 H)
      · rcases of_ite H with ⟨hb18, H⟩ | ⟨hb18, H⟩
        · refine Rg V_ok 0 [(1, {bv := some false}), (11, {bv := some false}), (19, {bv := some true})] (ac hb7 (ac n4 (ac n5 (ac hb17 (ac n4 (ac n5 (ac hb18 (ac n4 (ac n5 az))))))))) ?_
          exact Jm (tn [1, 2, 5, 54] 1) (j2_ok hL1 H)
        · refine Rg V_ok 0 [(1, {bv := some false}), (11, {bv := some false}), (19, {bv := some false})] (ac hb7 (ac n4 (ac n5 (ac hb17 (ac n4 (ac n5 (ac hb18 az))))))) ?_
          exact Jm (tn [1, 2, 5, 54] 1) (j2_ok hL1 H)
  · refine C0 hb2 ?_
    refine Rg V_ok 0 [] az ?_
    exact Lf (Eq.trans (by kernel_rfl) H)
noncomputable def l1 (a1 : T5477.T) (a2 : List T1383.T) (k : Nat) : Nat → Int → Option R
  | 0, _ => none
  | m + 1, p2 => b1 a1 a2 (l1 a1 a2 k m) k p2
theorem l1_ok {r a1 a2} (k : Nat) : ∀ (m1 : Nat) (p2 : Int), l1 a1 a2 k m1 p2 = some r → Gw P 0 (Q r) (Pb c0 43 [] m1) (s1 a1 a2 p2)
  | 0, _, H => by cases H
  | m1 + 1, p2, H => SU (by kernel_rfl) (b1_ok (l1_ok k m1) H)
noncomputable def f (k : Nat) (a1 : T5477.T) (a2 : List T1383.T) : Option R :=
  if (decide ((a2.length : Int) > (40 : Int))) = true then
    some (false, ())
  else
    l1 a1 a2 k k 0
noncomputable def S : Spec := ⟨ps, rs, .any, none, fun x r => ∃ k, f k x.1 x.2.1 = some r⟩
theorem rl {k a1 a2 r} (e : f k a1 a2 = some r) : S.rel (a1, a2, ()) r := ⟨k, e⟩
theorem f_ok {r k a1 a2} (H : f k a1 a2 = some r) : Gw P 0 (Q r) (Px c0 1 []) (⟨70, [(0, .cv (.agg (encC .any T5477 a1))), (1, .cv (.one (.sl T1383 a2 .any)))], []⟩) := by
  unfold f at H
  refine Rg V_ok 1 [(0, hb 0)] az ?_
  refine Rg V_ok 0 [] az ?_
  rcases of_ite H with ⟨hb1, H⟩ | ⟨hb1, H⟩
  · refine C1 hb1 ?_
    refine Rg V_ok 0 [] az ?_
    exact Lf (Eq.trans (by kernel_rfl) H)
  · refine C0 hb1 ?_
    refine Rg V_ok 0 [] az ?_
    exact LP k (Jm (tn [1, 2, 5] 1) (l1_ok k k 0 H))
theorem fits : Fits P 96 S := fits_of V_ok Go.Proofs.Tryz.func96 (by kernel_rfl) (by decide) (by decide) rfl (fun x r ⟨k, H⟩ => of_G (f_ok H))
end f_ref12_rules
/-! ### function 45, wayfinder/wayfinderref12.May -/
namespace f_ref12_May
noncomputable def c0 : Code := (Go.Proofs.Tryz.f45.body).getD .skip
abbrev ps : Sg := [(true, T5477), (false, (.slice (.slice T1383)))]
abbrev rs : Sg := [(false, .bool)]
noncomputable def V : Env := { tt := tt, Γ := slk [(95, f_ref11_May.S), (96, f_ref12_rules.S)] }
theorem V_ok : EnvOk P V := { ck := tt_ck, fits := slk_cons f_ref11_May.fits (slk_cons f_ref12_rules.fits (slk_nil)), mixed := mixed }
abbrev R := Tup rs
noncomputable abbrev Q (r : R) : Exit → St → Prop := Qr tt Go.Proofs.Tryz.f45.results ⟨ps, rs, .any, none, fun _ _ => True⟩ r
noncomputable def s1 (a1 : T5477.T) (a2 : List (List T1383.T)) (p2 : Bool) : St := ⟨33, [(1, .cv (.one (.sl (.slice T1383) a2 .any))), (2, .cv (.one (.ptr 0 0))), (18, .cv (.one (.bool p2)))], [(.box 3, (encC .any T5477 a1))]⟩
noncomputable def s2 (a1 : T5477.T) (a2 : List (List T1383.T)) (p2 : Int) : St := ⟨33, [(1, .cv (.one (.sl (.slice T1383) a2 .any))), (2, .cv (.one (.ptr 0 0))), (6, .cv (.one (.i p2)))], [(.box 3, (encC .any T5477 a1))]⟩
noncomputable def b2 (a1 : T5477.T) (a2 : List (List T1383.T)) (L2 : Int → Option R) (k : Nat) (p2 : Int) : Option R :=
  if (decide (p2 < (a2.length : Int))) = true then
  if 0 ≤ p2 then
    if p2 < (a2.length : Int) then
      (f_ref12_rules.f k a1 (att (.slice T1383) a2 p2)).bind fun y6 =>
        if (!y6.1) = true then
          some (false, ())
        else
          L2 (IntKind.i64.wrap (p2 + 1))
    else none
  else none
else
  some (true, ())
theorem b2_ok {r a1 a2} {L2 : Int → Option R} {m2 : Nat} (hL2 : ∀ p2, L2 p2 = some r → Gw P 0 (Q r) (Pb c0 87 [] m2) (s2 a1 a2 p2)) {k p2} (H : b2 a1 a2 L2 k p2 = some r) : Gw P 0 (Q r) (Px c0 151 [m2]) (s2 a1 a2 p2) := by
  unfold b2 at H
  refine Rg V_ok 0 [] az ?_
  rcases of_ite H with ⟨hb5, H⟩ | ⟨hb5, H⟩
  · refine C1 hb5 ?_
    obtain ⟨n7, H⟩ := of_if H
    obtain ⟨n8, H⟩ := of_if H
    obtain ⟨y6, e9, H⟩ := of_bind H
    refine Rg V_ok 0 [(5, hr f_ref12_rules.S y6)] (ac n7 (ac n8 (ac (f_ref12_rules.rl e9) az))) ?_
    refine Rg V_ok 0 [] az ?_
    rcases of_ite H with ⟨hb10, H⟩ | ⟨hb10, H⟩
    · refine C1 hb10 ?_
      refine Rg V_ok 0 [] az ?_
      exact Lf (Eq.trans (by kernel_rfl) H)
    · refine C0 hb10 ?_
      refine Rg V_ok 0 [] az ?_
      exact Jm (tn [1, 2, 6] 1) (hL2 (IntKind.i64.wrap (p2 + 1)) H)
  · refine C0 hb5 ?_
    refine Rg V_ok 0 [] az ?_
    exact Lf (Eq.trans (by kernel_rfl) H)
noncomputable def l2 (a1 : T5477.T) (a2 : List (List T1383.T)) (k : Nat) : Nat → Int → Option R
  | 0, _ => none
  | m + 1, p2 => b2 a1 a2 (l2 a1 a2 k m) k p2
theorem l2_ok {r a1 a2} (k : Nat) : ∀ (m2 : Nat) (p2 : Int), l2 a1 a2 k m2 p2 = some r → Gw P 0 (Q r) (Pb c0 87 [] m2) (s2 a1 a2 p2)
  | 0, _, H => by cases H
  | m2 + 1, p2, H => SU (by kernel_rfl) (b2_ok (l2_ok k m2) H)
noncomputable def j1 (a1 : T5477.T) (a2 : List (List T1383.T)) (k : Nat) (p2 : Bool) : Option R :=
  if p2 = true then
  some (false, ())
else
  l2 a1 a2 k k 0
theorem j1_ok {r a1 a2} {k p2} (H : j1 a1 a2 k p2 = some r) : Gw P 0 (Q r) (Px c0 27 []) (s1 a1 a2 p2) := by
  unfold j1 at H
  rcases of_ite H with ⟨hb4, H⟩ | ⟨hb4, H⟩
  · refine C1 hb4 ?_
    refine Rg V_ok 0 [] az ?_
    exact Lf (Eq.trans (by kernel_rfl) H)
  · refine C0 hb4 ?_
    refine Rg V_ok 0 [] az ?_
    exact LP k (Jm (tn [1, 2, 6] 1) (l2_ok k k 0 H))
noncomputable def f (k : Nat) (a1 : T5477.T) (a2 : List (List T1383.T)) : Option R :=
  (f_ref11_May.f k a1).bind fun y1 =>
    if (!y1.1) = true then
      j1 a1 a2 k true
    else
      j1 a1 a2 k ((a2.length : Int) != a1.1)
noncomputable def S : Spec := ⟨ps, rs, .any, none, fun x r => ∃ k, f k x.1 x.2.1 = some r⟩
theorem rl {k a1 a2 r} (e : f k a1 a2 = some r) : S.rel (a1, a2, ()) r := ⟨k, e⟩
theorem f_ok {r k a1 a2} (H : f k a1 a2 = some r) : Gw P 0 (Q r) (Px c0 1 []) (⟨33, [(0, .cv (.agg (encC .any T5477 a1))), (1, .cv (.one (.sl (.slice T1383) a2 .any)))], []⟩) := by
  unfold f at H
  refine Rg V_ok 1 [(0, hb 0)] az ?_
  obtain ⟨y1, e2, H⟩ := of_bind H
  refine Rg V_ok 0 [(1, hr f_ref11_May.S y1)] (ac (f_ref11_May.rl e2) az) ?_
  rcases of_ite H with ⟨hb3, H⟩ | ⟨hb3, H⟩
  · refine Rg V_ok 0 [(1, {bv := some true})] (ac hb3 az) ?_
    exact Jm (tn [1, 2, 18] 1) (j1_ok H)
  · refine Rg V_ok 0 [(1, {bv := some false})] (ac hb3 az) ?_
    exact Jm (tn [1, 2, 18] 1) (j1_ok H)
theorem fits : Fits P 45 S := fits_of V_ok Go.Proofs.Tryz.func45 (by kernel_rfl) (by decide) (by decide) rfl (fun x r ⟨k, H⟩ => of_G (f_ok H))
end f_ref12_May
/-! ### function 14, wayfinder/wayfinderref21.Update -/
namespace f_ref21_Update
noncomputable def c0 : Code := (Go.Proofs.Tryz.f14.body).getD .skip
abbrev ps : Sg := [(true, T26b3), (true, T5477), (false, (.slice (.slice T1383)))]
abbrev rs : Sg := [(true, T26b3), (false, (.int .i64))]
noncomputable def V : Env := { tt := tt, Γ := slk [(36, f_ref21_May.S), (45, f_ref12_May.S)] }
theorem V_ok : EnvOk P V := { ck := tt_ck, fits := slk_cons f_ref21_May.fits (slk_cons f_ref12_May.fits (slk_nil)), mixed := mixed }
abbrev R := Tup rs
noncomputable abbrev Q (r : R) : Exit → St → Prop := Qr tt Go.Proofs.Tryz.f14.results ⟨ps, rs, .any, none, fun _ _ => True⟩ r
noncomputable def s1 (a1 : T26b3.T) (a3 : List (List T1383.T)) (p2 : Bool) (p4 p5 p6 p7 p8 p9 p10 : Int) : St := ⟨44, [(2, .cv (.one (.sl (.slice T1383) a3 .any))), (3, .cv (.one (.ptr 0 0))), (6, .cv (.one (.ptr 1 0))), (20, .cv (.one (.bool p2)))], [(.box 13, (encC .any T26b3 a1)), (.box 13, [.nils, .i p4, .i p5, .i p6, .i p7, .i p8, .i p9, .nils, .nils, .nils, .nils, .nils, .i p10])]⟩
noncomputable def j1 (a1 : T26b3.T) (a3 : List (List T1383.T)) (k : Nat) (p2 : Bool) (p4 p5 p6 p7 p8 p9 p10 : Int) : Option R :=
  if p2 = true then
  some (a1, ((1 : Int), ()))
else
  if (decide ((a1.2.2.2.2.2.2.2.1.length : Int) ≥ (4 : Int))) = true then
    some (a1, ((7 : Int), ()))
  else
    if a1.2.2.2.2.2.2.2.1.length * 8 ≤ 140737488355328 then
      if (a1.2.2.2.2.2.2.2.1.length + 1) * 8 ≤ 140737488355328 then
        if a1.1.length * 24 ≤ 140737488355328 then
          if (a1.1.length + 1) * 24 ≤ 140737488355328 then
            some (((a1.1 ++ [a3]), (a1.2.1, (a1.2.2.1, (a1.2.2.2.1, (a1.2.2.2.2.1, (a1.2.2.2.2.2.1, (a1.2.2.2.2.2.2.1, ((a1.2.2.2.2.2.2.2.1 ++ [(a1.1.length : Int)]), a1.2.2.2.2.2.2.2.2)))))))), ((0 : Int), ()))
          else none
        else none
      else none
    else none
theorem j1_ok {r a1 a3} {k p2 p4 p5 p6 p7 p8 p9 p10} (H : j1 a1 a3 k p2 p4 p5 p6 p7 p8 p9 p10 = some r) : Gw P 0 (Q r) (Px c0 55 []) (s1 a1 a3 p2 p4 p5 p6 p7 p8 p9 p10) := by
  unfold j1 at H
  rcases of_ite H with ⟨hb6, H⟩ | ⟨hb6, H⟩
  · refine C1 hb6 ?_
    refine Rg V_ok 0 [] az ?_
    exact Lf (Eq.trans (by kernel_rfl) H)
  · refine C0 hb6 ?_
    refine Rg V_ok 0 [] az ?_
    rcases of_ite H with ⟨hb7, H⟩ | ⟨hb7, H⟩
    · refine C1 hb7 ?_
      refine Rg V_ok 0 [] az ?_
      exact Lf (Eq.trans (by kernel_rfl) H)
    · refine C0 hb7 ?_
      obtain ⟨n8, H⟩ := of_if H
      obtain ⟨n9, H⟩ := of_if H
      refine Rg V_ok 2 [(2, hb 2), (7, hb 3)] (ac n8 (ac n9 az)) ?_
      obtain ⟨n10, H⟩ := of_if H
      obtain ⟨n11, H⟩ := of_if H
      refine Rg V_ok 2 [(2, hb 4), (5, hb 5)] (ac n10 (ac n11 az)) ?_
      refine Rg V_ok 0 [] az ?_
      exact Lf (Eq.trans (by kernel_rfl) H)
noncomputable def f (k : Nat) (a1 : T26b3.T) (a2 : T5477.T) (a3 : List (List T1383.T)) : Option R :=
  (f_ref21_May.f k a1).bind fun y1 =>
    (f_ref12_May.f k a2 a3).bind fun y3 =>
      if (!y1.1) = true then
        j1 a1 a3 k true 0 0 0 0 0 0 0
      else
        j1 a1 a3 k (!y3.1) 0 0 0 0 0 0 0
noncomputable def S : Spec := ⟨ps, rs, .any, none, fun x r => ∃ k, f k x.1 x.2.1 x.2.2.1 = some r⟩
theorem rl {k a1 a2 a3 r} (e : f k a1 a2 a3 = some r) : S.rel (a1, a2, a3, ()) r := ⟨k, e⟩
theorem f_ok {r k a1 a2 a3} (H : f k a1 a2 a3 = some r) : Gw P 0 (Q r) (Px c0 1 []) (⟨44, [(0, .cv (.agg (encC .any T26b3 a1))), (1, .cv (.agg (encC .any T5477 a2))), (2, .cv (.one (.sl (.slice T1383) a3 .any)))], []⟩) := by
  unfold f at H
  refine Rg V_ok 3 [(0, hb 0), (1, hb 1), (2, hb 2)] az ?_
  obtain ⟨y1, e2, H⟩ := of_bind H
  refine Rg V_ok 0 [(1, hr f_ref21_May.S y1)] (ac (f_ref21_May.rl e2) az) ?_
  obtain ⟨y3, e4, H⟩ := of_bind H
  refine Rg V_ok 0 [(2, hr f_ref12_May.S y3)] (ac (f_ref12_May.rl e4) az) ?_
  rcases of_ite H with ⟨hb5, H⟩ | ⟨hb5, H⟩
  · refine Rg V_ok 0 [(1, {bv := some true})] (ac hb5 az) ?_
    exact Jm (tl [2, 3, 6, 20] [0, 2]) (j1_ok H)
  · refine Rg V_ok 0 [(1, {bv := some false})] (ac hb5 az) ?_
    exact Jm (tl [2, 3, 6, 20] [0, 2]) (j1_ok H)
theorem fits : Fits P 14 S := fits_of V_ok Go.Proofs.Tryz.func14 (by kernel_rfl) (by decide) (by decide) rfl (fun x r ⟨k, H⟩ => of_G (f_ok H))
end f_ref21_Update
/-! ### function 62, wayfinder/wayfinderref08.Same -/
namespace f_ref08_Same
noncomputable def c0 : Code := (Go.Proofs.Tryz.f62.body).getD .skip
abbrev ps : Sg := [(false, (.slice T1383)), (false, (.slice T1383))]
abbrev rs : Sg := [(false, .bool)]
noncomputable def V : Env := { tt := tt, Γ := slk [] }
theorem V_ok : EnvOk P V := { ck := tt_ck, fits := slk_nil, mixed := mixed }
abbrev R := Tup rs
noncomputable abbrev Q (r : R) : Exit → St → Prop := Qr tt Go.Proofs.Tryz.f62.results ⟨ps, rs, .any, none, fun _ _ => True⟩ r
noncomputable def s1 (p1 p2 : List T1383.T) (p3 : Int) : St := ⟨26, [(0, .cv (.one (.sl T1383 p1 .any))), (1, .cv (.one (.sl T1383 p2 .any))), (5, .cv (.one (.i p3)))], []⟩
noncomputable def b1 (L1 : List T1383.T → List T1383.T → Int → Option R) (k : Nat) (p1 p2 : List T1383.T) (p3 : Int) : Option R :=
  if (decide (p3 < (p1.length : Int))) = true then
  if 0 ≤ p3 then
    if p3 < (p1.length : Int) then
      if p3 < (p2.length : Int) then
        if (!(((((att T1383 p1 p3).1).1) == (((att T1383 p2 p3).1).1)) && (((((att T1383 p1 p3).1).2) == (((att T1383 p2 p3).1).2)) && (((((att T1383 p1 p3).2).1) == (((att T1383 p2 p3).2).1)) && ((((((att T1383 p1 p3).2).2).1) == ((((att T1383 p2 p3).2).2).1)) && (((((((att T1383 p1 p3).2).2).2).1) == (((((att T1383 p2 p3).2).2).2).1)) && (((((((att T1383 p1 p3).2).2).2).2) == (((((att T1383 p2 p3).2).2).2).2)) && true))))))) = true then
          some (false, ())
        else
          L1 p1 p2 (IntKind.i64.wrap (p3 + 1))
      else none
    else none
  else none
else
  some (true, ())
theorem b1_ok {r} {L1 : List T1383.T → List T1383.T → Int → Option R} {m1 : Nat} (hL1 : ∀ p1 p2 p3, L1 p1 p2 p3 = some r → Gw P 0 (Q r) (Pb c0 43 [] m1) (s1 p1 p2 p3)) {k p1 p2 p3} (H : b1 L1 k p1 p2 p3 = some r) : Gw P 0 (Q r) (Px c0 75 [m1]) (s1 p1 p2 p3) := by
  unfold b1 at H
  refine Rg V_ok 0 [] az ?_
  rcases of_ite H with ⟨hb2, H⟩ | ⟨hb2, H⟩
  · refine C1 hb2 ?_
    obtain ⟨n3, H⟩ := of_if H
    obtain ⟨n4, H⟩ := of_if H
    obtain ⟨n5, H⟩ := of_if H
    refine Rg V_ok 0 [] (ac n3 (ac n4 (ac n3 (ac n5 az)))) ?_
    rcases of_ite H with ⟨hb6, H⟩ | ⟨hb6, H⟩
    · refine C1 hb6 ?_
      refine Rg V_ok 0 [] az ?_
      exact Lf (Eq.trans (by kernel_rfl) H)
    · refine C0 hb6 ?_
      refine Rg V_ok 0 [] az ?_
      exact Jm (tn [0, 1, 5] 0) (hL1 p1 p2 (IntKind.i64.wrap (p3 + 1)) H)
  · refine C0 hb2 ?_
    refine Rg V_ok 0 [] az ?_
    exact Lf (Eq.trans (by kernel_rfl) H)
noncomputable def l1 (k : Nat) : Nat → List T1383.T → List T1383.T → Int → Option R
  | 0, _, _, _ => none
  | m + 1, p1, p2, p3 => b1 (l1 k m) k p1 p2 p3
theorem l1_ok {r} (k : Nat) : ∀ (m1 : Nat) (p1 p2 : List T1383.T) (p3 : Int), l1 k m1 p1 p2 p3 = some r → Gw P 0 (Q r) (Pb c0 43 [] m1) (s1 p1 p2 p3)
  | 0, _, _, _, H => by cases H
  | m1 + 1, p1, p2, p3, H => SU (by kernel_rfl) (b1_ok (l1_ok k m1) H)
noncomputable def f (k : Nat) (a1 a2 : List T1383.T) : Option R :=
  if ((a1.length : Int) != (a2.length : Int)) = true then
    some (false, ())
  else
    l1 k k a1 a2 0
noncomputable def S : Spec := ⟨ps, rs, .any, none, fun x r => ∃ k, f k x.1 x.2.1 = some r⟩
theorem rl {k a1 a2 r} (e : f k a1 a2 = some r) : S.rel (a1, a2, ()) r := ⟨k, e⟩
theorem f_ok {r k a1 a2} (H : f k a1 a2 = some r) : Gw P 0 (Q r) (Px c0 1 []) (⟨26, [(0, .cv (.one (.sl T1383 a1 .any))), (1, .cv (.one (.sl T1383 a2 .any)))], []⟩) := by
  unfold f at H
  refine Rg V_ok 0 [] az ?_
  refine Rg V_ok 0 [] az ?_
  rcases of_ite H with ⟨hb1, H⟩ | ⟨hb1, H⟩
  · refine C1 hb1 ?_
    refine Rg V_ok 0 [] az ?_
    exact Lf (Eq.trans (by kernel_rfl) H)
  · refine C0 hb1 ?_
    refine Rg V_ok 0 [] az ?_
    exact LP k (Jm (tn [0, 1, 5] 0) (l1_ok k k a1 a2 0 H))
theorem fits : Fits P 62 S := fits_of V_ok Go.Proofs.Tryz.func62 (by kernel_rfl) (by decide) (by decide) rfl (fun x r ⟨k, H⟩ => of_G (f_ok H))
end f_ref08_Same
/-! ### function 28, wayfinder/wayfinderref21.Confs -/
namespace f_ref21_Confs
noncomputable def c0 : Code := (Go.Proofs.Tryz.f28.body).getD .skip
abbrev ps : Sg := [(false, (.slice (.slice (.slice T1383)))), (false, (.slice (.slice (.slice T1383))))]
abbrev rs : Sg := [(false, .bool)]
noncomputable def V : Env := { tt := tt, Γ := slk [(62, f_ref08_Same.S)] }
theorem V_ok : EnvOk P V := { ck := tt_ck, fits := slk_cons f_ref08_Same.fits (slk_nil), mixed := mixed }
abbrev R := Tup rs
noncomputable abbrev Q (r : R) : Exit → St → Prop := Qr tt Go.Proofs.Tryz.f28.results ⟨ps, rs, .any, none, fun _ _ => True⟩ r
noncomputable def s1 (a1 a2 : List (List (List T1383.T))) (p3 : Int) : St := ⟨56, [(0, .cv (.one (.sl (.slice (.slice T1383)) a1 .any))), (1, .cv (.one (.sl (.slice (.slice T1383)) a2 .any))), (5, .cv (.one (.i p3)))], []⟩
noncomputable def s2 (a1 a2 : List (List (List T1383.T))) (p3 p4 : Int) : St := ⟨56, [(0, .cv (.one (.sl (.slice (.slice T1383)) a1 .any))), (1, .cv (.one (.sl (.slice (.slice T1383)) a2 .any))), (5, .cv (.one (.i p3))), (6, .cv (.one (.i p4)))], []⟩
noncomputable def b2 (a1 a2 : List (List (List T1383.T))) (L1 : Int → Option R) (L2 : Int → Int → Option R) (k : Nat) (p3 p4 : Int) : Option R :=
  if 0 ≤ p3 then
  if p3 < (a1.length : Int) then
    if (decide (p4 < ((att (.slice (.slice T1383)) a1 p3).length : Int))) = true then
      if 0 ≤ p4 then
        if p4 < ((att (.slice (.slice T1383)) a1 p3).length : Int) then
          if p3 < (a2.length : Int) then
            if p4 < ((att (.slice (.slice T1383)) a2 p3).length : Int) then
              (f_ref08_Same.f k (att (.slice T1383) (att (.slice (.slice T1383)) a1 p3) p4) (att (.slice T1383) (att (.slice (.slice T1383)) a2 p3) p4)).bind fun y10 =>
                if (!y10.1) = true then
                  some (false, ())
                else
                  L2 p3 (IntKind.i64.wrap (p4 + 1))
            else none
          else none
        else none
      else none
    else
      L1 (IntKind.i64.wrap (p3 + 1))
  else none
else none
theorem b2_ok {r a1 a2} {L1 : Int → Option R} {m1 : Nat} (hL1 : ∀ p3, L1 p3 = some r → Gw P 0 (Q r) (Pb c0 43 [] m1) (s1 a1 a2 p3)) {L2 : Int → Int → Option R} {m2 : Nat} (hL2 : ∀ p3 p4, L2 p3 p4 = some r → Gw P 0 (Q r) (Pb c0 5707 [m1] m2) (s2 a1 a2 p3 p4)) {k p3 p4} (H : b2 a1 a2 L1 L2 k p3 p4 = some r) : Gw P 0 (Q r) (Px c0 9803 [m1, m2]) (s2 a1 a2 p3 p4) := by
  unfold b2 at H
  obtain ⟨n7, H⟩ := of_if H
  obtain ⟨n8, H⟩ := of_if H
  refine Rg V_ok 0 [] (ac n7 (ac n8 az)) ?_
  rcases of_ite H with ⟨hb9, H⟩ | ⟨hb9, H⟩
  · refine C1 hb9 ?_
    obtain ⟨n11, H⟩ := of_if H
    obtain ⟨n12, H⟩ := of_if H
    obtain ⟨n13, H⟩ := of_if H
    obtain ⟨n14, H⟩ := of_if H
    obtain ⟨y10, e15, H⟩ := of_bind H
    refine Rg V_ok 0 [(14, hr f_ref08_Same.S y10)] (ac n7 (ac n8 (ac n11 (ac n12 (ac n7 (ac n13 (ac n11 (ac n14 (ac (f_ref08_Same.rl e15) az))))))))) ?_
    refine Rg V_ok 0 [] az ?_
    rcases of_ite H with ⟨hb16, H⟩ | ⟨hb16, H⟩
    · refine C1 hb16 ?_
      refine Rg V_ok 0 [] az ?_
      exact Lf (Eq.trans (by kernel_rfl) H)
    · refine C0 hb16 ?_
      refine Rg V_ok 0 [] az ?_
      exact Jm (tn [0, 1, 5, 6] 0) (hL2 p3 (IntKind.i64.wrap (p4 + 1)) H)
  · refine C0 hb9 ?_
    refine Rg V_ok 0 [] az ?_
    exact Jm (tn [0, 1, 5] 0) (hL1 (IntKind.i64.wrap (p3 + 1)) H)
noncomputable def l2 (a1 a2 : List (List (List T1383.T))) (L1 : Int → Option R) (k : Nat) : Nat → Int → Int → Option R
  | 0, _, _ => none
  | m + 1, p3, p4 => b2 a1 a2 L1 (l2 a1 a2 L1 k m) k p3 p4
theorem l2_ok {r a1 a2} {L1 : Int → Option R} {m1 : Nat} (hL1 : ∀ p3, L1 p3 = some r → Gw P 0 (Q r) (Pb c0 43 [] m1) (s1 a1 a2 p3)) (k : Nat) : ∀ (m2 : Nat) (p3 : Int) (p4 : Int), l2 a1 a2 L1 k m2 p3 p4 = some r → Gw P 0 (Q r) (Pb c0 5707 [m1] m2) (s2 a1 a2 p3 p4)
  | 0, _, _, H => by cases H
  | m2 + 1, p3, p4, H => SU (by kernel_rfl) (b2_ok hL1 (l2_ok hL1 k m2) H)
noncomputable def b1 (a1 a2 : List (List (List T1383.T))) (L1 : Int → Option R) (k : Nat) (p3 : Int) : Option R :=
  if (decide (p3 < (a1.length : Int))) = true then
  if 0 ≤ p3 then
    if p3 < (a1.length : Int) then
      if p3 < (a2.length : Int) then
        if (((att (.slice (.slice T1383)) a1 p3).length : Int) != ((att (.slice (.slice T1383)) a2 p3).length : Int)) = true then
          some (false, ())
        else
          l2 a1 a2 L1 k k p3 0
      else none
    else none
  else none
else
  some (true, ())
theorem b1_ok {r a1 a2} {L1 : Int → Option R} {m1 : Nat} (hL1 : ∀ p3, L1 p3 = some r → Gw P 0 (Q r) (Pb c0 43 [] m1) (s1 a1 a2 p3)) {k p3} (H : b1 a1 a2 L1 k p3 = some r) : Gw P 0 (Q r) (Px c0 75 [m1]) (s1 a1 a2 p3) := by
  unfold b1 at H
  refine Rg V_ok 0 [] az ?_
  rcases of_ite H with ⟨hb2, H⟩ | ⟨hb2, H⟩
  · refine C1 hb2 ?_
    obtain ⟨n3, H⟩ := of_if H
    obtain ⟨n4, H⟩ := of_if H
    obtain ⟨n5, H⟩ := of_if H
    refine Rg V_ok 0 [] (ac n3 (ac n4 (ac n3 (ac n5 az)))) ?_
    rcases of_ite H with ⟨hb6, H⟩ | ⟨hb6, H⟩
    · refine C1 hb6 ?_
      refine Rg V_ok 0 [] az ?_
      exact Lf (Eq.trans (by kernel_rfl) H)
    · refine C0 hb6 ?_
      refine Rg V_ok 0 [] az ?_
      exact LP k (Jm (tn [0, 1, 5, 6] 0) (l2_ok hL1 k k p3 0 H))
  · refine C0 hb2 ?_
    refine Rg V_ok 0 [] az ?_
    exact Lf (Eq.trans (by kernel_rfl) H)
noncomputable def l1 (a1 a2 : List (List (List T1383.T))) (k : Nat) : Nat → Int → Option R
  | 0, _ => none
  | m + 1, p3 => b1 a1 a2 (l1 a1 a2 k m) k p3
theorem l1_ok {r a1 a2} (k : Nat) : ∀ (m1 : Nat) (p3 : Int), l1 a1 a2 k m1 p3 = some r → Gw P 0 (Q r) (Pb c0 43 [] m1) (s1 a1 a2 p3)
  | 0, _, H => by cases H
  | m1 + 1, p3, H => SU (by kernel_rfl) (b1_ok (l1_ok k m1) H)
noncomputable def f (k : Nat) (a1 a2 : List (List (List T1383.T))) : Option R :=
  if ((a1.length : Int) != (a2.length : Int)) = true then
    some (false, ())
  else
    l1 a1 a2 k k 0
noncomputable def S : Spec := ⟨ps, rs, .any, none, fun x r => ∃ k, f k x.1 x.2.1 = some r⟩
theorem rl {k a1 a2 r} (e : f k a1 a2 = some r) : S.rel (a1, a2, ()) r := ⟨k, e⟩
theorem f_ok {r k a1 a2} (H : f k a1 a2 = some r) : Gw P 0 (Q r) (Px c0 1 []) (⟨56, [(0, .cv (.one (.sl (.slice (.slice T1383)) a1 .any))), (1, .cv (.one (.sl (.slice (.slice T1383)) a2 .any)))], []⟩) := by
  unfold f at H
  refine Rg V_ok 0 [] az ?_
  refine Rg V_ok 0 [] az ?_
  rcases of_ite H with ⟨hb1, H⟩ | ⟨hb1, H⟩
  · refine C1 hb1 ?_
    refine Rg V_ok 0 [] az ?_
    exact Lf (Eq.trans (by kernel_rfl) H)
  · refine C0 hb1 ?_
    refine Rg V_ok 0 [] az ?_
    exact LP k (Jm (tn [0, 1, 5] 0) (l1_ok k k 0 H))
theorem fits : Fits P 28 S := fits_of V_ok Go.Proofs.Tryz.func28 (by kernel_rfl) (by decide) (by decide) rfl (fun x r ⟨k, H⟩ => of_G (f_ok H))
end f_ref21_Confs
/-! ### function 118, wayfinder/wayfinderref15.Msgs -/
namespace f_ref15_Msgs
noncomputable def c0 : Code := (Go.Proofs.Tryz.f118.body).getD .skip
abbrev ps : Sg := [(false, (.slice T4414)), (false, (.slice T4414))]
abbrev rs : Sg := [(false, .bool)]
noncomputable def V : Env := { tt := tt, Γ := slk [] }
theorem V_ok : EnvOk P V := { ck := tt_ck, fits := slk_nil, mixed := mixed }
abbrev R := Tup rs
noncomputable abbrev Q (r : R) : Exit → St → Prop := Qr tt Go.Proofs.Tryz.f118.results ⟨ps, rs, .any, none, fun _ _ => True⟩ r
noncomputable def s1 (p1 p2 : List T4414.T) (p3 : Int) : St := ⟨26, [(0, .cv (.one (.sl T4414 p1 .any))), (1, .cv (.one (.sl T4414 p2 .any))), (5, .cv (.one (.i p3)))], []⟩
noncomputable def b1 (L1 : List T4414.T → List T4414.T → Int → Option R) (k : Nat) (p1 p2 : List T4414.T) (p3 : Int) : Option R :=
  if (decide (p3 < (p1.length : Int))) = true then
  if 0 ≤ p3 then
    if p3 < (p1.length : Int) then
      if p3 < (p2.length : Int) then
        if (!((((att T4414 p1 p3).1) == ((att T4414 p2 p3).1)) && (((((att T4414 p1 p3).2).1) == (((att T4414 p2 p3).2).1)) && ((((((att T4414 p1 p3).2).2).1) == ((((att T4414 p2 p3).2).2).1)) && (((((((att T4414 p1 p3).2).2).2).1) == (((((att T4414 p2 p3).2).2).2).1)) && (((((((((att T4414 p1 p3).2).2).2).2).1).1) == (((((((att T4414 p2 p3).2).2).2).2).1).1)) && (((((((((att T4414 p1 p3).2).2).2).2).1).2) == (((((((att T4414 p2 p3).2).2).2).2).1).2)) && (((((((((att T4414 p1 p3).2).2).2).2).2).1) == (((((((att T4414 p2 p3).2).2).2).2).2).1)) && ((((((((((att T4414 p1 p3).2).2).2).2).2).2).1) == ((((((((att T4414 p2 p3).2).2).2).2).2).2).1)) && (((((((((((att T4414 p1 p3).2).2).2).2).2).2).2).1) == (((((((((att T4414 p2 p3).2).2).2).2).2).2).2).1)) && (((((((((((att T4414 p1 p3).2).2).2).2).2).2).2).2) == (((((((((att T4414 p2 p3).2).2).2).2).2).2).2).2)) && true))))))))))) = true then
          some (false, ())
        else
          L1 p1 p2 (IntKind.i64.wrap (p3 + 1))
      else none
    else none
  else none
else
  some (true, ())
theorem b1_ok {r} {L1 : List T4414.T → List T4414.T → Int → Option R} {m1 : Nat} (hL1 : ∀ p1 p2 p3, L1 p1 p2 p3 = some r → Gw P 0 (Q r) (Pb c0 43 [] m1) (s1 p1 p2 p3)) {k p1 p2 p3} (H : b1 L1 k p1 p2 p3 = some r) : Gw P 0 (Q r) (Px c0 75 [m1]) (s1 p1 p2 p3) := by
  unfold b1 at H
  refine Rg V_ok 0 [] az ?_
  rcases of_ite H with ⟨hb2, H⟩ | ⟨hb2, H⟩
  · refine C1 hb2 ?_
    obtain ⟨n3, H⟩ := of_if H
    obtain ⟨n4, H⟩ := of_if H
    obtain ⟨n5, H⟩ := of_if H
    refine Rg V_ok 0 [] (ac n3 (ac n4 (ac n3 (ac n5 az)))) ?_
    rcases of_ite H with ⟨hb6, H⟩ | ⟨hb6, H⟩
    · refine C1 hb6 ?_
      refine Rg V_ok 0 [] az ?_
      exact Lf (Eq.trans (by kernel_rfl) H)
    · refine C0 hb6 ?_
      refine Rg V_ok 0 [] az ?_
      exact Jm (tn [0, 1, 5] 0) (hL1 p1 p2 (IntKind.i64.wrap (p3 + 1)) H)
  · refine C0 hb2 ?_
    refine Rg V_ok 0 [] az ?_
    exact Lf (Eq.trans (by kernel_rfl) H)
noncomputable def l1 (k : Nat) : Nat → List T4414.T → List T4414.T → Int → Option R
  | 0, _, _, _ => none
  | m + 1, p1, p2, p3 => b1 (l1 k m) k p1 p2 p3
theorem l1_ok {r} (k : Nat) : ∀ (m1 : Nat) (p1 p2 : List T4414.T) (p3 : Int), l1 k m1 p1 p2 p3 = some r → Gw P 0 (Q r) (Pb c0 43 [] m1) (s1 p1 p2 p3)
  | 0, _, _, _, H => by cases H
  | m1 + 1, p1, p2, p3, H => SU (by kernel_rfl) (b1_ok (l1_ok k m1) H)
noncomputable def f (k : Nat) (a1 a2 : List T4414.T) : Option R :=
  if ((a1.length : Int) != (a2.length : Int)) = true then
    some (false, ())
  else
    l1 k k a1 a2 0
noncomputable def S : Spec := ⟨ps, rs, .any, none, fun x r => ∃ k, f k x.1 x.2.1 = some r⟩
theorem rl {k a1 a2 r} (e : f k a1 a2 = some r) : S.rel (a1, a2, ()) r := ⟨k, e⟩
theorem f_ok {r k a1 a2} (H : f k a1 a2 = some r) : Gw P 0 (Q r) (Px c0 1 []) (⟨26, [(0, .cv (.one (.sl T4414 a1 .any))), (1, .cv (.one (.sl T4414 a2 .any)))], []⟩) := by
  unfold f at H
  refine Rg V_ok 0 [] az ?_
  refine Rg V_ok 0 [] az ?_
  rcases of_ite H with ⟨hb1, H⟩ | ⟨hb1, H⟩
  · refine C1 hb1 ?_
    refine Rg V_ok 0 [] az ?_
    exact Lf (Eq.trans (by kernel_rfl) H)
  · refine C0 hb1 ?_
    refine Rg V_ok 0 [] az ?_
    exact LP k (Jm (tn [0, 1, 5] 0) (l1_ok k k a1 a2 0 H))
theorem fits : Fits P 118 S := fits_of V_ok Go.Proofs.Tryz.func118 (by kernel_rfl) (by decide) (by decide) rfl (fun x r ⟨k, H⟩ => of_G (f_ok H))
end f_ref15_Msgs
/-! ### function 74, wayfinder/wayfinderref15.Same -/
namespace f_ref15_Same
noncomputable def c0 : Code := (Go.Proofs.Tryz.f74.body).getD .skip
abbrev ps : Sg := [(true, Tb104), (true, Tb104)]
abbrev rs : Sg := [(false, .bool)]
noncomputable def V : Env := { tt := tt, Γ := slk [(118, f_ref15_Msgs.S)] }
theorem V_ok : EnvOk P V := { ck := tt_ck, fits := slk_cons f_ref15_Msgs.fits (slk_nil), mixed := mixed }
abbrev R := Tup rs
noncomputable abbrev Q (r : R) : Exit → St → Prop := Qr tt Go.Proofs.Tryz.f74.results ⟨ps, rs, .any, none, fun _ _ => True⟩ r
noncomputable def f (k : Nat) (a1 a2 : Tb104.T) : Option R :=
  (f_ref15_Msgs.f k a1.2.2 a2.2.2).bind fun y1 =>
    if y1.1 = true then
      if (a1.1 == a2.1) = true then
        some ((a1.2.1 == a2.2.1), ())
      else
        some (false, ())
    else
      some (false, ())
noncomputable def S : Spec := ⟨ps, rs, .any, none, fun x r => ∃ k, f k x.1 x.2.1 = some r⟩
theorem rl {k a1 a2 r} (e : f k a1 a2 = some r) : S.rel (a1, a2, ()) r := ⟨k, e⟩
theorem f_ok {r k a1 a2} (H : f k a1 a2 = some r) : Gw P 0 (Q r) (Px c0 1 []) (⟨26, [(0, .cv (.agg (encC .any Tb104 a1))), (1, .cv (.agg (encC .any Tb104 a2)))], []⟩) := by
  unfold f at H
  refine Rg V_ok 2 [(0, hb 0), (1, hb 1)] az ?_
  obtain ⟨y1, e2, H⟩ := of_bind H
  refine Rg V_ok 0 [(4, hr f_ref15_Msgs.S y1)] (ac (f_ref15_Msgs.rl e2) az) ?_
  rcases of_ite H with ⟨hb3, H⟩ | ⟨hb3, H⟩
  · rcases of_ite H with ⟨hb4, H⟩ | ⟨hb4, H⟩
    · refine Rg V_ok 0 [(0, {bv := some true}), (7, {bv := some true})] (ac hb3 (ac hb4 az)) ?_
      exact Lf (Eq.trans (by kernel_rfl) H)
    · refine Rg V_ok 0 [(0, {bv := some true}), (7, {bv := some false})] (ac hb3 (ac hb4 az)) ?_
      exact Lf (Eq.trans (by kernel_rfl) H)
  · refine Rg V_ok 0 [(0, {bv := some false})] (ac hb3 az) ?_
    exact Lf (Eq.trans (by kernel_rfl) H)
theorem fits : Fits P 74 S := fits_of V_ok Go.Proofs.Tryz.func74 (by kernel_rfl) (by decide) (by decide) rfl (fun x r ⟨k, H⟩ => of_G (f_ok H))
end f_ref15_Same
/-! ### function 29, wayfinder/wayfinderref21.peers -/
namespace f_ref21_peers
noncomputable def c0 : Code := (Go.Proofs.Tryz.f29.body).getD .skip
abbrev ps : Sg := [(false, (.slice T23b6)), (false, (.slice T23b6))]
abbrev rs : Sg := [(false, .bool)]
noncomputable def V : Env := { tt := tt, Γ := slk [(74, f_ref15_Same.S)] }
theorem V_ok : EnvOk P V := { ck := tt_ck, fits := slk_cons f_ref15_Same.fits (slk_nil), mixed := mixed }
abbrev R := Tup rs
noncomputable abbrev Q (r : R) : Exit → St → Prop := Qr tt Go.Proofs.Tryz.f29.results ⟨ps, rs, .any, none, fun _ _ => True⟩ r
noncomputable def s1 (a1 a2 : List T23b6.T) (p3 : Int) : St := ⟨57, [(0, .cv (.one (.sl T23b6 a1 .any))), (1, .cv (.one (.sl T23b6 a2 .any))), (5, .cv (.one (.i p3)))], []⟩
noncomputable def s2 (a1 a2 : List T23b6.T) (p3 : Int) (p4 : Bool) : St := ⟨57, [(0, .cv (.one (.sl T23b6 a1 .any))), (1, .cv (.one (.sl T23b6 a2 .any))), (5, .cv (.one (.i p3))), (56, .cv (.one (.bool p4)))], []⟩
noncomputable def j2 (a1 a2 : List T23b6.T) (L1 : Int → Option R) (k : Nat) (p3 : Int) (p4 : Bool) : Option R :=
  if p4 = true then
  some (false, ())
else
  L1 (IntKind.i64.wrap (p3 + 1))
theorem j2_ok {r a1 a2} {L1 : Int → Option R} {m1 : Nat} (hL1 : ∀ p3, L1 p3 = some r → Gw P 0 (Q r) (Pb c0 43 [] m1) (s1 a1 a2 p3)) {k p3 p4} (H : j2 a1 a2 L1 k p3 p4 = some r) : Gw P 0 (Q r) (Px c0 3659 [m1]) (s2 a1 a2 p3 p4) := by
  unfold j2 at H
  rcases of_ite H with ⟨hb9, H⟩ | ⟨hb9, H⟩
  · refine C1 hb9 ?_
    refine Rg V_ok 0 [] az ?_
    exact Lf (Eq.trans (by kernel_rfl) H)
  · refine C0 hb9 ?_
    refine Rg V_ok 0 [] az ?_
    exact Jm (tn [0, 1, 5] 0) (hL1 (IntKind.i64.wrap (p3 + 1)) H)
noncomputable def b1 (a1 a2 : List T23b6.T) (L1 : Int → Option R) (k : Nat) (p3 : Int) : Option R :=
  if (decide (p3 < (a1.length : Int))) = true then
  if 0 ≤ p3 then
    if p3 < (a1.length : Int) then
      if p3 < (a2.length : Int) then
        (f_ref15_Same.f k (((att T23b6 a1 p3).2).2) (((att T23b6 a2 p3).2).2)).bind fun y3 =>
          if (!y3.1) = true then
            j2 a1 a2 L1 k p3 true
          else
            if (((att T23b6 a1 p3).1) != ((att T23b6 a2 p3).1)) = true then
              j2 a1 a2 L1 k p3 true
            else
              j2 a1 a2 L1 k p3 ((((att T23b6 a1 p3).2).1) != (((att T23b6 a2 p3).2).1))
      else none
    else none
  else none
else
  some (true, ())
theorem b1_ok {r a1 a2} {L1 : Int → Option R} {m1 : Nat} (hL1 : ∀ p3, L1 p3 = some r → Gw P 0 (Q r) (Pb c0 43 [] m1) (s1 a1 a2 p3)) {k p3} (H : b1 a1 a2 L1 k p3 = some r) : Gw P 0 (Q r) (Px c0 75 [m1]) (s1 a1 a2 p3) := by
  unfold b1 at H
  refine Rg V_ok 0 [] az ?_
  rcases of_ite H with ⟨hb2, H⟩ | ⟨hb2, H⟩
  · refine C1 hb2 ?_
    obtain ⟨n4, H⟩ := of_if H
    obtain ⟨n5, H⟩ := of_if H
    obtain ⟨n6, H⟩ := of_if H
    obtain ⟨y3, e7, H⟩ := of_bind H
    refine Rg V_ok 0 [(10, hr f_ref15_Same.S y3)] (ac n4 (ac n5 (ac n4 (ac n6 (ac (f_ref15_Same.rl e7) az))))) ?_
    rcases of_ite H with ⟨hb8, H⟩ | ⟨hb8, H⟩
    · refine Rg V_ok 0 [(1, {bv := some true})] (ac hb8 az) ?_
      exact Jm (tn [0, 1, 5, 56] 0) (j2_ok hL1 H)
    · rcases of_ite H with ⟨hb10, H⟩ | ⟨hb10, H⟩
      · refine Rg V_ok 0 [(1, {bv := some false}), (14, {bv := some true})] (ac hb8 (ac n4 (ac n5 (ac n4 (ac n6 (ac hb10 az)))))) ?_
        exact Jm (tn [0, 1, 5, 56] 0) (j2_ok hL1 H)
      · refine Rg V_ok 0 [(1, {bv := some false}), (14, {bv := some false})] (ac hb8 (ac n4 (ac n5 (ac n4 (ac n6 (ac hb10 (ac n4 (ac n5 (ac n4 (ac n6 az)))))))))) ?_
        exact Jm (tn [0, 1, 5, 56] 0) (j2_ok hL1 H)
  · refine C0 hb2 ?_
    refine Rg V_ok 0 [] az ?_
    exact Lf (Eq.trans (by kernel_rfl) H)
noncomputable def l1 (a1 a2 : List T23b6.T) (k : Nat) : Nat → Int → Option R
  | 0, _ => none
  | m + 1, p3 => b1 a1 a2 (l1 a1 a2 k m) k p3
theorem l1_ok {r a1 a2} (k : Nat) : ∀ (m1 : Nat) (p3 : Int), l1 a1 a2 k m1 p3 = some r → Gw P 0 (Q r) (Pb c0 43 [] m1) (s1 a1 a2 p3)
  | 0, _, H => by cases H
  | m1 + 1, p3, H => SU (by kernel_rfl) (b1_ok (l1_ok k m1) H)
noncomputable def f (k : Nat) (a1 a2 : List T23b6.T) : Option R :=
  if ((a1.length : Int) != (a2.length : Int)) = true then
    some (false, ())
  else
    l1 a1 a2 k k 0
noncomputable def S : Spec := ⟨ps, rs, .any, none, fun x r => ∃ k, f k x.1 x.2.1 = some r⟩
theorem rl {k a1 a2 r} (e : f k a1 a2 = some r) : S.rel (a1, a2, ()) r := ⟨k, e⟩
theorem f_ok {r k a1 a2} (H : f k a1 a2 = some r) : Gw P 0 (Q r) (Px c0 1 []) (⟨57, [(0, .cv (.one (.sl T23b6 a1 .any))), (1, .cv (.one (.sl T23b6 a2 .any)))], []⟩) := by
  unfold f at H
  refine Rg V_ok 0 [] az ?_
  refine Rg V_ok 0 [] az ?_
  rcases of_ite H with ⟨hb1, H⟩ | ⟨hb1, H⟩
  · refine C1 hb1 ?_
    refine Rg V_ok 0 [] az ?_
    exact Lf (Eq.trans (by kernel_rfl) H)
  · refine C0 hb1 ?_
    refine Rg V_ok 0 [] az ?_
    exact LP k (Jm (tn [0, 1, 5] 0) (l1_ok k k 0 H))
theorem fits : Fits P 29 S := fits_of V_ok Go.Proofs.Tryz.func29 (by kernel_rfl) (by decide) (by decide) rfl (fun x r ⟨k, H⟩ => of_G (f_ok H))
end f_ref21_peers
/-! ### function 30, wayfinder/wayfinderref21.given -/
namespace f_ref21_given
noncomputable def c0 : Code := (Go.Proofs.Tryz.f30.body).getD .skip
abbrev ps : Sg := [(false, (.slice T713d)), (false, (.slice T713d))]
abbrev rs : Sg := [(false, .bool)]
noncomputable def V : Env := { tt := tt, Γ := slk [] }
theorem V_ok : EnvOk P V := { ck := tt_ck, fits := slk_nil, mixed := mixed }
abbrev R := Tup rs
noncomputable abbrev Q (r : R) : Exit → St → Prop := Qr tt Go.Proofs.Tryz.f30.results ⟨ps, rs, .any, none, fun _ _ => True⟩ r
noncomputable def s1 (a1 a2 : List T713d.T) (p3 : Int) : St := ⟨26, [(0, .cv (.one (.sl T713d a1 .any))), (1, .cv (.one (.sl T713d a2 .any))), (5, .cv (.one (.i p3)))], []⟩
noncomputable def b1 (a1 a2 : List T713d.T) (L1 : Int → Option R) (k : Nat) (p3 : Int) : Option R :=
  if (decide (p3 < (a1.length : Int))) = true then
  if 0 ≤ p3 then
    if p3 < (a1.length : Int) then
      if p3 < (a2.length : Int) then
        if (!((((att T713d a1 p3).1) == ((att T713d a2 p3).1)) && ((((att T713d a1 p3).2) == ((att T713d a2 p3).2)) && true))) = true then
          some (false, ())
        else
          L1 (IntKind.i64.wrap (p3 + 1))
      else none
    else none
  else none
else
  some (true, ())
theorem b1_ok {r a1 a2} {L1 : Int → Option R} {m1 : Nat} (hL1 : ∀ p3, L1 p3 = some r → Gw P 0 (Q r) (Pb c0 43 [] m1) (s1 a1 a2 p3)) {k p3} (H : b1 a1 a2 L1 k p3 = some r) : Gw P 0 (Q r) (Px c0 75 [m1]) (s1 a1 a2 p3) := by
  unfold b1 at H
  refine Rg V_ok 0 [] az ?_
  rcases of_ite H with ⟨hb2, H⟩ | ⟨hb2, H⟩
  · refine C1 hb2 ?_
    obtain ⟨n3, H⟩ := of_if H
    obtain ⟨n4, H⟩ := of_if H
    obtain ⟨n5, H⟩ := of_if H
    refine Rg V_ok 0 [] (ac n3 (ac n4 (ac n3 (ac n5 az)))) ?_
    rcases of_ite H with ⟨hb6, H⟩ | ⟨hb6, H⟩
    · refine C1 hb6 ?_
      refine Rg V_ok 0 [] az ?_
      exact Lf (Eq.trans (by kernel_rfl) H)
    · refine C0 hb6 ?_
      refine Rg V_ok 0 [] az ?_
      exact Jm (tn [0, 1, 5] 0) (hL1 (IntKind.i64.wrap (p3 + 1)) H)
  · refine C0 hb2 ?_
    refine Rg V_ok 0 [] az ?_
    exact Lf (Eq.trans (by kernel_rfl) H)
noncomputable def l1 (a1 a2 : List T713d.T) (k : Nat) : Nat → Int → Option R
  | 0, _ => none
  | m + 1, p3 => b1 a1 a2 (l1 a1 a2 k m) k p3
theorem l1_ok {r a1 a2} (k : Nat) : ∀ (m1 : Nat) (p3 : Int), l1 a1 a2 k m1 p3 = some r → Gw P 0 (Q r) (Pb c0 43 [] m1) (s1 a1 a2 p3)
  | 0, _, H => by cases H
  | m1 + 1, p3, H => SU (by kernel_rfl) (b1_ok (l1_ok k m1) H)
noncomputable def f (k : Nat) (a1 a2 : List T713d.T) : Option R :=
  if ((a1.length : Int) != (a2.length : Int)) = true then
    some (false, ())
  else
    l1 a1 a2 k k 0
noncomputable def S : Spec := ⟨ps, rs, .any, none, fun x r => ∃ k, f k x.1 x.2.1 = some r⟩
theorem rl {k a1 a2 r} (e : f k a1 a2 = some r) : S.rel (a1, a2, ()) r := ⟨k, e⟩
theorem f_ok {r k a1 a2} (H : f k a1 a2 = some r) : Gw P 0 (Q r) (Px c0 1 []) (⟨26, [(0, .cv (.one (.sl T713d a1 .any))), (1, .cv (.one (.sl T713d a2 .any)))], []⟩) := by
  unfold f at H
  refine Rg V_ok 0 [] az ?_
  refine Rg V_ok 0 [] az ?_
  rcases of_ite H with ⟨hb1, H⟩ | ⟨hb1, H⟩
  · refine C1 hb1 ?_
    refine Rg V_ok 0 [] az ?_
    exact Lf (Eq.trans (by kernel_rfl) H)
  · refine C0 hb1 ?_
    refine Rg V_ok 0 [] az ?_
    exact LP k (Jm (tn [0, 1, 5] 0) (l1_ok k k 0 H))
theorem fits : Fits P 30 S := fits_of V_ok Go.Proofs.Tryz.func30 (by kernel_rfl) (by decide) (by decide) rfl (fun x r ⟨k, H⟩ => of_G (f_ok H))
end f_ref21_given
/-! ### function 31, wayfinder/wayfinderref02.Ints -/
namespace f_ref02_Ints
noncomputable def c0 : Code := (Go.Proofs.Tryz.f31.body).getD .skip
abbrev ps : Sg := [(false, (.slice (.int .i64))), (false, (.slice (.int .i64)))]
abbrev rs : Sg := [(false, .bool)]
noncomputable def V : Env := { tt := tt, Γ := slk [] }
theorem V_ok : EnvOk P V := { ck := tt_ck, fits := slk_nil, mixed := mixed }
abbrev R := Tup rs
noncomputable abbrev Q (r : R) : Exit → St → Prop := Qr tt Go.Proofs.Tryz.f31.results ⟨ps, rs, .any, none, fun _ _ => True⟩ r
noncomputable def s1 (p1 p2 : List Int) (p3 : Int) : St := ⟨26, [(0, .cv (.one (.sl (.int .i64) p1 .any))), (1, .cv (.one (.sl (.int .i64) p2 .any))), (5, .cv (.one (.i p3)))], []⟩
noncomputable def b1 (L1 : List Int → List Int → Int → Option R) (k : Nat) (p1 p2 : List Int) (p3 : Int) : Option R :=
  if (decide (p3 < (p1.length : Int))) = true then
  if 0 ≤ p3 then
    if p3 < (p1.length : Int) then
      if p3 < (p2.length : Int) then
        if ((att (.int .i64) p1 p3) != (att (.int .i64) p2 p3)) = true then
          some (false, ())
        else
          L1 p1 p2 (IntKind.i64.wrap (p3 + 1))
      else none
    else none
  else none
else
  some (true, ())
theorem b1_ok {r} {L1 : List Int → List Int → Int → Option R} {m1 : Nat} (hL1 : ∀ p1 p2 p3, L1 p1 p2 p3 = some r → Gw P 0 (Q r) (Pb c0 43 [] m1) (s1 p1 p2 p3)) {k p1 p2 p3} (H : b1 L1 k p1 p2 p3 = some r) : Gw P 0 (Q r) (Px c0 75 [m1]) (s1 p1 p2 p3) := by
  unfold b1 at H
  refine Rg V_ok 0 [] az ?_
  rcases of_ite H with ⟨hb2, H⟩ | ⟨hb2, H⟩
  · refine C1 hb2 ?_
    obtain ⟨n3, H⟩ := of_if H
    obtain ⟨n4, H⟩ := of_if H
    obtain ⟨n5, H⟩ := of_if H
    refine Rg V_ok 0 [] (ac n3 (ac n4 (ac n3 (ac n5 az)))) ?_
    rcases of_ite H with ⟨hb6, H⟩ | ⟨hb6, H⟩
    · refine C1 hb6 ?_
      refine Rg V_ok 0 [] az ?_
      exact Lf (Eq.trans (by kernel_rfl) H)
    · refine C0 hb6 ?_
      refine Rg V_ok 0 [] az ?_
      exact Jm (tn [0, 1, 5] 0) (hL1 p1 p2 (IntKind.i64.wrap (p3 + 1)) H)
  · refine C0 hb2 ?_
    refine Rg V_ok 0 [] az ?_
    exact Lf (Eq.trans (by kernel_rfl) H)
noncomputable def l1 (k : Nat) : Nat → List Int → List Int → Int → Option R
  | 0, _, _, _ => none
  | m + 1, p1, p2, p3 => b1 (l1 k m) k p1 p2 p3
theorem l1_ok {r} (k : Nat) : ∀ (m1 : Nat) (p1 p2 : List Int) (p3 : Int), l1 k m1 p1 p2 p3 = some r → Gw P 0 (Q r) (Pb c0 43 [] m1) (s1 p1 p2 p3)
  | 0, _, _, _, H => by cases H
  | m1 + 1, p1, p2, p3, H => SU (by kernel_rfl) (b1_ok (l1_ok k m1) H)
noncomputable def f (k : Nat) (a1 a2 : List Int) : Option R :=
  if ((a1.length : Int) != (a2.length : Int)) = true then
    some (false, ())
  else
    l1 k k a1 a2 0
noncomputable def S : Spec := ⟨ps, rs, .any, none, fun x r => ∃ k, f k x.1 x.2.1 = some r⟩
theorem rl {k a1 a2 r} (e : f k a1 a2 = some r) : S.rel (a1, a2, ()) r := ⟨k, e⟩
theorem f_ok {r k a1 a2} (H : f k a1 a2 = some r) : Gw P 0 (Q r) (Px c0 1 []) (⟨26, [(0, .cv (.one (.sl (.int .i64) a1 .any))), (1, .cv (.one (.sl (.int .i64) a2 .any)))], []⟩) := by
  unfold f at H
  refine Rg V_ok 0 [] az ?_
  refine Rg V_ok 0 [] az ?_
  rcases of_ite H with ⟨hb1, H⟩ | ⟨hb1, H⟩
  · refine C1 hb1 ?_
    refine Rg V_ok 0 [] az ?_
    exact Lf (Eq.trans (by kernel_rfl) H)
  · refine C0 hb1 ?_
    refine Rg V_ok 0 [] az ?_
    exact LP k (Jm (tn [0, 1, 5] 0) (l1_ok k k a1 a2 0 H))
theorem fits : Fits P 31 S := fits_of V_ok Go.Proofs.Tryz.func31 (by kernel_rfl) (by decide) (by decide) rfl (fun x r ⟨k, H⟩ => of_G (f_ok H))
end f_ref02_Ints
/-! ### function 9, wayfinder/wayfinderref21.Same -/
namespace f_ref21_Same
noncomputable def c0 : Code := (Go.Proofs.Tryz.f9.body).getD .skip
abbrev ps : Sg := [(true, T26b3), (true, T26b3)]
abbrev rs : Sg := [(false, .bool)]
noncomputable def V : Env := { tt := tt, Γ := slk [(28, f_ref21_Confs.S), (29, f_ref21_peers.S), (30, f_ref21_given.S), (31, f_ref02_Ints.S)] }
theorem V_ok : EnvOk P V := { ck := tt_ck, fits := slk_cons f_ref21_Confs.fits (slk_cons f_ref21_peers.fits (slk_cons f_ref21_given.fits (slk_cons f_ref02_Ints.fits (slk_nil)))), mixed := mixed }
abbrev R := Tup rs
noncomputable abbrev Q (r : R) : Exit → St → Prop := Qr tt Go.Proofs.Tryz.f9.results ⟨ps, rs, .any, none, fun _ _ => True⟩ r
noncomputable def s2 (a1 a2 : T26b3.T) (p1 p2 p3 p4 p5 p6 p7 : Bool) : St := ⟨110, [(2, .cv (.one (.ptr 0 0))), (3, .cv (.one (.ptr 1 0))), (5, .cv (.one (.bool p1))), (6, .cv (.one (.bool p2))), (7, .cv (.one (.bool p3))), (8, .cv (.one (.bool p4))), (9, .cv (.one (.bool p5))), (10, .cv (.one (.bool p6))), (11, .cv (.one (.bool p7)))], [(.box 13, (encC .any T26b3 a1)), (.box 13, (encC .any T26b3 a2))]⟩
noncomputable def s1 (p1 p2 p3 p4 p5 p6 p7 p8 : Bool) : St := ⟨110, [(5, .cv (.one (.bool p1))), (6, .cv (.one (.bool p2))), (7, .cv (.one (.bool p3))), (8, .cv (.one (.bool p4))), (9, .cv (.one (.bool p5))), (10, .cv (.one (.bool p6))), (11, .cv (.one (.bool p7))), (12, .cv (.one (.bool p8)))], []⟩
noncomputable def j1 (k : Nat) (p1 p2 p3 p4 p5 p6 p7 p8 : Bool) : Option R :=
  if p1 = true then
  if p2 = true then
    if p3 = true then
      if p4 = true then
        if p5 = true then
          if p6 = true then
            if p7 = true then
              some (p8, ())
            else
              some (false, ())
          else
            some (false, ())
        else
          some (false, ())
      else
        some (false, ())
    else
      some (false, ())
  else
    some (false, ())
else
  some (false, ())
theorem j1_ok {r} {k p1 p2 p3 p4 p5 p6 p7 p8} (H : j1 k p1 p2 p3 p4 p5 p6 p7 p8 = some r) : Gw P 0 (Q r) (Px c0 1023 []) (s1 p1 p2 p3 p4 p5 p6 p7 p8) := by
  unfold j1 at H
  rcases of_ite H with ⟨hb18, H⟩ | ⟨hb18, H⟩
  · rcases of_ite H with ⟨hb19, H⟩ | ⟨hb19, H⟩
    · rcases of_ite H with ⟨hb20, H⟩ | ⟨hb20, H⟩
      · rcases of_ite H with ⟨hb21, H⟩ | ⟨hb21, H⟩
        · rcases of_ite H with ⟨hb22, H⟩ | ⟨hb22, H⟩
          · rcases of_ite H with ⟨hb23, H⟩ | ⟨hb23, H⟩
            · rcases of_ite H with ⟨hb24, H⟩ | ⟨hb24, H⟩
              · refine Rg V_ok 0 [(0, {bv := some true}), (3, {bv := some true}), (6, {bv := some true}), (9, {bv := some true}), (12, {bv := some true}), (15, {bv := some true}), (18, {bv := some true})] (ac hb18 (ac hb19 (ac hb20 (ac hb21 (ac hb22 (ac hb23 (ac hb24 az))))))) ?_
                exact Lf (Eq.trans (by kernel_rfl) H)
              · refine Rg V_ok 0 [(0, {bv := some true}), (3, {bv := some true}), (6, {bv := some true}), (9, {bv := some true}), (12, {bv := some true}), (15, {bv := some true}), (18, {bv := some false})] (ac hb18 (ac hb19 (ac hb20 (ac hb21 (ac hb22 (ac hb23 (ac hb24 az))))))) ?_
                exact Lf (Eq.trans (by kernel_rfl) H)
            · refine Rg V_ok 0 [(0, {bv := some true}), (3, {bv := some true}), (6, {bv := some true}), (9, {bv := some true}), (12, {bv := some true}), (15, {bv := some false})] (ac hb18 (ac hb19 (ac hb20 (ac hb21 (ac hb22 (ac hb23 az)))))) ?_
              exact Lf (Eq.trans (by kernel_rfl) H)
          · refine Rg V_ok 0 [(0, {bv := some true}), (3, {bv := some true}), (6, {bv := some true}), (9, {bv := some true}), (12, {bv := some false})] (ac hb18 (ac hb19 (ac hb20 (ac hb21 (ac hb22 az))))) ?_
            exact Lf (Eq.trans (by kernel_rfl) H)
        · refine Rg V_ok 0 [(0, {bv := some true}), (3, {bv := some true}), (6, {bv := some true}), (9, {bv := some false})] (ac hb18 (ac hb19 (ac hb20 (ac hb21 az)))) ?_
          exact Lf (Eq.trans (by kernel_rfl) H)
      · refine Rg V_ok 0 [(0, {bv := some true}), (3, {bv := some true}), (6, {bv := some false})] (ac hb18 (ac hb19 (ac hb20 az))) ?_
        exact Lf (Eq.trans (by kernel_rfl) H)
    · refine Rg V_ok 0 [(0, {bv := some true}), (3, {bv := some false})] (ac hb18 (ac hb19 az)) ?_
      exact Lf (Eq.trans (by kernel_rfl) H)
  · refine Rg V_ok 0 [(0, {bv := some false})] (ac hb18 az) ?_
    exact Lf (Eq.trans (by kernel_rfl) H)
noncomputable def j2 (a1 a2 : T26b3.T) (k : Nat) (p1 p2 p3 p4 p5 p6 p7 : Bool) : Option R :=
  if (a1.2.2.2.2.2.1 == a2.2.2.2.2.2.1) = true then
  if (a1.2.2.2.2.2.2.1 == a2.2.2.2.2.2.2.1) = true then
    j1 k p1 p2 p3 p4 p5 p6 p7 (a1.2.2.2.2.2.2.2.2.2.2.2.2 == a2.2.2.2.2.2.2.2.2.2.2.2.2)
  else
    j1 k p1 p2 p3 p4 p5 p6 p7 false
else
  j1 k p1 p2 p3 p4 p5 p6 p7 false
theorem j2_ok {r a1 a2} {k p1 p2 p3 p4 p5 p6 p7} (H : j2 a1 a2 k p1 p2 p3 p4 p5 p6 p7 = some r) : Gw P 0 (Q r) (Px c0 511 []) (s2 a1 a2 p1 p2 p3 p4 p5 p6 p7) := by
  unfold j2 at H
  rcases of_ite H with ⟨hb16, H⟩ | ⟨hb16, H⟩
  · rcases of_ite H with ⟨hb17, H⟩ | ⟨hb17, H⟩
    · refine Rg V_ok 0 [(4, {bv := some true}), (11, {bv := some true})] (ac hb16 (ac hb17 az)) ?_
      exact Jm (tn [5, 6, 7, 8, 9, 10, 11, 12] 0) (j1_ok H)
    · refine Rg V_ok 0 [(4, {bv := some true}), (11, {bv := some false})] (ac hb16 (ac hb17 az)) ?_
      exact Jm (tn [5, 6, 7, 8, 9, 10, 11, 12] 0) (j1_ok H)
  · refine Rg V_ok 0 [(4, {bv := some false})] (ac hb16 az) ?_
    exact Jm (tn [5, 6, 7, 8, 9, 10, 11, 12] 0) (j1_ok H)
noncomputable def f (k : Nat) (a1 a2 : T26b3.T) : Option R :=
  (f_ref21_Confs.f k a1.1 a2.1).bind fun y1 =>
    (f_ref21_peers.f k a1.2.2.2.2.2.2.2.2.1 a2.2.2.2.2.2.2.2.2.1).bind fun y3 =>
      (f_ref21_given.f k a1.2.2.2.2.2.2.2.2.2.1 a2.2.2.2.2.2.2.2.2.2.1).bind fun y5 =>
        (f_ref02_Ints.f k a1.2.2.2.2.2.2.2.1 a2.2.2.2.2.2.2.2.1).bind fun y7 =>
          (f_ref02_Ints.f k a1.2.2.2.2.2.2.2.2.2.2.1 a2.2.2.2.2.2.2.2.2.2.2.1).bind fun y9 =>
            (f_ref02_Ints.f k a1.2.2.2.2.2.2.2.2.2.2.2.1 a2.2.2.2.2.2.2.2.2.2.2.2.1).bind fun y11 =>
              if (a1.2.1 == a2.2.1) = true then
                if (a1.2.2.1 == a2.2.2.1) = true then
                  if (a1.2.2.2.1 == a2.2.2.2.1) = true then
                    j2 a1 a2 k y1.1 y3.1 y5.1 y7.1 y9.1 y11.1 (a1.2.2.2.2.1 == a2.2.2.2.2.1)
                  else
                    j2 a1 a2 k y1.1 y3.1 y5.1 y7.1 y9.1 y11.1 false
                else
                  j2 a1 a2 k y1.1 y3.1 y5.1 y7.1 y9.1 y11.1 false
              else
                j2 a1 a2 k y1.1 y3.1 y5.1 y7.1 y9.1 y11.1 false
noncomputable def S : Spec := ⟨ps, rs, .any, none, fun x r => ∃ k, f k x.1 x.2.1 = some r⟩
theorem rl {k a1 a2 r} (e : f k a1 a2 = some r) : S.rel (a1, a2, ()) r := ⟨k, e⟩
theorem f_ok {r k a1 a2} (H : f k a1 a2 = some r) : Gw P 0 (Q r) (Px c0 1 []) (⟨110, [(0, .cv (.agg (encC .any T26b3 a1))), (1, .cv (.agg (encC .any T26b3 a2)))], []⟩) := by
  unfold f at H
  refine Rg V_ok 2 [(0, hb 0), (1, hb 1)] az ?_
  obtain ⟨y1, e2, H⟩ := of_bind H
  refine Rg V_ok 0 [(4, hr f_ref21_Confs.S y1)] (ac (f_ref21_Confs.rl e2) az) ?_
  obtain ⟨y3, e4, H⟩ := of_bind H
  refine Rg V_ok 0 [(4, hr f_ref21_peers.S y3)] (ac (f_ref21_peers.rl e4) az) ?_
  obtain ⟨y5, e6, H⟩ := of_bind H
  refine Rg V_ok 0 [(4, hr f_ref21_given.S y5)] (ac (f_ref21_given.rl e6) az) ?_
  obtain ⟨y7, e8, H⟩ := of_bind H
  refine Rg V_ok 0 [(4, hr f_ref02_Ints.S y7)] (ac (f_ref02_Ints.rl e8) az) ?_
  obtain ⟨y9, e10, H⟩ := of_bind H
  refine Rg V_ok 0 [(4, hr f_ref02_Ints.S y9)] (ac (f_ref02_Ints.rl e10) az) ?_
  obtain ⟨y11, e12, H⟩ := of_bind H
  refine Rg V_ok 0 [(4, hr f_ref02_Ints.S y11)] (ac (f_ref02_Ints.rl e12) az) ?_
  rcases of_ite H with ⟨hb13, H⟩ | ⟨hb13, H⟩
  · rcases of_ite H with ⟨hb14, H⟩ | ⟨hb14, H⟩
    · rcases of_ite H with ⟨hb15, H⟩ | ⟨hb15, H⟩
      · refine Rg V_ok 0 [(4, {bv := some true}), (11, {bv := some true}), (18, {bv := some true})] (ac hb13 (ac hb14 (ac hb15 az))) ?_
        exact Jm (tn [2, 3, 5, 6, 7, 8, 9, 10, 11] 2) (j2_ok H)
      · refine Rg V_ok 0 [(4, {bv := some true}), (11, {bv := some true}), (18, {bv := some false})] (ac hb13 (ac hb14 (ac hb15 az))) ?_
        exact Jm (tn [2, 3, 5, 6, 7, 8, 9, 10, 11] 2) (j2_ok H)
    · refine Rg V_ok 0 [(4, {bv := some true}), (11, {bv := some false})] (ac hb13 (ac hb14 az)) ?_
      exact Jm (tn [2, 3, 5, 6, 7, 8, 9, 10, 11] 2) (j2_ok H)
  · refine Rg V_ok 0 [(4, {bv := some false})] (ac hb13 az) ?_
    exact Jm (tn [2, 3, 5, 6, 7, 8, 9, 10, 11] 2) (j2_ok H)
theorem fits : Fits P 9 S := fits_of V_ok Go.Proofs.Tryz.func9 (by kernel_rfl) (by decide) (by decide) rfl (fun x r ⟨k, H⟩ => of_G (f_ok H))
end f_ref21_Same
/-! ### function 16, wayfinder/wayfinderref21.New -/
namespace f_ref21_New
noncomputable def c0 : Code := (Go.Proofs.Tryz.f16.body).getD .skip
abbrev ps : Sg := [(true, T5477)]
abbrev rs : Sg := [(true, T26b3)]
noncomputable def V : Env := { tt := tt, Γ := slk [] }
theorem V_ok : EnvOk P V := { ck := tt_ck, fits := slk_nil, mixed := mixed }
abbrev R := Tup rs
noncomputable abbrev Q (r : R) : Exit → St → Prop := Qr tt Go.Proofs.Tryz.f16.results ⟨ps, rs, .any, none, fun _ _ => True⟩ r
noncomputable def s1 (p1 p2 p3 p4 p5 p6 p7 p8 : Int) : St := ⟨18, [(2, .cv (.one (.ptr 0 0))), (3, .cv (.one (.i p1)))], [(.box 13, [.nils, .i p2, .i p3, .i p4, .i p5, .i p6, .i p7, .nils, .nils, .nils, .nils, .nils, .i p8])]⟩
noncomputable def s2 (p1 p2 p3 p4 p5 p6 p7 p8 : Int) : St := ⟨18, [(2, .cv (.one (.ptr 0 0))), (3, .cv (.one (.i p1)))], [(.box 13, [.nils, .i p2, .i p3, .i p4, .i p5, .i p6, .i p7, .nils, .nils, .nils, .nils, .nils, .i p8])]⟩
noncomputable def j2 (k : Nat) (p1 p2 p3 p4 p5 p6 p7 p8 : Int) : Option R :=
  if 0 ≤ p1 ∧ p1 = p1 ∧ (24 : Int) * p1 ≤ 140737488355328 ∧ p1 ≤ 140737488355328 then
  if 0 ≤ p1 ∧ p1 = p1 ∧ (56 : Int) * p1 ≤ 140737488355328 ∧ p1 ≤ 140737488355328 then
    some (([(List.replicate p1.toNat ([] : List T1383.T))], (0, (-1, (1, (0, (0, (0, ([], ((List.replicate p1.toNat ((0, (0, (0, (0, [])))) : T23b6.T)), ([(1, 0)], ([], ([], 0)))))))))))), ())
  else none
else none
theorem j2_ok {r} {k p1 p2 p3 p4 p5 p6 p7 p8} (H : j2 k p1 p2 p3 p4 p5 p6 p7 p8 = some r) : Gw P 0 (Q r) (Px c0 31 []) (s2 p1 p2 p3 p4 p5 p6 p7 p8) := by
  unfold j2 at H
  obtain ⟨n3, H⟩ := of_if H
  obtain ⟨n4, H⟩ := of_if H
  refine Rg V_ok 1 [(1, ho), (4, hb 1)] (ac n3 (ac n4 az)) ?_
  exact Lf (Eq.trans (by kernel_rfl) H)
noncomputable def j1 (k : Nat) (p1 p2 p3 p4 p5 p6 p7 p8 : Int) : Option R :=
  if (decide (p1 > (100 : Int))) = true then
  j2 k 100 p2 p3 p4 p5 p6 p7 p8
else
  j2 k p1 p2 p3 p4 p5 p6 p7 p8
theorem j1_ok {r} {k p1 p2 p3 p4 p5 p6 p7 p8} (H : j1 k p1 p2 p3 p4 p5 p6 p7 p8 = some r) : Gw P 0 (Q r) (Px c0 15 []) (s1 p1 p2 p3 p4 p5 p6 p7 p8) := by
  unfold j1 at H
  refine Rg V_ok 0 [] az ?_
  rcases of_ite H with ⟨hb2, H⟩ | ⟨hb2, H⟩
  · refine C1 hb2 ?_
    refine Rg V_ok 0 [] az ?_
    exact Jm (tn [2, 3] 1) (j2_ok H)
  · refine C0 hb2 ?_
    exact Jm (tn [2, 3] 1) (j2_ok H)
noncomputable def f (k : Nat) (a1 : T5477.T) : Option R :=
  if (decide (a1.1 < (0 : Int))) = true then
    j1 k 0 0 0 0 0 0 0 0
  else
    j1 k a1.1 0 0 0 0 0 0 0
noncomputable def S : Spec := ⟨ps, rs, .any, none, fun x r => ∃ k, f k x.1 = some r⟩
theorem rl {k a1 r} (e : f k a1 = some r) : S.rel (a1, ()) r := ⟨k, e⟩
theorem f_ok {r k a1} (H : f k a1 = some r) : Gw P 0 (Q r) (Px c0 1 []) (⟨18, [(0, .cv (.agg (encC .any T5477 a1)))], []⟩) := by
  unfold f at H
  refine Rg V_ok 2 [(0, hb 0), (1, hb 1)] az ?_
  refine Rg V_ok 0 [] az ?_
  refine Rg V_ok 0 [] az ?_
  rcases of_ite H with ⟨hb1, H⟩ | ⟨hb1, H⟩
  · refine C1 hb1 ?_
    refine Rg V_ok 0 [] az ?_
    exact Jm (tl [2, 3] [1]) (j1_ok H)
  · refine C0 hb1 ?_
    exact Jm (tl [2, 3] [1]) (j1_ok H)
theorem fits : Fits P 16 S := fits_of V_ok Go.Proofs.Tryz.func16 (by kernel_rfl) (by decide) (by decide) rfl (fun x r ⟨k, H⟩ => of_G (f_ok H))
end f_ref21_New
/-! ### function 4, wayfinder/wayfinderlaw21.ControlAsked -/
namespace f_law21_ControlAsked
noncomputable def c0 : Code := (Go.Proofs.Tryz.f4.body).getD .skip
abbrev ps : Sg := [(true, T26b3), (true, T5477), (false, (.slice (.slice T1383)))]
abbrev rs : Sg := [(false, .bool)]
noncomputable def V : Env := { tt := tt, Γ := slk [(7, f_law21_awake.S), (8, f_law21_Few.S), (9, f_ref21_Same.S), (12, f_law12_Few.S), (13, f_control_Update.S), (14, f_ref21_Update.S), (15, f_control_New.S), (16, f_ref21_New.S)] }
theorem V_ok : EnvOk P V := { ck := tt_ck, fits := slk_cons f_law21_awake.fits (slk_cons f_law21_Few.fits (slk_cons f_ref21_Same.fits (slk_cons f_law12_Few.fits (slk_cons f_control_Update.fits (slk_cons f_ref21_Update.fits (slk_cons f_control_New.fits (slk_cons f_ref21_New.fits (slk_nil)))))))), mixed := mixed }
abbrev R := Tup rs
noncomputable abbrev Q (r : R) : Exit → St → Prop := Qr tt Go.Proofs.Tryz.f4.results ⟨ps, rs, .any, none, fun _ _ => True⟩ r
noncomputable def s1 (a1 : T26b3.T) (a2 : T5477.T) (a3 : List (List T1383.T)) (p2 p3 : Bool) : St := ⟨69, [(2, .cv (.one (.sl (.slice T1383) a3 .any))), (3, .cv (.one (.ptr 0 0))), (4, .cv (.one (.ptr 1 0))), (7, .cv (.one (.bool p2))), (36, .cv (.one (.bool p3)))], [(.box 13, (encC .any T26b3 a1)), (.box 3, (encC .any T5477 a2))]⟩
noncomputable def j1 (a1 : T26b3.T) (a2 : T5477.T) (a3 : List (List T1383.T)) (k : Nat) (p2 p3 : Bool) : Option R :=
  if p3 = true then
  some (p2, ())
else
  (f_control_Update.f k a1 a2 a3).bind fun y9 =>
    (f_ref21_Update.f k a1 a2 a3).bind fun y11 =>
      (f_ref21_Same.f k y9.1 y11.1).bind fun y13 =>
        (f_control_New.f k a2).bind fun y15 =>
          (f_ref21_New.f k a2).bind fun y16 =>
            (f_ref21_Same.f k y15.1 y16.1).bind fun y17 =>
              if y13.1 = true then
                if (y9.2.1 == y11.2.1) = true then
                  some (y17.1, ())
                else
                  some (false, ())
              else
                some (false, ())
theorem j1_ok {r a1 a2 a3} {k p2 p3} (H : j1 a1 a2 a3 k p2 p3 = some r) : Gw P 0 (Q r) (Px c0 111 []) (s1 a1 a2 a3 p2 p3) := by
  unfold j1 at H
  rcases of_ite H with ⟨hb8, H⟩ | ⟨hb8, H⟩
  · refine C1 hb8 ?_
    refine Rg V_ok 0 [] az ?_
    exact Lf (Eq.trans (by kernel_rfl) H)
  · refine C0 hb8 ?_
    obtain ⟨y9, e10, H⟩ := of_bind H
    refine Rg V_ok 1 [(3, hr f_control_Update.S y9), (7, hb 2)] (ac (f_control_Update.rl e10) az) ?_
    obtain ⟨y11, e12, H⟩ := of_bind H
    refine Rg V_ok 1 [(3, hr f_ref21_Update.S y11), (7, hb 3)] (ac (f_ref21_Update.rl e12) az) ?_
    obtain ⟨y13, e14, H⟩ := of_bind H
    refine Rg V_ok 0 [(2, hr f_ref21_Same.S y13)] (ac (f_ref21_Same.rl e14) az) ?_
    obtain ⟨y15, e18, H⟩ := of_bind H
    obtain ⟨y16, e19, H⟩ := of_bind H
    obtain ⟨y17, e20, H⟩ := of_bind H
    refine Rg V_ok 0 [(1, hr f_control_New.S y15), (3, hr f_ref21_New.S y16), (4, hr f_ref21_Same.S y17)] (ac (f_control_New.rl e18) (ac (f_ref21_New.rl e19) (ac (f_ref21_Same.rl e20) az))) ?_
    rcases of_ite H with ⟨hb21, H⟩ | ⟨hb21, H⟩
    · rcases of_ite H with ⟨hb22, H⟩ | ⟨hb22, H⟩
      · refine Rg V_ok 0 [(0, {bv := some true}), (5, {bv := some true})] (ac hb21 (ac hb22 az)) ?_
        exact Lf (Eq.trans (by kernel_rfl) H)
      · refine Rg V_ok 0 [(0, {bv := some true}), (5, {bv := some false})] (ac hb21 (ac hb22 az)) ?_
        exact Lf (Eq.trans (by kernel_rfl) H)
    · refine Rg V_ok 0 [(0, {bv := some false})] (ac hb21 az) ?_
      exact Lf (Eq.trans (by kernel_rfl) H)
noncomputable def f (k : Nat) (a1 : T26b3.T) (a2 : T5477.T) (a3 : List (List T1383.T)) : Option R :=
  (f_law21_awake.f k).bind fun y1 =>
    (f_law21_Few.f k a1).bind fun y3 =>
      (f_law12_Few.f k a3).bind fun y5 =>
        if (!y1.1) = true then
          j1 a1 a2 a3 k y1.1 true
        else
          if (!y3.1) = true then
            j1 a1 a2 a3 k y1.1 true
          else
            if (!y5.1) = true then
              j1 a1 a2 a3 k y1.1 true
            else
              j1 a1 a2 a3 k y1.1 (decide ((a2.2.2.length : Int) > (60 : Int)))
noncomputable def S : Spec := ⟨ps, rs, .any, none, fun x r => ∃ k, f k x.1 x.2.1 x.2.2.1 = some r⟩
theorem rl {k a1 a2 a3 r} (e : f k a1 a2 a3 = some r) : S.rel (a1, a2, a3, ()) r := ⟨k, e⟩
theorem f_ok {r k a1 a2 a3} (H : f k a1 a2 a3 = some r) : Gw P 0 (Q r) (Px c0 1 []) (⟨69, [(0, .cv (.agg (encC .any T26b3 a1))), (1, .cv (.agg (encC .any T5477 a2))), (2, .cv (.one (.sl (.slice T1383) a3 .any)))], []⟩) := by
  unfold f at H
  refine Rg V_ok 2 [(0, hb 0), (1, hb 1)] az ?_
  obtain ⟨y1, e2, H⟩ := of_bind H
  refine Rg V_ok 0 [(0, hr f_law21_awake.S y1)] (ac (f_law21_awake.rl e2) az) ?_
  obtain ⟨y3, e4, H⟩ := of_bind H
  refine Rg V_ok 0 [(1, hr f_law21_Few.S y3)] (ac (f_law21_Few.rl e4) az) ?_
  obtain ⟨y5, e6, H⟩ := of_bind H
  refine Rg V_ok 0 [(1, hr f_law12_Few.S y5)] (ac (f_law12_Few.rl e6) az) ?_
  rcases of_ite H with ⟨hb7, H⟩ | ⟨hb7, H⟩
  · refine Rg V_ok 0 [(1, {bv := some true})] (ac hb7 az) ?_
    exact Jm (tn [2, 3, 4, 7, 36] 2) (j1_ok H)
  · rcases of_ite H with ⟨hb23, H⟩ | ⟨hb23, H⟩
    · refine Rg V_ok 0 [(1, {bv := some false}), (5, {bv := some true})] (ac hb7 (ac hb23 az)) ?_
      exact Jm (tn [2, 3, 4, 7, 36] 2) (j1_ok H)
    · rcases of_ite H with ⟨hb24, H⟩ | ⟨hb24, H⟩
      · refine Rg V_ok 0 [(1, {bv := some false}), (5, {bv := some false}), (9, {bv := some true})] (ac hb7 (ac hb23 (ac hb24 az))) ?_
        exact Jm (tn [2, 3, 4, 7, 36] 2) (j1_ok H)
      · refine Rg V_ok 0 [(1, {bv := some false}), (5, {bv := some false}), (9, {bv := some false})] (ac hb7 (ac hb23 (ac hb24 az))) ?_
        exact Jm (tn [2, 3, 4, 7, 36] 2) (j1_ok H)
theorem fits : Fits P 4 S := fits_of V_ok Go.Proofs.Tryz.func4 (by kernel_rfl) (by decide) (by decide) rfl (fun x r ⟨k, H⟩ => of_G (f_ok H))
end f_law21_ControlAsked
end Go.Proofs.YtkhjemahenkdiaaGreatDoor.V
