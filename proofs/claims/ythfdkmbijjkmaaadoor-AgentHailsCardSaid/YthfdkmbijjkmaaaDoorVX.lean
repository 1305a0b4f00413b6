/- What the texts on library functions use. -/
import Derived.Test.YthfdkmbijjkmaaaDoorVKS
import Derived.Deep.RegionLaw
import Derived.Deep.WholeRow
import Derived.OwnWalk
import Derived.Handy
import Derived.Shelf.Spec.SlicesInsertGrow
namespace Go.Proofs.YthfdkmbijjkmaaaDoor.V
open Go Go.RowKit
set_option linter.unusedVariables false
set_option linter.unusedSimpArgs false
structure Aside0 (p : Prop) : Prop where mk :: (out : p)
section
variable {P : Program}
theorem enters_of {f : Nat} {fn : Func} {c : Code} (hf : P.funcs[f]? = some fn) (hb : fn.body = some c) (hn : fn.name ≠ "runtime.NumGoroutine") : Enters P f := fun args w => by simp [callFunc, hf, hb, hn]
theorem zeroCells_len (z : Array Value) (n : Nat) : (Builtin.zeroCells z n).toList.length = n * z.size := by simp [Builtin.zeroCells]
theorem zeroCells_one (z : Array Value) : (Builtin.zeroCells z 1) = z := by
  simp [Builtin.zeroCells]
  apply Array.ext_getElem?
  intro i
  by_cases h : i < z.size
  · simp [h, Nat.mod_eq_of_lt h]
  · simp [h]
theorem run_copy_sz (w : World) (tS ty e : TypeId) (b o dLen dCap : Nat) (a : Addr) (sLen sCap sz : Nat) (cs : List Value) (hu : P.underlying tS = some (.slice e)) (hs : (P.info? e).map (·.size) = some sz) (hn : cs.length = Nat.min sLen dLen * sz)
    (hsrc : ∀ j v, cs[j]? = some v → w.cell? (a.add j) = some v) (hc : ∀ j, j < cs.length → (w.cell? ⟨b, o + j, none⟩).isSome = true) (hf : ∀ j, j < cs.length → w.frozen? ⟨b, o + j, none⟩ = false) (h1 : ∀ v ∈ cs, v.oneCell' = true) :
    (Builtin.copy_ #[tS, tS] ty #[.slice (some ⟨b, o, none⟩) dLen dCap, .slice (some a) sLen sCap]).run P w = .ok (goInt (Nat.min sLen dLen)) (w.setCells b o cs) := by
  have hl := run_loadCells_list (P := P) w a cs hsrc
  have hst := run_storeCells_cells (P := P) b o cs 0 w (by simpa using hc) (by simpa using hf) h1
  cases hq : P.info? e with
  | none => simp [hq] at hs
  | some i =>
    have hi : i.size = sz := by simpa [hq] using hs
    simp [Builtin.copy_, run_underlying hu, Builtin.lenOf, Builtin.firstCells, sizeOf, typeInfo, hq, hi, ← hn, hl, hst]
theorem gate_clear {ops : Array Oper} {rest : List Oper} {o : Oper} {a : Act} {w : World} {Q : Exit → Act → World → Prop} {t : TypeId} {x : Operand} (_ : o.op = .call { callee := .builtin .clear, args := #[x], argTypes := #[t] }) (h : wpList P ops Q (o :: rest) a w) : wpList P ops Q (o :: rest) a w := h
theorem wpList_clear_one {ops : Array Oper} {rest : List Oper} {o : Oper} {a : Act} {w : World} {Q : Exit → Act → World → Prop} (hgd : o.guard = none) (t e : TypeId) (x : Operand) (ho : o.op = .call { callee := .builtin .clear, args := #[x], argTypes := #[t] })
    (ht : P.underlying t = some (.slice e)) (z : Value) (hv : ∀ w, (zeroValue e).run P w = .ok z w) (h1 : ∀ v ∈ z.cells.toList, v.oneCell' = true) (b off c : Nat) (hx : a.eval x = .slice (some ⟨b, off, none⟩) 1 c)
    (hc : ∀ j, j < z.cells.size → (w.cell? ⟨b, off + j, none⟩).isSome = true) (hf : ∀ j, j < z.cells.size → w.frozen? ⟨b, off + j, none⟩ = false)
    (h : wpList P ops Q rest (a.put o.dst (.tuple #[])) (w.setCells b off z.cells.toList)) : wpList P ops Q (o :: rest) a w :=
  wpList_plain hgd fun _ hK => by
    have hst := run_storeCells_cells (P := P) b off z.cells.toList 0 w (by simpa using hc) (by simpa using hf) h1
    simp only [Nat.add_zero] at hst
    unfold Oper.wp
    simp [execOp, ho, resolve, invoke, builtin, hx, Builtin.clear_, run_underlying ht, hv, zeroCells_one, hst, Result.andThen]
    exact hK _ _ h

theorem cells_take {w : World} {g et : Nat} {cur : Array Value} {m : Nat} (h : w.heap[g]? = some (.cells cur et (0, 0))) : ∀ j v, (cur.toList.take m)[j]? = some v → w.cell? ⟨g, j, none⟩ = some v := by
  intro j v hj
  rw [cell_of_row _ _ _ _ _ _ h]
  rw [List.getElem?_take] at hj
  split at hj
  · simpa using hj
  · cases hj
theorem lnk_of {f t et etB nt i : Nat} {fn : Func} {c : Code} {a b : Ty} {xs zs : List (a.T × List b.T)} {ys : List b.T} {x : a.T × List b.T} {tt : TT} (hck : tt.ck P = true) (hf : P.funcs[f]? = some fn) (hb : fn.body = some c) (hres : fn.results = #[.tmp t]) (hnt : 1 ≤ fn.ntmps)
    (hW : W P 0 c ⟨fn.ntmps, [(0, .cv (.one (.sl (.pair a (.slice b)) xs .any)))], []⟩ (CallQ 0 ⟨nt, [(t, .cv (.one (.own 0)))], [(.lnk et a b zs 1 i, []), (.buf etB b ys, [])]⟩))
    (h1 : zs.take i = xs.take i) (h2 : zs[i]? = some x) (h3 : zs.drop (i + 1) = xs.drop (i + 1)) (h4 : zs.length = xs.length) {F : Nat → Prop} {v : Value} {w : World} (hF : Globs F w) (hv : RepD F w (.slice (.pair a (.slice b))) xs [v]) :
    Calls P f #[v] w fun e w' => ∃ v' vB F' i1 c1 i2 inB, e = .returned v' ∧ Below w.heap.size w w' ∧ (∀ b, F b → F' b) ∧ (∀ b, F' b → F b ∨ w.heap.size ≤ b) ∧ (∀ b, F' b → b < w'.heap.size) ∧
      Own w' et (a.sz + 1) v' xs.length (i1 ++ (c1 ++ [vB]) ++ i2) ∧ El (RepD F' w' (.pair a (.slice b))) (xs.take i) i1 ∧ RepD F' w' a x.1 c1 ∧ El (RepD F' w' (.pair a (.slice b))) (xs.drop (i + 1)) i2 ∧
      Own w' etB b.sz vB ys.length inB ∧ El (RepD F' w' b) ys inB ∧
      (∀ q o n c, v' = .slice (some ⟨q, o, none⟩) n c → 0 < c → w.heap.size ≤ q ∧ q < w'.heap.size ∧ ¬ F' q) ∧
      (∀ q o n c, vB = .slice (some ⟨q, o, none⟩) n c → 0 < c → w.heap.size ≤ q ∧ q < w'.heap.size ∧ ¬ F' q ∧ ∀ o' n' c', v' = .slice (some ⟨q, o', none⟩) n' c' → c' = 0) := by
  have hall : All2 (RepC (E0 F) w) [v] [.one (.sl (.pair a (.slice b)) xs .any)] := ⟨⟨hv, trivial⟩, trivial⟩
  refine calls_of_wp hf hb (wp_mono (hW F w (E0 F) { tmps := #[v] ++ Array.replicate (fn.ntmps - 1) undef, defers := [] } w ⟨?_, rfl, fun u => ?_, ⟨Below.refl _ _, fun k => ⟨rfl, rfl⟩, fun k b hl => hl.elim, fun k k' b hl => hl.elim, hF.1, fun b hb => .inl hb, fun b hb => hb, hF⟩⟩) ?_)
  · simp; omega
  · refine ptmps_lk (i := 0) hall (fun t => (#[v] ++ Array.replicate (fn.ntmps - 1) undef).getD t undef) (fun j u hj => ?_)
    match j, hj with
    | 0, hj =>
      simp at hj; subst hj
      simp only [Nat.add_zero, Array.getD_eq_getD_getElem?]
      rw [Array.getElem?_append_left (by simp)]
      rfl
    | j + 1, hj => simp at hj
  · rintro e a' w' ⟨σ', E1, ⟨he, tl, ht, hid⟩, hI1, hev1⟩
    obtain ⟨E2, hI2, hev2⟩ := tell_inv hid hI1 ht
    have hr := hI2.tmp t
    simp only [lk, Nat.beq_refl, cond_true] at hr
    obtain ⟨g1, A, n, cc, g2⟩ : E2.γ 0 = some (a'.tmps.getD t undef) ∧ ∃ A n c, a'.tmps.getD t undef = .slice A n c := hr
    have k0 := hI2.heap.slot 0
    have k1 := hI2.heap.slot 1
    obtain ⟨v', vB, i1, c1, i2, x0, q1, q2, q3, q4, q5, q6, q7, q8⟩ : SlotOk E2 w' 0 (.lnk et a b zs 1 i) [] := k0
    obtain ⟨vB', inB, p1, p2, p3⟩ : SlotOk E2 w' 1 (.buf etB b ys) [] := k1
    rw [q2] at p1
    obtain rfl := Option.some.inj p1
    rw [q1] at g1
    have g1 := Option.some.inj g1
    rw [h2] at q5
    obtain rfl := Option.some.inj q5
    have hrun : (results fn a'.tmps).run P w' = .ok v' w' := by
      rw [results_eq, hres, g1]
      simp [resF]
    have hR : ∃ v, (results fn a'.tmps).run P w' = .ok v w' ∧ ∃ v' vB F' i1 c1 i2 inB, Ending.returned v = .returned v' ∧ Below w.heap.size w w' ∧ (∀ b, F b → F' b) ∧ (∀ b, F' b → F b ∨ w.heap.size ≤ b) ∧ (∀ b, F' b → b < w'.heap.size) ∧
      Own w' et (a.sz + 1) v' xs.length (i1 ++ (c1 ++ [vB]) ++ i2) ∧ El (RepD F' w' (.pair a (.slice b))) (xs.take i) i1 ∧ RepD F' w' a x.1 c1 ∧ El (RepD F' w' (.pair a (.slice b))) (xs.drop (i + 1)) i2 ∧
      Own w' etB b.sz vB ys.length inB ∧ El (RepD F' w' b) ys inB ∧
      (∀ q o n c, v' = .slice (some ⟨q, o, none⟩) n c → 0 < c → w.heap.size ≤ q ∧ q < w'.heap.size ∧ ¬ F' q) ∧
      (∀ q o n c, vB = .slice (some ⟨q, o, none⟩) n c → 0 < c → w.heap.size ≤ q ∧ q < w'.heap.size ∧ ¬ F' q ∧ ∀ o' n' c', v' = .slice (some ⟨q, o', none⟩) n' c' → c' = 0) := by
      refine ⟨v', hrun, v', vB, E2.F, i1, c1, i2, inB, rfl, hI2.heap.below, hI2.heap.sup, hI2.heap.sub, hI2.heap.fz, by rw [← h4]; exact q4, by rw [← h1]; exact q6, q7, by rw [← h3]; exact q8, p2, p3, fun q o n c e hc => ?_, fun q o n c e hc => ?_⟩
      · exact hI2.heap.own 0 q (show Live E2 0 (.lnk et a b zs 1 i) q from ⟨o, n, c, by rw [q1, e], hc⟩)
      · have hl : Live E2 1 (.buf etB b ys) q := ⟨o, n, c, by rw [q2, e], hc⟩
        obtain ⟨r1, r2, r3⟩ := hI2.heap.own 1 q hl
        refine ⟨r1, r2, r3, fun o' n' c' e' => Nat.eq_zero_of_not_pos fun hc' => ?_⟩
        have := hI2.heap.inj 0 1 q (show Live E2 0 (.lnk et a b zs 1 i) q from ⟨o', n', c', by rw [q1, e'], hc'⟩) hl
        omega
    rcases he with rfl | rfl
    · exact ⟨hI2.df, hR⟩
    · exact ⟨hI2.df, hR⟩
theorem take3 {α : Type} {A V R : List α} {a b c : Nat} (hA : A.length = a) (hV : V.length = b) : (A ++ (V ++ R)).take (a + (b + c)) = A ++ (V ++ R.take c) := by
  subst hA hV
  rw [List.take_length_add_append, List.take_length_add_append]
def InsQ (w : World) (v : Value) (et sz n i : Nat) (inner vs : List Value) (e : Ending) (w' : World) : Prop := ∃ v', e = .returned v' ∧ Own w' et sz v' (n + 1) (inner.take (i * sz) ++ vs ++ inner.drop (i * sz)) ∧
      (∀ b, b < w.heap.size → (∀ o m c, v = .slice (some ⟨b, o, none⟩) m c → c = 0) → w'.heap[b]? = w.heap[b]?) ∧ w.heap.size ≤ w'.heap.size ∧
      (∀ b o m c, v' = .slice (some ⟨b, o, none⟩) m c → 0 < c → (∃ o m c, v = .slice (some ⟨b, o, none⟩) m c ∧ 0 < c) ∨ w.heap.size ≤ b ∧ b < w'.heap.size) ∧ w'.os = w.os ∧ w'.tape = w.tape ∧ w'.output = w.output
open Go.Lib in
/-- The four roads of slices.Insert, as one. -/
theorem ins_of {f tS et sz bytes : Nat} {z : Value} (hen : Enters P f) (ht : P.underlying tS = some (.slice et)) (hinfo : (P.info? et).map (fun i => (i.zero, i.size, i.bytes)) = some (some z, sz, bytes)) (hzs : z.cells.size = sz) (hsz : 0 < sz) (hby : 0 < bytes)
    (shift : ∀ (b n c i vb vc : Nat) (cs vs : List Value) (w : World), i < n → n + 1 ≤ c → c ≤ 9223372036854775807 → vb ≠ b → cs.length = n * sz → vs.length = sz → (∀ j v, cs[j]? = some v → w.cell? ⟨b, j, none⟩ = some v) → (∀ j, j < (n + 1) * sz → (w.cell? ⟨b, j, none⟩).isSome = true) → (∀ j, w.frozen? ⟨b, j, none⟩ = false) →
      (∀ j v, vs[j]? = some v → w.cell? ⟨vb, j, none⟩ = some v) → (∀ v ∈ cs, v.oneCell' = true) → (∀ v ∈ vs, v.oneCell' = true) → ∀ (tA tB : TypeId) (kA kB : Nat), w.shape? vb = some (tA, kA) → w.shape? b = some (tB, kB) → kB ≠ 0 → w.frozen? ⟨vb, 0, none⟩ = false → w.frozen? ⟨vb, kA, none⟩ = false →
      Calls P f #[.slice (some ⟨b, 0, none⟩) n c, .int .i64 i, .slice (some ⟨vb, 0, none⟩) 1 vc] w fun e w' => e = .returned (.slice (some ⟨b, 0, none⟩) (n + 1) c) ∧ w' = (w.drew.setCells b ((i + 1) * sz) (cs.drop (i * sz))).setCells b (i * sz) vs)
    (atEnd : ∀ (base : Option Addr) (n c vb vc : Nat) (w w1 : World) (r : Value), n ≤ c → (∀ ty, (Builtin.append_ #[tS, tS] ty #[.slice base n c, .slice (some ⟨vb, 0, none⟩) 1 vc]).run P w = .ok r w1) → Calls P f #[.slice base n c, .int .i64 n, .slice (some ⟨vb, 0, none⟩) 1 vc] w fun e w' => e = .returned r ∧ w' = w1)
    (grow : ∀ (b n c i vb vc : Nat) (cs vs : List Value) (w : World), i < n → n ≤ c → c < n + 1 → (n + 1) * bytes ≤ 140737488355328 → cs.length = n * sz → vs.length = sz → (∀ j v, cs[j]? = some v → w.cell? ⟨b, j, none⟩ = some v) → (∀ j v, vs[j]? = some v → w.cell? ⟨vb, j, none⟩ = some v) → (∀ v ∈ cs, v.oneCell' = true) → (∀ v ∈ vs, v.oneCell' = true) →
      Calls P f #[.slice (some ⟨b, 0, none⟩) n c, .int .i64 i, .slice (some ⟨vb, 0, none⟩) 1 vc] w fun e w' => e = .returned (.slice (some ⟨w.heap.size, 0, none⟩) (n + 1) (grownCap w (n + 1) c et)) ∧
        w' = (((w.alloc (.cells ((cs.take (i * sz)).toArray ++ Builtin.zeroCells z.cells (n + 1 - i) ++ Builtin.zeroCells z.cells (grownCap w (n + 1) c et - (n + 1))) et)).drew.setCells w.heap.size (i * sz) vs).drew).setCells w.heap.size ((i + 1) * sz) (cs.drop (i * sz))) : InsOk P f et sz bytes where
  enter := hen
  calls := fun v inner n i gv capv curv w hO h1 hin hgv hcv hpv h1v hlim hne => by
    obtain ⟨i0, hi0, hz0, hz1, hz2⟩ := info_parts hinfo
    have hvl : (curv.toList.take sz).length = sz := by rw [List.length_take, Array.length_toList]; omega
    have hvc := cells_take (m := sz) hgv
    have hmx : n + 1 ≤ maxLen := by
      have := Nat.le_trans (Nat.le_mul_of_pos_right (n + 1) hby) hlim
      unfold maxLen; omega
    have h63 : ((n + 1 : Nat) : Int) ≤ 9223372036854775807 := by unfold maxLen at hmx; omega
    have hgl : gv < w.heap.size := (Array.getElem?_eq_some_iff.1 hgv).1
    generalize hvs : curv.toList.take sz = vs at hvl hvc h1v ⊢
    have hn1 : (n + 1) * sz = n * sz + sz := Nat.succ_mul n sz
    show Calls P f _ w (InsQ w v et sz n i inner vs)
    -- a new row
    have grown : ∀ (base : Option Addr) (c : Nat), c < n + 1 → inner.length = n * sz → (∀ a, base = some a → ∀ j u, inner[j]? = some u → w.cell? (a.add j) = some u) → (base = none → inner = []) →
        ∀ ty, (Builtin.append_ #[tS, tS] ty #[.slice base n c, .slice (some ⟨gv, 0, none⟩) 1 capv]).run P w = .ok (.slice (some ⟨w.heap.size, 0, none⟩) (n + 1) (grownCap w (n + 1) c et)) (w.drew.alloc (.cells ((inner ++ vs).toArray ++ Builtin.zeroCells z.cells (grownCap w (n + 1) c et - (n + 1))) et)) := by
      intro base c hc hil hcs hnil ty
      refine run_append_grow_src w tS tS ty et i0 z ht hi0 hz0 base n c inner ?_ _ 1 vs (Src.ofSlice w ht ⟨gv, 0, none⟩ 1 capv vs (by rw [hz1, Nat.one_mul]; exact hvl) (fun j u hj => by rw [Addr.add_lit, Nat.zero_add]; exact hvc j u hj) h1v) hc h63 (by rw [hz2]; exact growslice_fits hc hlim)
      cases base with
      | none =>
        have := hnil rfl
        subst this
        have h0 : n = 0 := by
          rcases Nat.mul_eq_zero.1 hil.symm with h | h
          · exact h
          · omega
        subst h0
        exact run_firstCells_none w.drew i0.size 0 0 c
      | some a => exact run_firstCells_some w.drew i0.size n a n c inner (by rw [hz1]; exact hil) (fun j u hj => hcs a rfl j u hj)
    have newrow : ∀ (c : Nat) (pre post : List Value) (w' : World) (cur' : Array Value), pre.length + post.length = n * sz → w'.heap[w.heap.size]? = some (.cells cur' et (0, 0)) → cur'.size = grownCap w (n + 1) c et * sz → cur'.toList.take ((n + 1) * sz) = pre ++ vs ++ post →
        Own w' et sz (.slice (some ⟨w.heap.size, 0, none⟩) (n + 1) (grownCap w (n + 1) c et)) (n + 1) (pre ++ vs ++ post) := by
      intro c pre post w' cur' hl hg hcs ht
      have := grownCap_ge w (n + 1) c et
      exact .inr ⟨_, _, cur', rfl, by omega, hg, this, grownCap_le_maxLen w (n + 1) c et hmx, hcs, ht⟩
    by_cases hie : i = n
    · subst hie
      have fin : ∀ (base : Option Addr) (c : Nat), v = .slice base i c → i ≤ c → c < i + 1 → inner.length = i * sz → (∀ a, base = some a → ∀ j u, inner[j]? = some u → w.cell? (a.add j) = some u) → (base = none → inner = []) → Calls P f #[v, .int .i64 i, .slice (some ⟨gv, 0, none⟩) 1 capv] w (InsQ w v et sz i i inner vs) := fun base c hv h1 h2 h3 h4 h5 => by
        rw [hv]
        refine (atEnd base i c gv capv w _ _ h1 (grown base c h2 h3 h4 h5)).mono ?_
        rintro e w' ⟨rfl, rfl⟩
        refine ⟨_, rfl, newrow c (inner.take (i * sz)) (inner.drop (i * sz)) _ _ (by rw [List.length_take, List.length_drop]; omega) (heap_alloc_new w.drew _) ?_ ?_, fun b hb _ => heap_drew_old w _ hb, by simp, fun b o m c' e hc => ?_, rfl, rfl, rfl⟩
        · have := grownCap_ge w (i + 1) c et
          simp only [Array.size_append, List.size_toArray, List.length_append, size_zeroCells, hzs, h3, hvl]
          rw [← Nat.succ_mul, ← Nat.add_mul]
          congr 1
          omega
        · rw [List.take_of_length_le (l := inner) (by omega), List.drop_of_length_le (by omega), List.append_nil, Array.toList_append, show ∀ l : List Value, l.toArray.toList = l from fun _ => rfl, List.take_append_of_le_length (by simp [h3, hvl, hn1]), List.take_of_length_le (by simp [h3, hvl, hn1])]
        · simp only [Value.slice.injEq, Option.some.injEq, Addr.mk.injEq] at e
          obtain ⟨⟨rfl, _⟩, _⟩ := e
          exact .inr ⟨Nat.le_refl _, by simp⟩
      rcases hO with ⟨A, e1, e2, e3⟩ | ⟨g, cap, cur, e1, e2, e3, e4, e5, e6, e7⟩
      · subst e2
        exact fin A 0 e1 (Nat.le_refl _) (by omega) (by rw [e3]; simp) (fun a _ j u hu => by rw [e3] at hu; simp at hu) (fun _ => e3)
      · have hil : inner.length = i * sz := by rw [← e7, List.length_take, Array.length_toList, e6]; exact Nat.min_eq_left (Nat.mul_le_mul_right _ e4)
        by_cases hroom : i + 1 ≤ cap
        · subst e1
          have hfit : i * i0.size + vs.length ≤ cur.size := by rw [hz1, hvl, e6, ← Nat.succ_mul]; exact Nat.mul_le_mul_right _ hroom
          refine (atEnd (some ⟨g, 0, none⟩) i cap gv capv w _ _ e4 (fun ty => run_append_room (P := P) w tS ty et i0 ht hi0 g i cap cur e3 ⟨gv, 0, none⟩ 1 capv vs (by rw [hz1, Nat.one_mul]; exact hvl) (fun j u hj => by rw [Addr.add_lit, Nat.zero_add]; exact hvc j u hj) h1v hroom hfit)).mono ?_
          rintro e w' ⟨rfl, rfl⟩
          refine ⟨_, rfl, .inr ⟨g, cap, _, rfl, e2, setRow_heap w g cur _ et (0, 0) e3, hroom, e5, ?_, ?_⟩, fun b hb hnb => setRow_other w g b _ (fun e => by
              subst e
              have := hnb 0 i cap rfl
              omega), by simp, fun b o m c' e hc => ?_, rfl, rfl, rfl⟩
          · rw [hz1, hvl] at hfit ⊢
            simp only [List.size_toArray, List.length_append, List.length_take, List.length_drop, Array.length_toList, hvl]
            omega
          · have q1 : inner.take (i * sz) = inner := List.take_of_length_le (by omega)
            have q2 : inner.drop (i * sz) = [] := List.drop_of_length_le (by omega)
            rw [q1, q2, List.append_nil, hz1, hvl, e7]
            show List.take ((i + 1) * sz) (inner ++ vs ++ _) = _
            rw [List.take_append_of_le_length (by rw [List.length_append, hil, hvl, hn1]; exact Nat.le_refl _), List.take_of_length_le (by rw [List.length_append, hil, hvl, hn1]; exact Nat.le_refl _)]
          · simp only [Value.slice.injEq, Option.some.injEq, Addr.mk.injEq] at e
            obtain ⟨⟨rfl, _⟩, _⟩ := e
            exact .inl ⟨0, i, cap, rfl, e2⟩
        · exact fin (some ⟨g, 0, none⟩) cap e1 e4 (by omega) hil (fun a ha j u hu => by
            obtain rfl := Option.some.inj ha
            rw [Addr.add_lit, Nat.zero_add]
            rw [← e7] at hu
            exact cells_take e3 j u hu) (fun h => by cases h)
    · have hlt : i < n := by omega
      rcases hO with ⟨A, e1, e2, e3⟩ | ⟨g, cap, cur, e1, e2, e3, e4, e5, e6, e7⟩
      · omega
      · have hil : inner.length = n * sz := by rw [← e7, List.length_take, Array.length_toList, e6]; exact Nat.min_eq_left (Nat.mul_le_mul_right _ e4)
        have hic : ∀ j u, inner[j]? = some u → w.cell? ⟨g, j, none⟩ = some u := by rw [← e7]; exact cells_take e3
        have hmi : i * sz ≤ n * sz := Nat.mul_le_mul_right _ (by omega)
        have hi1 : (i + 1) * sz = i * sz + sz := Nat.succ_mul i sz
        have hps : (inner.take (i * sz)).length = i * sz := by rw [List.length_take]; omega
        have hds : (inner.drop (i * sz)).length = n * sz - i * sz := by rw [List.length_drop, hil]
        have rows : ∀ (g' : Nat) (w1 : World) (cur1 : Array Value), w1.heap[g']? = some (.cells cur1 et (0, 0)) → (n + 1) * sz ≤ cur1.size → cur1.toList.take (i * sz) = inner.take (i * sz) → ∀ (fst : Bool), ∃ cur3, (cond fst ((w1.setCells g' ((i + 1) * sz) (inner.drop (i * sz))).setCells g' (i * sz) vs) (((w1.setCells g' (i * sz) vs).drew).setCells g' ((i + 1) * sz) (inner.drop (i * sz)))).heap[g']? = some (.cells cur3 et (0, 0)) ∧ cur3.size = cur1.size ∧ cur3.toList.take ((n + 1) * sz) = inner.take (i * sz) ++ vs ++ inner.drop (i * sz) := by
          intro g' w1 cur1 hg hs hp fst
          have hcl : cur1.toList.length = cur1.size := Array.length_toList
          cases fst
          · obtain ⟨c2, k1, k2, k3⟩ := sc_row vs (i * sz) w1 cur1 hg (by omega)
            obtain ⟨c3, l1, l2, l3⟩ := sc_row (inner.drop (i * sz)) ((i + 1) * sz) (w1.setCells g' (i * sz) vs).drew c2 k1 (by rw [hds]; omega)
            refine ⟨c3, l1, by omega, ?_⟩
            have q1 : (c2.toList.take ((i + 1) * sz)) = inner.take (i * sz) ++ vs := by
              rw [k3, hp, List.take_append_of_le_length (by rw [List.length_append, hps, hvl]; omega), List.take_of_length_le (by rw [List.length_append, hps, hvl]; omega)]
            rw [l3, q1, List.take_append_of_le_length (by simp only [List.length_append, hps, hvl, hds]; omega), List.take_of_length_le (by simp only [List.length_append, hps, hvl, hds]; omega)]
          · obtain ⟨c2, k1, k2, k3⟩ := sc_row (inner.drop (i * sz)) ((i + 1) * sz) w1 cur1 hg (by rw [hds]; omega)
            obtain ⟨c3, l1, l2, l3⟩ := sc_row vs (i * sz) (w1.setCells g' ((i + 1) * sz) (inner.drop (i * sz))) c2 k1 (by omega)
            refine ⟨c3, l1, by omega, ?_⟩
            have q0 : (cur1.toList.take ((i + 1) * sz)).length = (i + 1) * sz := by rw [List.length_take]; omega
            have q1 : c2.toList.take (i * sz) = inner.take (i * sz) := by
              rw [k3, List.append_assoc, List.take_append_of_le_length (by omega), List.take_take, Nat.min_eq_left (by omega), hp]
            have q2 : (c2.toList.drop (i * sz + vs.length)).take (n * sz - i * sz) = inner.drop (i * sz) := by
              rw [hvl, ← hi1, k3, List.append_assoc, List.drop_append_of_le_length (by omega), List.drop_of_length_le (by omega), List.nil_append, List.take_append_of_le_length (by omega), List.take_of_length_le (by omega)]
            have q3 : (n + 1) * sz = i * sz + (sz + (n * sz - i * sz)) := by omega
            rw [l3, q1, List.append_assoc, q3, take3 hps hvl, q2, List.append_assoc]
        by_cases hroom : n + 1 ≤ cap
        · subst e1
          have hsize : (n + 1) * sz ≤ cur.size := by rw [e6]; exact Nat.mul_le_mul_right _ hroom
          have hgl2 : gv ≠ g := fun e => hne g 0 n cap rfl e2 e.symm
          have hsh : ∀ (g : Nat) (cur : Array Value), w.heap[g]? = some (.cells cur et (0, 0)) → w.shape? g = some (et, cur.size) := fun g cur h => by simp [World.shape?, h]
          refine (shift g n cap i gv capv inner vs w hlt hroom (by unfold maxLen at e5; exact e5) hgl2 hil hvl hic (fun j hj => by rw [cell_of_row _ _ _ _ _ _ e3, Array.getElem?_eq_getElem (by omega)]; rfl) (fun j => frozen_of_row _ _ _ _ _ e3) hvc h1 h1v et et curv.size cur.size (hsh gv curv hgv) (hsh g cur e3) (by omega) (frozen_of_row _ _ _ _ _ hgv) (frozen_of_row _ _ _ _ _ hgv)).mono ?_
          rintro e w' ⟨rfl, rfl⟩
          obtain ⟨c3, r1, r2, r3⟩ := rows g w.drew cur e3 hsize (by rw [← e7, List.take_take, Nat.min_eq_left hmi]) true
          obtain ⟨a1, a2, a3, a4⟩ := sc_same g (inner.drop (i * sz)) ((i + 1) * sz) w.drew
          obtain ⟨b1, b2, b3, b4⟩ := sc_same g vs (i * sz) (w.drew.setCells g ((i + 1) * sz) (inner.drop (i * sz)))
          refine ⟨_, rfl, .inr ⟨g, cap, c3, rfl, e2, r1, hroom, e5, by rw [r2, e6], r3⟩, fun b hb hnb => ?_, by rw [b4, a4]; exact Nat.le_refl _, fun b o m c' e hc => ?_, by rw [b1, a1]; rfl, by rw [b2, a2]; rfl, by rw [b3, a3]; rfl⟩
          · have hbg : b ≠ g := fun e => by subst e; have := hnb 0 n cap rfl; omega
            rw [sc_far _ _ _ hbg, sc_far _ _ _ hbg]; rfl
          · simp only [Value.slice.injEq, Option.some.injEq, Addr.mk.injEq] at e
            obtain ⟨⟨rfl, _⟩, _⟩ := e
            exact .inl ⟨0, n, cap, rfl, e2⟩
        · subst e1
          refine (grow g n cap i gv capv inner vs w hlt e4 (by omega) hlim hil hvl hic hvc h1 h1v).mono ?_
          rintro e w' ⟨rfl, rfl⟩
          have hge := grownCap_ge w (n + 1) cap et
          generalize hROW : (inner.take (i * sz)).toArray ++ Builtin.zeroCells z.cells (n + 1 - i) ++ Builtin.zeroCells z.cells (grownCap w (n + 1) cap et - (n + 1)) = ROW
          have hRs : ROW.size = grownCap w (n + 1) cap et * sz := by
            rw [← hROW]
            simp only [Array.size_append, List.size_toArray, size_zeroCells, hzs, hps]
            rw [← Nat.add_mul, ← Nat.add_mul]
            congr 1
            omega
          obtain ⟨c3, r1, r2, r3⟩ := rows w.heap.size (w.alloc (.cells ROW et)).drew ROW (heap_alloc_new w _) (by rw [hRs]; exact Nat.mul_le_mul_right _ hge) (by rw [← hROW, Array.toList_append, Array.toList_append, List.append_assoc, List.take_append_of_le_length (by simp [hps]), List.take_of_length_le (by simp [hps])]) false
          obtain ⟨a1, a2, a3, a4⟩ := sc_same w.heap.size vs (i * sz) (w.alloc (.cells ROW et)).drew
          obtain ⟨b1, b2, b3, b4⟩ := sc_same w.heap.size (inner.drop (i * sz)) ((i + 1) * sz) ((w.alloc (.cells ROW et)).drew.setCells w.heap.size (i * sz) vs).drew
          have hsz' : (((w.alloc (.cells ROW et)).drew.setCells w.heap.size (i * sz) vs).drew.setCells w.heap.size ((i + 1) * sz) (inner.drop (i * sz))).heap.size = w.heap.size + 1 := by
            rw [b4]
            show ((w.alloc (.cells ROW et)).drew.setCells w.heap.size (i * sz) vs).heap.size = _
            rw [a4]; simp
          refine ⟨_, rfl, newrow cap (inner.take (i * sz)) (inner.drop (i * sz)) _ c3 (by omega) r1 (by rw [r2, hRs]) r3, fun b hb _ => ?_, by rw [hsz']; omega, fun b o m c' e hc => ?_, by rw [b1]; exact a1, by rw [b2]; exact a2, by rw [b3]; exact a3⟩
          · have hbg : b ≠ w.heap.size := by omega
            rw [sc_far _ _ _ hbg]
            show ((w.alloc (.cells ROW et)).drew.setCells w.heap.size (i * sz) vs).heap[b]? = _
            rw [sc_far _ _ _ hbg]
            exact heap_old w _ hb
          · simp only [Value.slice.injEq, Option.some.injEq, Addr.mk.injEq] at e
            obtain ⟨⟨rfl, _⟩, _⟩ := e
            exact .inr ⟨Nat.le_refl _, by rw [hsz']; omega⟩
end
end Go.Proofs.YthfdkmbijjkmaaaDoor.V
