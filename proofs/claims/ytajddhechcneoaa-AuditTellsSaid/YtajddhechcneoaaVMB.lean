/- What an operation reads and writes, without memory; each against the model. Part: maps of whole numbers, of one's own. -/
import Derived.Test.YtajddhechcneoaaVMA
import Derived.MapKept
namespace Go.Proofs.Ytajddhechcneoaa.V
open Go Go.RowKit
open Go.MapKept (IsKey run_checkKey run_findKey run_setObj_map heap_set)
set_option linter.unusedVariables false
set_option linter.unusedSimpArgs false
section
variable {P : Program} {F0 : Nat → Prop} {w0 : World} {E : En} {σ : St} {a : Act} {w : World} {tt : TT}
theorem TF.map0 {t : Nat} {i : TI} (hT : TF P t i) {k e : Nat} (h : i.mp = some (k, e)) : P.underlying t = some (.map k e) := by
  obtain ⟨f, d, z, h1, h2, h3, h4, h5, h6, h7, h8, h9, h10, h11, _⟩ := hT.ex
  unfold dOk at h10
  rw [h2]
  split at h10
  · simp_all
  · simp_all
  · simp_all
  · rename_i k' e'
    simp only [Bool.and_eq_true, beq_iff_eq] at h10
    obtain ⟨⟨_, hm⟩, hk⟩ := h10
    rw [h] at hm
    simp only [Option.some.injEq, Prod.mk.injEq] at hm
    obtain ⟨rfl, rfl⟩ := hm
    rfl
  · simp_all
def isI (i : Option TI) : Bool := match i with
  | some j => match j.ty with | some (.int .i64) => true | _ => false
  | none => false
theorem TF.map (hck : tt.ck P = true) {t : Nat} {i : TI} (hT : TF P t i) {k e : Nat} (h : i.mp = some (k, e)) (hi : isI (tt.at k) = true) : P.underlying t = some (.map k e) ∧ P.underlying k = some (.int .i64) := by
  refine ⟨hT.map0 h, ?_⟩
  unfold isI at hi
  split at hi
  · rename_i j hj
    obtain ⟨f, d, z, h1, h2, h3, h4, h5, h6, h7, h8, h9, h10, h11, _⟩ := (TT.fact hck hj).ex
    split at hi
    · rename_i hty
      unfold tyOk at h11
      rw [hty] at h11
      simp only [Bool.and_eq_true] at h11
      have := h11.1
      split at this
      · rw [decide_eq_true_eq] at this
        rw [h2, ← this]
      · cases this
    · cases hi
  · cases hi
def semMakeMap (nt hn sb : Nat) (dst : Option Nat) (r : Option Operand) : Rd := match r with
  | none => free hn sb (fin nt dst [.slot sb (.map []) []] (.cv (.one (.mp sb))))
  | some _ => .fail
theorem ok_makeMap {o : Oper} {t sb : Nat} {r : Option Operand} {Q : Exit → Act → World → Prop} {ws : List Wr} (ho : o.op = .makeMap t r) (hI : Inv F0 w0 E σ a w) (h : (semMakeMap σ.nt σ.heap.length sb o.dst r).gives σ ws) : Good P F0 w0 E o a w (σ.aps ws) Q := by
  unfold semMakeMap at h
  split at h
  · obtain ⟨hsb, hn, h⟩ := free_gives h
    have hb : (updβ E sb w.heap.size).β sb = some w.heap.size := by simp [updβ]
    obtain ⟨h1, h2⟩ := hI.heap.newβ hsb hn (.map #[] 0) (s := .map []) (c := []) ⟨_, #[], 0, hb, heap_new w _, trivial⟩ (fun b hb' => by
      have hb' : (updβ E sb w.heap.size).β sb = some b := hb'
      rw [hb] at hb'; exact (Option.some.inj hb').symm)
    refine good_one' (v := .map (some w.heap.size)) ?_ (hI.evo h2 h1) h2 rfl h ⟨_, hb, rfl⟩
    simp [execOp, ho, Instr.makeMap, newObj, Sem.run]
  · exact absurd h Rd.gives_fail
/-- None of the keys is n. -/
def noKey (n : Int) : List (Int × AV) → Rd → Rd
  | [], k => k
  | (c, _) :: r, k => .need (n ≠ c) (noKey n r k)
theorem noKey_gives {n : Int} : ∀ {es : List (Int × AV)} {k : Rd} {ws : List Wr}, (noKey n es k).gives σ ws → (∀ c ∈ es, n ≠ c.1) ∧ k.gives σ ws
  | [], k, ws, h => ⟨fun c hc => by simp at hc, h⟩
  | (c, x) :: r, k, ws, h => by
    obtain ⟨h1, h⟩ := Rd.gives_need.1 h
    obtain ⟨h2, h⟩ := noKey_gives h
    refine ⟨fun d hd => ?_, h⟩
    rcases List.mem_cons.1 hd with rfl | hd
    · exact h1
    · exact h2 d hd
theorem find_none {n : Int} {kind : IntKind} : ∀ {ents : List MapEntry} {es : List (Int × AV)} (i : Nat), All2 (fun (m : MapEntry) (x : Int × AV) => m.key = .int .i64 x.1 ∧ RepA E w m.val x.2) ents es → (∀ c ∈ es, n ≠ c.1) → Instr.findNow (.int kind) (.int .i64 n) ents i = some none
  | [], [], i, _, _ => rfl
  | m :: ents, c :: es, i, h, hn => by
    obtain ⟨⟨h1, _⟩, h2⟩ := h
    have h3 := hn c List.mem_cons_self
    unfold Instr.findNow
    rw [h1]
    have : Instr.sameNow (.int kind) (.int .i64 n) (.int .i64 c.1) = some false := by
      simp [Instr.sameNow, h3]
    rw [this]
    exact find_none (i + 1) h2 fun d hd => hn d (List.mem_cons_of_mem _ hd)
theorem find_some {n : Int} {kind : IntKind} : ∀ {ents : List MapEntry} {es : List (Int × AV)} (i j : Nat) {x : AV}, All2 (fun (m : MapEntry) (x : Int × AV) => m.key = .int .i64 x.1 ∧ RepA E w m.val x.2) ents es → es[j]? = some (n, x) → (∀ c ∈ es.take j, n ≠ c.1) → ∃ q v, Instr.findNow (.int kind) (.int .i64 n) ents i = some (some (q, v)) ∧ RepA E w v x
  | [], [], i, j, x, _, h, _ => by simp at h
  | m :: ents, c :: es, i, 0, x, h, hj, _ => by
    obtain ⟨⟨h1, h2⟩, _⟩ := h
    simp only [List.getElem?_cons_zero, Option.some.injEq] at hj
    subst hj
    refine ⟨i, m.val, ?_, h2⟩
    unfold Instr.findNow
    rw [h1]
    simp [Instr.sameNow]
  | m :: ents, c :: es, i, j + 1, x, h, hj, hn => by
    obtain ⟨⟨h1, _⟩, h2⟩ := h
    have h3 := hn c (by simp)
    obtain ⟨q, v, k1, k2⟩ := find_some (i + 1) j (kind := kind) h2 (by simpa using hj) fun d hd => hn d (by rw [List.take_succ_cons]; exact List.mem_cons_of_mem _ hd)
    refine ⟨q, v, ?_, k2⟩
    unfold Instr.findNow
    rw [h1]
    have : Instr.sameNow (.int kind) (.int .i64 n) (.int .i64 c.1) = some false := by
      simp [Instr.sameNow, h3]
    rw [this]
    exact k1
theorem All2.snoc {α β : Type} {R : α → β → Prop} {l : List α} {m : List β} {x : α} {y : β} (h : All2 R l m) (hx : R x y) : All2 R (l ++ [x]) (m ++ [y]) := h.app ⟨hx, trivial⟩
def semInsert (tt : TT) (nt : Nat) (dst : Option Nat) (t : Nat) (m k v : Operand) : Rd := ev1 m fun m => ev1 k fun k => ev1 v fun v => match tt.at t, m, k with
  | some i, .mp s, .int .i64 n => match i.mp with
    | some (kt, _) => cond (isI (tt.at kt)) (.slot s fun z => match z with
      | .map es => noKey n es (fin nt dst [.slot s (.map (es ++ [(n, v)])) []] .bad)
      | _ => .fail) .fail
    | none => .fail
  | _, _, _ => .fail
theorem ok_insert (hck : tt.ck P = true) {o : Oper} {t : Nat} {m k v : Operand} {Q : Exit → Act → World → Prop} {ws : List Wr} (ho : o.op = .insert t m k v ∨ o.op = .mapUpdate t m k v) (hI : Inv F0 w0 E σ a w) (h : (semInsert tt σ.nt o.dst t m k v).gives σ ws) : Good P F0 w0 E o a w (σ.aps ws) Q := by
  replace h := ev1_gives hI h
  obtain ⟨mv, hm, h⟩ := h
  replace h := ev1_gives hI h
  obtain ⟨kv, hk, h⟩ := h
  replace h := ev1_gives hI h
  obtain ⟨vv, hv, h⟩ := h
  split at h
  · rename_i i s n hi
    split at h
    · rename_i kt et hmp
      cases hI' : isI (tt.at kt)
      · rw [hI'] at h; exact absurd h Rd.gives_fail
      rw [hI', cond_true] at h
      replace h := Rd.gives_slot.1 h
      split at h
      · rename_i es hs
        obtain ⟨hno, h⟩ := noKey_gives h
        obtain ⟨hu, hku⟩ := TF.map hck (TT.fact hck hi) hmp hI'
        obtain ⟨b, hβ, em⟩ := hm
        have ek : a.eval k = .int .i64 n := hk
        have hsl := hI.heap.slot s
        rw [hs] at hsl
        obtain ⟨b', ents, cl, g1, g2, g3⟩ := hsl
        rw [hβ] at g1
        obtain rfl := Option.some.inj g1
        have hkl : s < σ.heap.length := hg_lt (by rw [hs]; simp)
        have hfind := find_none (kind := .i64) 0 g3 hno
        obtain ⟨q1, q2⟩ := heap_set (o' := .map (ents.push { key := .int .i64 n, val := a.eval v, born := cl }) (cl + 1)) g2
        have hev : Evo E w E { w with heap := w.heap.setIfInBounds b (.map (ents.push { key := .int .i64 n, val := a.eval v, born := cl }) (cl + 1)) } := ⟨fun _ _ e => e, fun _ _ e => e, fun _ e => e, fun q hq => q2 q (fun e => (hI.heap.own s b (by rw [hs]; exact hβ)).2.2 (e ▸ hq))⟩
        obtain ⟨i1, i2⟩ := hI.heap.write (w' := { w with heap := w.heap.setIfInBounds b (.map (ents.push { key := .int .i64 n, val := a.eval v, born := cl }) (cl + 1)) }) hkl (g := b) (by rw [hs]; exact hβ) q2 rfl rfl rfl (by simp)
          (s := .map (es ++ [(n, vv)])) (c := []) ⟨b, _, _, hβ, q1, by
            rw [Array.toList_push]
            refine All2.snoc (g3.imp fun m x hmx => ⟨hmx.1, hmx.2.evo hev⟩) ⟨rfl, hv.evo hev⟩⟩ (fun q hq => by rw [hs]; exact hq)
        refine upon_skip_fin (hw := [.slot s (.map (es ++ [(n, vv)])) []]) (E' := E) ?_ (hI.evo i2 i1) i2 rfl h
        rcases ho with ho | ho <;> simp [execOp, ho, em, ek, Instr.mapUpdate, run_underlying hu w, Go.MapKept.run_getObj_map g2, run_checkKey (d := .int .i64) hku (show IsKey (.int .i64) (.int .i64 n) from rfl) false 9999, run_findKey hku hfind, run_setObj_map _ g2]
      · exact absurd h Rd.gives_fail
    · exact absurd h Rd.gives_fail
  · exact absurd h Rd.gives_fail
/-- What is found: the j-th entry, or (where nothing is said) none. -/
def semLookup (tt : TT) (nt : Nat) (lu : Option Nat) (dst : Option Nat) (t : Nat) (m k : Operand) (ok : Bool) : Rd := ev1 m fun m => ev1 k fun k => match tt.at t, m, k, ok with
  | some i, .mp s, .int .i64 n, true => match i.mp with
    | some (kt, e) => cond (isI (tt.at kt)) (.slot s fun z => match z with
      | .map es => match lu with
        | some j => match es[j]? with
          | some (c, x) => .need (n = c) (noKey n (es.take j) (fin nt dst [] (.tup [.one x, .one (.bool true)])))
          | none => .fail
        | none => match tt.at e with
          | some d => match d.agg, d.zero with
            | false, [x] => noKey n es (fin nt dst [] (.tup [.one x, .one (.bool false)]))
            | _, _ => .fail
          | none => .fail
      | _ => .fail) .fail
    | none => .fail
  | _, _, _, _ => .fail
theorem ok_lookup (hck : tt.ck P = true) {o : Oper} {t : Nat} {lu : Option Nat} {m k : Operand} {ok : Bool} {Q : Exit → Act → World → Prop} {ws : List Wr} (ho : o.op = .lookup t m k ok) (hI : Inv F0 w0 E σ a w) (h : (semLookup tt σ.nt lu o.dst t m k ok).gives σ ws) : Good P F0 w0 E o a w (σ.aps ws) Q := by
  replace h := ev1_gives hI h
  obtain ⟨mv, hm, h⟩ := h
  replace h := ev1_gives hI h
  obtain ⟨kv, hk, h⟩ := h
  split at h
  · rename_i i s n hi
    split at h
    · rename_i kt e hmp
      cases hI' : isI (tt.at kt)
      · rw [hI'] at h; exact absurd h Rd.gives_fail
      rw [hI', cond_true] at h
      replace h := Rd.gives_slot.1 h
      split at h
      · rename_i es hs
        obtain ⟨hu, hku⟩ := TF.map hck (TT.fact hck hi) hmp hI'
        obtain ⟨b, hβ, em⟩ := hm
        have ek : a.eval k = .int .i64 n := hk
        have hsl := hI.heap.slot s
        rw [hs] at hsl
        obtain ⟨b', ents, cl, g1, g2, g3⟩ := hsl
        rw [hβ] at g1
        obtain rfl := Option.some.inj g1
        have hck2 : ∀ z, (Instr.checkKey z 10000 kt (.int .i64 n)).run P w = .ok () w := fun z => run_checkKey (d := .int .i64) hku (show IsKey (.int .i64) (.int .i64 n) from rfl) z 9999
        split at h
        · rename_i j
          split at h
          · rename_i c x hj
            obtain ⟨hnc, h1⟩ := Rd.gives_need.1 h
            clear h
            obtain ⟨hno, h⟩ := noKey_gives h1
            rw [← hnc] at hj
            obtain ⟨q, v, f1, f2⟩ := find_some (kind := .i64) 0 j g3 hj hno
            refine good_fin (hw := []) (v := .tuple #[v, .bool true]) (E' := E) (tv := .tup [.one x, .one (.bool true)]) ?_ hI (Evo.refl E w) ⟨_, rfl, f2, rfl, trivial⟩ rfl h
            simp [execOp, ho, em, ek, Instr.lookup, run_underlying hu w, Go.MapKept.run_getObj_map g2, hck2, run_findKey hku f1]
          · exact absurd h Rd.gives_fail
        · split at h
          · rename_i d hd
            split at h
            · rename_i x hagg hz
              obtain ⟨hno, h⟩ := noKey_gives h
              have hfind := find_none (kind := .i64) 0 g3 hno
              obtain ⟨z, z1, _, z3, z4⟩ := run_zero (TT.fact hck hd) w
              have z5 := zall_ok E w z4
              rw [hz, z3 hagg] at z5
              have z6 : RepA E w z x := z5.1
              refine good_fin (hw := []) (v := .tuple #[z, .bool false]) (E' := E) (tv := .tup [.one x, .one (.bool false)]) ?_ hI (Evo.refl E w) ⟨_, rfl, z6, rfl, trivial⟩ rfl h
              simp [execOp, ho, em, ek, Instr.lookup, run_underlying hu w, Go.MapKept.run_getObj_map g2, hck2, run_findKey hku hfind, z1]
            · exact absurd h Rd.gives_fail
          · exact absurd h Rd.gives_fail
      · exact absurd h Rd.gives_fail
    · exact absurd h Rd.gives_fail
  · exact absurd h Rd.gives_fail
end
end Go.Proofs.Ytajddhechcneoaa.V
