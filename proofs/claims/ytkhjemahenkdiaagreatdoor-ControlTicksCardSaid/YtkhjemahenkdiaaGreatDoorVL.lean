/- What an operation reads and writes, without memory; each against the model. Part 9: structs, arrays and slices that are written out. -/
import Derived.Test.YtkhjemahenkdiaaGreatDoorVK
namespace Go.Proofs.YtkhjemahenkdiaaGreatDoor.V
open Go Go.RowKit
set_option linter.unusedVariables false
set_option linter.unusedSimpArgs false
theorem foldl_set (off : Nat) : ∀ (l : List Value) (k : Nat) (cells : Array Value), off + k + l.length ≤ cells.size → ((l.zipIdx k).foldl (fun cs (p : Value × Nat) => cs.setIfInBounds (off + p.2) p.1) cells).toList = cells.toList.take (off + k) ++ l ++ cells.toList.drop (off + k + l.length)
  | [], k, cells, _ => by simp
  | v :: l, k, cells, h => by
    simp only [List.length_cons] at h
    rw [List.zipIdx_cons, List.foldl_cons, foldl_set off l (k + 1) _ (by simp; omega)]
    simp only [Array.toList_setIfInBounds, List.length_cons]
    have e1 : (cells.toList.set (off + k) v).take (off + (k + 1)) = cells.toList.take (off + k) ++ [v] := by
      rw [show off + (k + 1) = off + k + 1 by omega, List.take_add_one, List.take_set_of_le (Nat.le_refl _)]
      simp [List.getElem?_set]
      omega
    have e2 : (cells.toList.set (off + k) v).drop (off + (k + 1) + l.length) = cells.toList.drop (off + k + (l.length + 1)) := by
      rw [List.drop_set_of_lt (by omega)]
      congr 1
      omega
    rw [e1, e2]
    simp
def afill (place : Nat → Option (Nat × Nat)) (l : List AV) : List (Nat × List AV) → Option (List AV)
  | [] => some l
  | (i, c) :: r => match place i with
    | none => none
    | some (off, size) => cond (Nat.beq c.length size && Nat.ble (off + size) l.length) (afill place (spl l off c) r) none
section
variable {P : Program} {F0 : Nat → Prop} {w0 : World} {E : En} {σ : St} {a : Act} {w : World} {tt : TT} {heap : Heap}
theorem fill_rel {place aplace : Nat → Option (Nat × Nat)} (hp : ∀ k r, aplace k = some r → place k = some r) : ∀ {parts : List (Nat × Value)} {ap : List (Nat × List AV)} {cells : Array Value} {l l' : List AV}, All2 (fun (p : Nat × Value) (q : Nat × List AV) => p.1 = q.1 ∧ RepL E w p.2.cells.toList q.2) parts ap → RepL E w cells.toList l → afill aplace l ap = some l' → ∃ cs', Instr.fill place cells parts = some cs' ∧ RepL E w cs'.toList l'
  | [], [], cells, l, l', _, hl, h => ⟨cells, rfl, by rw [← Option.some.inj h]; exact hl⟩
  | (i, v) :: parts, (i', c) :: ap, cells, l, l', hq, hl, h => by
    obtain ⟨⟨rfl, hv⟩, hq⟩ := hq
    unfold afill at h
    split at h
    · cases h
    · rename_i off size hpl
      cases hb : (Nat.beq c.length size && Nat.ble (off + size) l.length)
      · rw [hb] at h; cases h
      · rw [hb, cond_true] at h
        simp only [Bool.and_eq_true] at hb
        have h1 := Nat.eq_of_beq_eq_true hb.1
        have h2 := Nat.le_of_ble_eq_true hb.2
        have hvl := hv.len
        have hll := hl.len
        simp only [Array.length_toList] at hvl hll
        have hfold : (v.cells.zipIdx.foldl (fun cs (p : Value × Nat) => cs.setIfInBounds (off + p.2) p.1) cells).toList = cells.toList.take off ++ v.cells.toList ++ cells.toList.drop (off + v.cells.toList.length) := by
          rw [← Array.foldl_toList, Array.toList_zipIdx]
          have := foldl_set off v.cells.toList 0 cells (by simp; omega)
          simpa using this
        unfold Instr.fill
        rw [show place i = some (off, size) from hp _ _ hpl]
        simp only
        rw [if_neg (by simp; omega)]
        exact fill_rel hp hq (by rw [hfold]; exact spl_rep hl hv) h
def evp : List (Nat × Operand) → (List (Nat × List AV) → Rd) → Rd
  | [], k => k []
  | (i, x) :: r, k => evc x fun c => evp r fun l => k ((i, c.cells) :: l)
theorem evp_gives (hI : Inv F0 w0 E σ a w) : ∀ {xs : List (Nat × Operand)} {k : List (Nat × List AV) → Rd} {ws : List Wr}, (evp xs k).gives σ ws → ∃ l, All2 (fun (p : Nat × Value) (q : Nat × List AV) => p.1 = q.1 ∧ RepL E w p.2.cells.toList q.2) (xs.map fun p => (p.1, a.eval p.2)) l ∧ (k l).gives σ ws
  | [], k, ws, h => ⟨[], trivial, h⟩
  | (i, x) :: r, k, ws, h => by
    obtain ⟨c, hc, h⟩ := evc_gives hI h
    obtain ⟨l, hl, h⟩ := evp_gives hI h
    exact ⟨(i, c.cells) :: l, ⟨⟨rfl, hc.cells⟩, hl⟩, h⟩
def aplace (tt : TT) (i : TI) (k : Nat) : Option (Nat × Nat) := match i.arr with
  | some (_, e) => match tt.at e with
    | some j => some (k * j.n, j.n)
    | none => none
  | none => match fst i.fields k with
    | some (o, u) => match tt.at u with
      | some j => some (o, j.n)
      | none => none
    | none => none
def aok (tt : TT) (i : TI) : Bool := match i.arr with
  | some (_, e) => (tt.at e).isSome
  | none => true
def semBuild (tt : TT) (nt : Nat) (dst : Option Nat) (t : Nat) (parts : Array (Nat × Operand)) : Rd := evp parts.toList fun l => match tt.at t with
  | some i => match afill (aplace tt i) i.zero l with
    | some c => cond (i.agg && aok tt i) (fin nt dst [] (.cv (.agg c))) .fail
    | none => .fail
  | none => .fail
theorem ok_build (hck : tt.ck P = true) {o : Oper} {t : Nat} {parts : Array (Nat × Operand)} {Q : Exit → Act → World → Prop} {ws : List Wr} (ho : o.op = .build t parts) (hI : Inv F0 w0 E σ a w) (h : (semBuild tt σ.nt o.dst t parts).gives σ ws) : Good P F0 w0 E o a w (σ.aps ws) Q := by
  replace h := evp_gives hI h
  obtain ⟨l, hl, h⟩ := h
  split at h
  · rename_i i hi
    split at h
    · rename_i c hc
      cases ha : (i.agg && aok tt i)
      · rw [ha] at h; exact absurd h Rd.gives_fail
      · rw [ha, cond_true] at h
        simp only [Bool.and_eq_true] at ha
        obtain ⟨ha, hok⟩ := ha
        have hT := TT.fact hck hi
        obtain ⟨f, d, z, h1, h2, h3, h4, h5, h6, h7, h8, h9, h10, h11, h12⟩ := hT.ex
        clear h11 h12
        have hz := zall_ok E w h8
        have key : ∀ place : Nat → Option (Nat × Nat), (∀ k r, aplace tt i k = some r → place k = some r) → ∃ cs', Instr.fill place z.cells (parts.map fun (p : Nat × Operand) => (p.1, a.eval p.2)).toList = some cs' ∧ RepL E w cs'.toList c := by
          intro place hp
          rw [Array.toList_map]
          exact fill_rel hp hl hz hc
        have hbuilt : ∃ cs', P.built t (parts.map fun (p : Nat × Operand) => (p.1, a.eval p.2)).toList = some cs' ∧ RepL E w cs'.toList c := by
          unfold Program.built
          rw [h1, h2]
          rw [ha] at h9
          cases d <;> simp only [dAgg] at h9 <;> try (cases h9)
          · rename_i n e
            unfold dOk at h10
            simp only [Bool.and_eq_true, beq_iff_eq] at h10
            have harr := h10.2.1
            cases hj : tt.at e with
            | none =>
              unfold aok at hok
              rw [harr] at hok
              simp [hj] at hok
            | some j =>
              obtain ⟨fe, de, ze, e1, e2, e3, _⟩ := (TT.fact hck hj).ex
              simp only [h5, e1]
              refine key _ (fun k r hk => ?_)
              unfold aplace at hk
              rw [harr] at hk
              simp only [hj] at hk
              rw [e3]
              exact hk
          · rename_i fs
            unfold dOk at h10
            simp only [Bool.and_eq_true] at h10
            obtain ⟨pl, hpl, hget⟩ := flds_map h10.1.1.2
            simp only [h5, hpl]
            refine key _ (fun k r hk => ?_)
            unfold aplace at hk
            have harr : i.arr = none := by simpa using h10.2.1
            rw [harr] at hk
            simp only [fst_eq] at hk
            split at hk
            · rename_i o' u hf
              split at hk
              · rename_i j hj
                obtain ⟨fe, de, ze, e1, e2, e3, _⟩ := (TT.fact hck hj).ex
                rw [← Option.some.inj hk, ← e3]
                simpa using hget k o' u fe hf e1
              · cases hk
            · cases hk
        obtain ⟨cs', hb, hr⟩ := hbuilt
        refine good_pure (v := .agg cs') ?_ hI (show RepT E w _ (.cv (.agg c)) from ⟨cs', rfl, hr⟩) h
        have := run_build (P := P) w t (parts.map fun (p : Nat × Operand) => (p.1, a.eval p.2)) cs' hb
        simp [execOp, ho, this]
    · exact absurd h Rd.gives_fail
  · exact absurd h Rd.gives_fail
def decL (τ : Ty) : Nat → List AV → Option (List τ.T)
  | 0, _ => some []
  | n + 1, l => match dec τ (l.take τ.sz), decL τ n (l.drop τ.sz) with
    | some x, some xs => some (x :: xs)
    | _, _ => none
theorem decL_ok {τ : Ty} : ∀ {n : Nat} {l : List AV} {vs : List Value} {xs : List τ.T}, l.length = n * τ.sz → RepL E w vs l → decL τ n l = some xs → El (RepD E.F w τ) xs vs ∧ xs.length = n
  | 0, l, vs, xs, hl, hr, h => by
    obtain rfl := Option.some.inj h
    have : vs = [] := List.length_eq_zero_iff.1 (by rw [hr.len, hl]; simp)
    exact ⟨this, rfl⟩
  | n + 1, l, vs, xs, hl, hr, h => by
    unfold decL at h
    split at h
    · rename_i x ys h1 h2
      obtain rfl := Option.some.inj h
      obtain ⟨q1, q2⟩ := decL_ok (by rw [List.length_drop, hl, Nat.succ_mul]; omega) (hr.drop τ.sz) h2
      exact ⟨⟨vs.take τ.sz, vs.drop τ.sz, (List.take_append_drop _ _).symm, RepD.dec (hr.take τ.sz) h1, q1⟩, by simp [q2]⟩
    · cases h
def resolP : List (Nat × List AV) → (List (Nat × List AV) → Rd) → Rd
  | [], k => k []
  | (i, c) :: r, k => resol c fun c => resolP r fun l => k ((i, c) :: l)
theorem resolP_gives (hI : Inv F0 w0 E σ a w) : ∀ {l : List (Nat × List AV)} {vs : List (Nat × Value)} {k : List (Nat × List AV) → Rd} {ws : List Wr}, All2 (fun (p : Nat × Value) (q : Nat × List AV) => p.1 = q.1 ∧ RepL E w p.2.cells.toList q.2) vs l → (resolP l k).gives σ ws → ∃ m, All2 (fun (p : Nat × Value) (q : Nat × List AV) => p.1 = q.1 ∧ RepL E w p.2.cells.toList q.2) vs m ∧ (k m).gives σ ws
  | [], vs, k, ws, hl, h => ⟨[], hl, h⟩
  | (i, c) :: r, v :: vs, k, ws, hl, h => by
    obtain ⟨m, hm, h⟩ := resol_gives hI hl.1.2 h
    obtain ⟨n, hn, h⟩ := resolP_gives hI hl.2 h
    exact ⟨(i, m) :: n, ⟨⟨hl.1.1, hm⟩, hn⟩, h⟩
def semBuildSlice (tt : TT) (nt hn sb : Nat) (own : Bool) (dst : Option Nat) (t len : Nat) (parts : Array (Nat × Operand)) : Rd := evp parts.toList fun l => resolP l fun l => match tt.at t with
  | some i => match i.elem with
    | some e => match tt.at e with
      | some j => match j.ty with
        | some τ => cond (Nat.beq τ.sz j.n && Nat.ble (len * j.n) 16777216) (match afill (fun k => some (k * j.n, j.n)) (List.replicate (len * j.n) .bad) l with
          | some c => match decL τ len c with
            | some xs => cond own (free hn sb (fin nt dst [.slot sb (.buf e τ xs) []] (.cv (.one (.own sb))))) (fin nt dst [] (.cv (.one (.sl τ xs .full))))
            | none => .fail
          | none => .fail) .fail
        | none => cond (Nat.beq j.n 1 && Nat.ble (len * j.n) 16777216) (match afill (fun k => some (k * j.n, j.n)) (List.replicate (len * j.n) .bad) l with
          | some c => free hn sb (fin nt dst [.slot sb (.box c.length) c] (.cv (.one (.bsl sb len))))
          | none => .fail) .fail
      | none => .fail
    | none => .fail
  | none => .fail
theorem spl_len {l c : List AV} {o : Nat} (h : o + c.length ≤ l.length) : (spl l o c).length = l.length := by
  simp only [spl, List.length_append, List.length_take, List.length_drop]; omega
theorem afill_len {place : Nat → Option (Nat × Nat)} : ∀ {ap : List (Nat × List AV)} {l l' : List AV}, afill place l ap = some l' → l'.length = l.length
  | [], l, l', h => by rw [← Option.some.inj h]
  | (i, c) :: ap, l, l', h => by
    unfold afill at h
    split at h
    · cases h
    · rename_i off size hpl
      cases hb : (Nat.beq c.length size && Nat.ble (off + size) l.length)
      · rw [hb] at h; cases h
      · rw [hb, cond_true] at h
        simp only [Bool.and_eq_true] at hb
        have h1 := Nat.eq_of_beq_eq_true hb.1
        have h2 := Nat.le_of_ble_eq_true hb.2
        rw [afill_len h, spl_len (by omega)]
theorem RepL.bads {vs : List Value} (h : ∀ v ∈ vs, v.oneCell' = true) : RepL E w vs (List.replicate vs.length .bad) := by
  induction vs with
  | nil => trivial
  | cons v vs ih => exact ⟨h v List.mem_cons_self, ih fun u hu => h u (List.mem_cons_of_mem _ hu)⟩
theorem zc_one {z : Array Value} {n : Nat} (h1 : ∀ v ∈ z.toList, v.oneCell' = true) (hz : n ≠ 0 → z.size ≠ 0) : ∀ v ∈ ((Array.range n).map (z[· % z.size]!)).toList, v.oneCell' = true := by
  intro v hv
  simp only [Array.toList_map, List.mem_map, Array.toList_range, List.mem_range] at hv
  obtain ⟨i, hi, rfl⟩ := hv
  have hp : 0 < z.size := Nat.pos_of_ne_zero (hz (by omega))
  have hm := Nat.mod_lt i hp
  rw [getElem!_pos z (i % z.size) hm]
  exact h1 _ (by simp)
theorem bs_run (hck : tt.ck P = true) {o : Oper} {t len e : Nat} {parts : Array (Nat × Operand)} {i j : TI} {τ : Ty} {l : List (Nat × List AV)} {c : List AV} (ho : o.op = .buildSlice t len parts) (hi : tt.at t = some i) (he : i.elem = some e) (hj : tt.at e = some j) (hsz : τ.sz = j.n) (hlim : len * j.n ≤ 16777216)
    (hl : All2 (fun (p : Nat × Value) (q : Nat × List AV) => p.1 = q.1 ∧ RepL E w p.2.cells.toList q.2) (parts.toList.map fun p => (p.1, a.eval p.2)) l) (hc : afill (fun k => some (k * j.n, j.n)) (List.replicate (len * j.n) .bad) l = some c) :
    ∃ cs' : Array Value, (execOp a.eval o).run P w = .ok (.value (.slice (some ⟨w.heap.size, 0, none⟩) len len)) (w.alloc (.cells cs' e)) ∧ RepL E w cs'.toList c ∧ cs'.toList.length = len * τ.sz := by
  have hE := TT.fact hck hj
  obtain ⟨z, hz, _, _, hzz⟩ := run_zero hE w
  have hzr := zall_ok E w hzz
  have hzs : z.cells.size = j.n := by
    have := hzr.len
    rw [Array.length_toList, hE.zl] at this
    exact this
  generalize hZ : (if len * j.n = 0 then (#[] : Array Value) else z.cells) = Z
  have hZ1 : ∀ v ∈ Z.toList, v.oneCell' = true := by
    rw [← hZ]; split
    · simp
    · exact hzr.ones
  have hZ2 : len * j.n ≠ 0 → Z.size ≠ 0 := by
    intro h
    rw [← hZ, if_neg h, hzs]
    intro h0
    rw [h0] at h
    simp at h
  have hbase : RepL E w ((Array.range (len * j.n)).map (Z[· % Z.size]!)).toList (List.replicate (len * j.n) .bad) := by
    have := RepL.bads (E := E) (w := w) (zc_one (n := len * j.n) hZ1 hZ2)
    simpa using this
  obtain ⟨cs', hf, hr⟩ := fill_rel (place := fun k => some (k * j.n, j.n)) (fun k r h => h) (cells := (Array.range (len * j.n)).map (Z[· % Z.size]!)) hl hbase hc
  have hcl := afill_len hc
  rw [List.length_replicate] at hcl
  have hcs : cs'.toList.length = len * τ.sz := by rw [hr.len, hcl, hsz]
  refine ⟨cs', ?_, hr, hcs⟩
  have hu := (TT.fact hck hi).slice he
  have hlim' : ¬ (16777216 < len * j.n) := by omega
  by_cases h0 : len * j.n = 0
  · rw [if_pos h0] at hZ
    subst hZ
    simp only [h0] at hf
    simp [execOp, ho, Instr.buildSlice, run_underlying hu w, run_sizeOf hE w, h0, newRow]
    have e0 : ∀ f : Nat → Value, (Array.range 0).map f = #[] := fun f => by simp [Array.range_zero']
    rw [e0] at hf ⊢
    rw [hf]
    simp
  · rw [if_neg h0] at hZ
    subst hZ
    simp [execOp, ho, Instr.buildSlice, run_underlying hu w, run_sizeOf hE w, h0, hlim', newRow, hz]
    rw [hf]
    simp
theorem ok_buildSlice (hck : tt.ck P = true) {o : Oper} {t len sb : Nat} {own : Bool} {parts : Array (Nat × Operand)} {Q : Exit → Act → World → Prop} {ws : List Wr} (ho : o.op = .buildSlice t len parts) (hI : Inv F0 w0 E σ a w) (h : (semBuildSlice tt σ.nt σ.heap.length sb own o.dst t len parts).gives σ ws) : Good P F0 w0 E o a w (σ.aps ws) Q := by
  replace h := evp_gives hI h
  obtain ⟨l, hl, h⟩ := h
  replace h := resolP_gives hI hl h
  obtain ⟨l, hl, h⟩ := h
  split at h
  · rename_i i hi
    split at h
    · rename_i e he
      split at h
      · rename_i j hj
        split at h
        · rename_i τ hτ
          cases hb : (Nat.beq τ.sz j.n && Nat.ble (len * j.n) 16777216)
          · rw [hb] at h; exact absurd h Rd.gives_fail
          · rw [hb, cond_true] at h
            simp only [Bool.and_eq_true] at hb
            have hsz := Nat.eq_of_beq_eq_true hb.1
            have hlim := Nat.le_of_ble_eq_true hb.2
            split at h
            · rename_i c hc
              split at h
              · rename_i xs hxs
                obtain ⟨cs', hrun, hr, hcs⟩ := bs_run hck ho hi he hj hsz hlim hl hc
                have hcl := afill_len hc
                rw [List.length_replicate] at hcl
                obtain ⟨q1, q2⟩ := decL_ok (by rw [hcl, hsz]) hr hxs
                · cases own
                  · obtain ⟨p1, p2, p3⟩ := frz_grown hI.heap (xs := xs) (cap := len) (cells := cs') (inner := cs'.toList) (et := e) (w.alloc (.cells cs' e)) (heap_new w _) (fun b hb => heap_old w _ hb) (by simp) rfl rfl rfl (by omega) (by rw [q2, ← hcs, List.take_length]) q1
                    rw [q2] at p3
                    exact good_one' hrun (hI.evo p2 p1) p2 rfl h ⟨p3, rfl⟩
                  · rw [cond_true] at h
                    obtain ⟨f1, f2, h⟩ := free_gives h
                    have hmx : len ≤ maxLen := by
                      have := Nat.le_mul_of_pos_right len τ.sz_pos
                      rw [hsz] at this
                      unfold maxLen; omega
                    obtain ⟨E', p1, p2, p3⟩ := own_grown hI.heap f1 f2 (xs := xs) (cap := len) (cells := cs') (inner := cs'.toList) (et := e) (w.alloc (.cells cs' e)) (heap_new w _) (fun b hb => heap_old w _ hb) (by simp) rfl rfl rfl (by omega) hmx (by rw [← hcs, Array.length_toList]) (by rw [q2, ← hcs, List.take_length]) q1
                    rw [q2] at p3
                    exact good_one' hrun (hI.evo p2 p1) p2 rfl h ⟨p3, _, _, _, rfl⟩
              · exact absurd h Rd.gives_fail
            · exact absurd h Rd.gives_fail
        · cases hb : (Nat.beq j.n 1 && Nat.ble (len * j.n) 16777216)
          · rw [hb] at h; exact absurd h Rd.gives_fail
          · rw [hb, cond_true] at h
            simp only [Bool.and_eq_true] at hb
            have hsz := Nat.eq_of_beq_eq_true hb.1
            have hlim := Nat.le_of_ble_eq_true hb.2
            split at h
            · rename_i c hc
              obtain ⟨cs', hrun, hr, hcs⟩ := bs_run (τ := .bool) hck ho hi he hj (by rw [hsz]; rfl) hlim hl hc
              obtain ⟨f1, f2, h⟩ := free_gives h
              obtain ⟨E', hI', he', b, hb1, hb2⟩ := newbox hI f1 f2 cs' e hr
              have hb3 : b = w.heap.size := by
                simp only [Value.pointer.injEq, Option.some.injEq, Addr.mk.injEq, and_true] at hb2
                exact hb2.symm
              exact good_one' hrun hI' he' rfl h ⟨b, hb1, by rw [hb3]⟩
            · exact absurd h Rd.gives_fail
      · exact absurd h Rd.gives_fail
    · exact absurd h Rd.gives_fail
  · exact absurd h Rd.gives_fail
end
end Go.Proofs.YtkhjemahenkdiaaGreatDoor.V
