/- What an operation reads and writes, without memory; each against the model. Part 5: stores, places, slices. -/
import Derived.Test.YtkhjemahenkdiaaGreatDoorVG
namespace Go.Proofs.YtkhjemahenkdiaaGreatDoor.V
open Go Go.RowKit
set_option linter.unusedVariables false
set_option linter.unusedSimpArgs false
section
variable {P : Program} {F0 : Nat → Prop} {w0 : World} {E : En} {σ : St} {a : Act} {w : World} {tt : TT}
def spl (l : List AV) (o : Nat) (m : List AV) : List AV := l.take o ++ m ++ l.drop (o + m.length)
/-- A slice's own slot that is written no more, as the slice itself. -/
def resol : List AV → (List AV → Rd) → Rd
  | [], k => k []
  | .own s :: r, k => .slot s fun t => match t with
    | .frz e xs => resol r fun l => k (.sl e xs .any :: l)
    | _ => .fail
  | x :: r, k => resol r fun l => k (x :: l)
theorem resol_gives (hI : Inv F0 w0 E σ a w) : ∀ {l : List AV} {vs : List Value} {k : List AV → Rd} {ws : List Wr}, RepL E w vs l → (resol l k).gives σ ws → ∃ m, RepL E w vs m ∧ (k m).gives σ ws
  | [], vs, k, ws, hl, h => ⟨[], hl, h⟩
  | x :: r, v :: vs, k, ws, hl, h => by
    by_cases hx : ∃ s, x = .own s
    · obtain ⟨s, rfl⟩ := hx
      have h := Rd.gives_slot.1 h
      split at h
      · rename_i e xs hs
        have hk := hI.heap.slot s
        rw [hs] at hk
        obtain ⟨u, h1, h2⟩ := hk
        have h3 := hl.1.1
        rw [h1] at h3
        obtain rfl := Option.some.inj h3
        obtain ⟨m, hm, h⟩ := resol_gives hI hl.2 h
        exact ⟨.sl e xs .any :: m, ⟨⟨h2, trivial⟩, hm⟩, h⟩
      · exact absurd h Rd.gives_fail
    · have h' : (resol r fun l => k (x :: l)).gives σ ws := by
        cases x <;> first | exact h | exact absurd ⟨_, rfl⟩ hx
      obtain ⟨m, hm, h⟩ := resol_gives hI hl.2 h'
      exact ⟨x :: m, ⟨hl.1, hm⟩, h⟩
def wcells (k : Nat) : Nat → List AV → List Wr
  | _, [] => []
  | o, x :: r => .cell k o x :: wcells k (o + 1) r
theorem hs_hs (h : Heap) (k : Nat) (s s' : Sl × List AV) : hs (hs h k s) k s' = hs h k s' := by
  rw [hs_eq, hs_eq, hs_eq, List.set_set]
theorem hs_self {h : Heap} {k : Nat} (hk : k < h.length) : hs h k (hg h k) = h := by
  rw [hs_eq, hg_eq, List.getElem?_eq_getElem hk]
  exact List.set_getElem_self hk
theorem aps_wcells (k : Nat) : ∀ (l : List AV) (o : Nat) (σ : St), k < σ.heap.length → o + l.length ≤ (hg σ.heap k).2.length → σ.aps (wcells k o l) = ⟨σ.nt, σ.tmps, hs σ.heap k ((hg σ.heap k).1, spl (hg σ.heap k).2 o l)⟩
  | [], o, σ, hk, hl => by
    simp only [wcells, St.aps, spl, List.append_nil, List.length_nil, Nat.add_zero, List.take_append_drop]
    rw [hs_self hk]
  | x :: r, o, σ, hk, hl => by
    simp only [List.length_cons] at hl
    have e1 : hg (σ.ap (.cell k o x)).heap k = ((hg σ.heap k).1, (hg σ.heap k).2.set o x) := by
      simp only [St.ap, ns_eq]
      rw [hg_hs _ _ _ _ hk, if_pos rfl]
    have ih := aps_wcells k r (o + 1) (σ.ap (.cell k o x)) (by simp only [St.ap, hs_len]; exact hk) (by rw [e1]; simp; omega)
    rw [wcells, St.aps, ih, e1]
    simp only [St.ap, hs_hs]
    congr 3
    simp only [spl, List.length_cons]
    generalize (hg σ.heap k).2 = L at *
    have e2 : (L.set o x).take (o + 1) = L.take o ++ [x] := by
      rw [List.take_add_one, List.take_set_of_le (Nat.le_refl o)]
      simp [List.getElem?_set]
      omega
    have e3 : (L.set o x).drop (o + 1 + r.length) = L.drop (o + (r.length + 1)) := by
      rw [List.drop_set_of_lt (by omega)]
      congr 1
      omega
    rw [e2, e3]
    simp
theorem run_storeV {t : Nat} {i : TI} (hT : TF P t i) {g p : Nat} {et : TypeId} {cur : Array Value} (hg : w.heap[g]? = some (.cells cur et (0, 0))) {v : Value} (hl : v.cells.size = i.n) (ho : p + i.n ≤ cur.size) (h1 : ∀ u ∈ v.cells.toList, u.oneCell' = true) :
    (storeVar t ⟨g, p, none⟩ v).run P w = .ok () (w.setCells g p v.cells.toList) := by
  have hst := run_storeCells_cells (P := P) g p v.cells.toList 0 w (fun j hj => by
    rw [Nat.add_zero, cell_of_row _ _ _ _ _ _ hg, Array.getElem?_eq_getElem (by simp at hj; omega)]; rfl) (fun j _ => frozen_of_row _ _ _ _ _ hg) h1
  unfold storeVar
  rw [Sem.run_bind, run_sizeOf hT w]
  simp only [Result.andThen_ok, Sem.run_ite]
  rw [if_neg (by simp [hl])]
  simpa using hst
def semStore (tt : TT) (nt : Nat) (dst : Option Nat) (t : Nat) (x v : Operand) : Rd := ev1 x fun p => evc v fun c => match tt.at t with
  | none => .fail
  | some i => cond (Nat.beq c.cells.length i.n) (match p with
    | .ptr k off => .slot k fun s => match s with
      | .box n => cond (Nat.ble (off + i.n) n) (fin nt dst (wcells k off c.cells) .bad) .fail
      | _ => .fail
    | .eptr k e j off => .slot k fun s => match s with
      | .buf et e' xs => cond (Nat.beq e'.sz e.sz && Nat.ble (off + i.n) e.sz) (resol c.cells fun l => match dec e' (spl (enc e' (att e' xs j)) off l) with
        | some y => fin nt dst [.slot k (.buf et e' (xs.set j.toNat y)) []] .bad
        | none => .fail) .fail
      | _ => .fail
    | _ => .fail) .fail
theorem upon_skip_fin {o : Oper} {Q : Exit → Act → World → Prop} {E' : En} {w' : World} {hw ws : List Wr}
    (hrun : (execOp a.eval o).run P w = .ok .skip w') (hI : Inv F0 w0 E' (σ.aps hw) a w') (he : Evo E w E' w') (hnt : (σ.aps hw).nt = σ.nt)
    (hg : (fin σ.nt o.dst hw .bad).gives σ ws) : Good P F0 w0 E o a w (σ.aps ws) Q := by
  unfold Good Oper.wp
  rw [hrun]
  simp only [Oper.upon]
  rcases fin_gives hg with ⟨hd, rfl⟩ | ⟨t, hd, hlt, rfl⟩
  · rw [hd]; exact ⟨E', hI, he⟩
  · rw [hd, St.aps_app]
    exact ⟨E', hI.put (by rw [hnt]; exact hlt) trivial, he⟩
theorem RepC.size {v : Value} {c : CV} (h : RepC E w v c) : v.cells.size = c.cells.length := by
  rw [← h.cells.len]; simp
theorem RepL.ones {vs : List Value} {l : List AV} (h : RepL E w vs l) : ∀ u ∈ vs, u.oneCell' = true := by
  induction vs generalizing l with
  | nil => simp
  | cons v vs ih =>
    match l, h with
    | x :: l, h =>
      intro u hu
      rcases List.mem_cons.1 hu with rfl | hu
      · exact h.1.one
      · exact ih h.2 u hu
theorem spl_rep {L M : List Value} {l m : List AV} {o : Nat} (h : RepL E w L l) (k : RepL E w M m) : RepL E w (L.take o ++ M ++ L.drop (o + M.length)) (spl l o m) := by
  unfold spl
  rw [k.len]
  exact ((h.take _).app k).app (h.drop _)
theorem splice_take (C A : List Value) (N p s o : Nat) (h1 : N ≤ C.length) (h2 : p + s ≤ N) (h3 : o + A.length ≤ s) :
    (C.take (p + o) ++ A ++ C.drop (p + o + A.length)).take N = (C.take N).take p ++ ((((C.take N).drop p).take s).take o ++ A ++ (((C.take N).drop p).take s).drop (o + A.length)) ++ (C.take N).drop (p + s) := by
  apply List.ext_getElem?
  intro q
  simp only [List.getElem?_append, List.getElem?_take, List.getElem?_drop, List.length_append, List.length_take, List.length_drop]
  repeat' split
  all_goals first | rfl | (exfalso; omega) | (congr 1; omega) | (rw [List.getElem?_eq_none (by omega)]) | skip
theorem ok_store (hck : tt.ck P = true) {o : Oper} {t : Nat} {x v : Operand} {Q : Exit → Act → World → Prop} {ws : List Wr} (ho : o.op = .store t x v) (hI : Inv F0 w0 E σ a w) (h : (semStore tt σ.nt o.dst t x v).gives σ ws) : Good P F0 w0 E o a w (σ.aps ws) Q := by
  replace h := ev1_gives hI h
  obtain ⟨p, hp, h⟩ := h
  replace h := evc_gives hI h
  obtain ⟨c, hc, h⟩ := h
  split at h
  · exact absurd h Rd.gives_fail
  · rename_i i hi
    have hT := TT.fact hck hi
    cases hb : Nat.beq c.cells.length i.n
    · rw [hb] at h; exact absurd h Rd.gives_fail
    · rw [hb] at h
      have hb := Nat.eq_of_beq_eq_true hb
      have hsz := hc.size
      split at h
      · rename_i k off
        replace h := Rd.gives_slot.1 h
        split at h
        · rename_i n hs
          cases hle : Nat.ble (off + i.n) n
          · rw [hle] at h; exact absurd h Rd.gives_fail
          · rw [hle] at h
            have hle := Nat.le_of_ble_eq_true hle
            obtain ⟨b, hβ, e⟩ := hp
            have hk := hI.heap.slot k
            rw [hs] at hk
            obtain ⟨b', cs, ty, h1, h2, h3, h4⟩ := hk
            rw [hβ] at h1
            obtain rfl := Option.some.inj h1
            have hlen := h4.len
            rw [h3, Array.length_toList] at hlen
            have hkl : k < σ.heap.length := hg_lt (by rw [hs]; simp)
            have hst := run_storeV (w := w) hT h2 (v := a.eval v) (p := off) (by rw [hsz, hb]) (by omega) hc.cells.ones
            obtain ⟨cur', r1, r2, r3⟩ := sc_row (a.eval v).cells.toList off w cs h2 (by simp; omega)
            obtain ⟨s1, s2, s3, s4⟩ := sc_same b (a.eval v).cells.toList off w
            have hev : Evo E w E (w.setCells b off (a.eval v).cells.toList) := ⟨fun _ _ e => e, fun _ _ e => e, fun _ e => e, fun q hq => sc_far _ _ _ (fun e => (hI.heap.own k b (by rw [hs]; exact hβ)).2.2 (e ▸ hq))⟩
            obtain ⟨i1, i2⟩ := hI.heap.write (w' := w.setCells b off (a.eval v).cells.toList) hkl (g := b) (by rw [hs]; exact hβ) (fun q hq => sc_far _ _ _ hq) s1 s2 s3 s4
              (s := .box n) (c := spl (hg σ.heap k).2 off c.cells) ⟨b, cur', ty, hβ, r1, by
                  simp only [spl, List.length_append, List.length_take, List.length_drop]; omega, by
                  rw [r3]; exact RepL.evo hev (spl_rep h4 hc.cells)⟩ (fun q hq => by rw [hs]; exact hq)
            refine upon_skip_fin (w' := w.setCells b off (a.eval v).cells.toList) (E' := E) ?_ ?_ i2 ?_ h
            · simp [execOp, ho, e, Instr.storeAt, Instr.sureAddr, hst]
            · rw [aps_wcells k c.cells off σ hkl (by omega), hs]
              exact hI.evo i2 i1
            · rw [aps_wcells k c.cells off σ hkl (by omega)]
        · exact absurd h Rd.gives_fail
      · rename_i k e j off
        replace h := Rd.gives_slot.1 h
        split at h
        · rename_i et e' xs hs
          cases hle : (Nat.beq e'.sz e.sz && Nat.ble (off + i.n) e.sz)
          · rw [hle] at h; exact absurd h Rd.gives_fail
          · rw [hle] at h
            simp only [Bool.and_eq_true] at hle
            have hsz2 := Nat.eq_of_beq_eq_true hle.1
            have hle := Nat.le_of_ble_eq_true hle.2
            replace h := resol_gives hI hc.cells h
            obtain ⟨m, hm, h⟩ := h
            split at h
            · rename_i y hy
              obtain ⟨g, p, n, cp, hγ, h0, hj, e1⟩ := hp
              obtain ⟨rfl, rfl, hcp, cur, inner, hg1, hn, hmx, hcs, ht, hE⟩ := own_at hI.heap hs hγ h0 hj
              have hjl : j.toNat < xs.length := by omega
              have hilen : inner.length = xs.length * e'.sz := hE.len (fun _ _ h => h.len)
              have hbnd : (j.toNat + 1) * e'.sz ≤ xs.length * e'.sz := Nat.mul_le_mul_right _ hjl
              have hbnd2 : xs.length * e'.sz ≤ cp * e'.sz := Nat.mul_le_mul_right _ hn
              rw [Nat.succ_mul] at hbnd
              have hkl : k < σ.heap.length := hg_lt (by rw [hs]; simp)
              have hvl : (a.eval v).cells.toList.length = i.n := by simp; omega
              have e1' : a.eval x = .pointer (some ⟨g, j.toNat * e'.sz + off, none⟩) := by rw [e1, ← hsz2, Nat.zero_add]
              have hst := run_storeV (w := w) hT hg1 (v := a.eval v) (p := j.toNat * e'.sz + off) (by rw [hsz, hb]) (by omega) hc.cells.ones
              obtain ⟨cur', r1, r2, r3⟩ := sc_row (a.eval v).cells.toList (j.toNat * e'.sz + off) w cur hg1 (by simp; omega)
              obtain ⟨s1, s2, s3, s4⟩ := sc_same g (a.eval v).cells.toList (j.toNat * e'.sz + off) w
              have hlive : Live E k (hg σ.heap k).1 g := by rw [hs]; exact ⟨0, xs.length, cp, hγ, hcp⟩
              have hev : Evo E w E (w.setCells g (j.toNat * e'.sz + off) (a.eval v).cells.toList) := ⟨fun _ _ e => e, fun _ _ e => e, fun _ e => e, fun q hq => sc_far _ _ _ (fun e => (hI.heap.own k g hlive).2.2 (e ▸ hq))⟩
              -- the old element, and the new one
              obtain ⟨cold, hr, hcell⟩ := hE.get (s := e'.sz) (fun _ _ h => h.len) (att_get h0 hj)
              have hcl := hr.len
              have hcold : cold = (inner.drop (j.toNat * e'.sz)).take e'.sz := by
                apply List.ext_getElem?
                intro q
                rw [List.getElem?_take]
                by_cases hq : q < e'.sz
                · rw [if_pos hq, List.getElem?_drop, List.getElem?_eq_getElem (by omega)]
                  exact (hcell q _ (List.getElem?_eq_getElem (by omega))).symm
                · rw [if_neg hq, List.getElem?_eq_none (by omega)]
              have hnew : RepD E.F w e' y (cold.take off ++ (a.eval v).cells.toList ++ cold.drop (off + (a.eval v).cells.toList.length)) := RepD.dec (spl_rep hr.enc hm) hy
              have hset := hE.set (s := e'.sz) (fun _ _ h => h.len) hnew j.toNat hjl
              obtain ⟨i1, i2⟩ := hI.heap.write (w' := w.setCells g (j.toNat * e'.sz + off) (a.eval v).cells.toList) hkl (g := g) hlive (fun q hq => sc_far _ _ _ hq) s1 s2 s3 s4
                (s := .buf et e' (xs.set j.toNat y)) (c := []) ⟨_, inner.take (j.toNat * e'.sz) ++ (cold.take off ++ (a.eval v).cells.toList ++ cold.drop (off + (a.eval v).cells.toList.length)) ++ inner.drop (j.toNat * e'.sz + e'.sz), hγ, .inr ⟨g, cp, cur', by rw [List.length_set], hcp, r1, by rw [List.length_set]; exact hn, hmx, by rw [r2, hcs], by
                    rw [List.length_set, r3]
                    generalize hA : (a.eval v).cells.toList = A at *
                    have hAl : A.length = i.n := hvl
                    have hcur : cur.toList.take (xs.length * e'.sz) = inner := ht
                    have hcl2 : cur.toList.length = cp * e'.sz := by rw [Array.length_toList, hcs]
                    rw [hcold, ← hcur]
                    exact splice_take _ _ _ _ _ _ (by omega) (by omega) (by omega)⟩, hset.imp (fun _ _ => RepD.evo hev)⟩ (fun q hq => by rw [hs]; exact hq)
              refine upon_skip_fin (w' := w.setCells g (j.toNat * e'.sz + off) (a.eval v).cells.toList) (E' := E) ?_ ?_ i2 rfl h
              · simp [execOp, ho, e1', Instr.storeAt, Instr.sureAddr, hst]
              · exact hI.evo i2 i1
            · exact absurd h Rd.gives_fail
        · exact absurd h Rd.gives_fail
      · exact absurd h Rd.gives_fail
end
end Go.Proofs.YtkhjemahenkdiaaGreatDoor.V
