/- What an operation reads and writes, without memory; each against the model. Part 4: boxes, cells, slices that are read. -/
import Derived.Test.YtkhjemahenkdiaaGreatDoorVF
namespace Go.Proofs.YtkhjemahenkdiaaGreatDoor.V
open Go Go.RowKit
set_option linter.unusedVariables false
set_option linter.unusedSimpArgs false
section
variable {P : Program} {F0 : Nat → Prop} {w0 : World} {E : En} {σ : St} {a : Act} {w : World} {tt : TT}
theorem good_one' {o : Oper} {Q : Exit → Act → World → Prop} {E' : En} {w' : World} {v : Value} {x : AV} {hw ws : List Wr}
    (hrun : (execOp a.eval o).run P w = .ok (.value v) w') (hI : Inv F0 w0 E' (σ.aps hw) a w') (he : Evo E w E' w') (hnt : (σ.aps hw).nt = σ.nt)
    (hg : (fin σ.nt o.dst hw (.cv (.one x))).gives σ ws) (hv : RepA E' w' v x) : Good P F0 w0 E o a w (σ.aps ws) Q :=
  good_fin hrun hI he (show RepT E' w' v (.cv (.one x)) from hv) hnt hg
theorem hg_lt {h : Heap} {k : Nat} (hn : (hg h k).1 ≠ .none) : k < h.length := by
  rw [hg_eq] at hn
  cases e : h[k]? with
  | none => rw [e] at hn; simp at hn
  | some s => exact (List.getElem?_eq_some_iff.1 e).1
def free (hn sb : Nat) (k : Rd) : Rd := cond (Nat.blt sb hn) (.slot sb fun s => match s with | .none => k | _ => .fail) .fail
theorem free_gives {hn sb : Nat} {k : Rd} {ws : List Wr} (h : (free hn sb k).gives σ ws) : sb < hn ∧ (hg σ.heap sb).1 = .none ∧ k.gives σ ws := by
  unfold free at h
  cases e : Nat.blt sb hn
  · rw [e] at h; exact absurd h Rd.gives_fail
  · rw [e] at h
    have h := Rd.gives_slot.1 h
    split at h
    · rename_i hs; exact ⟨Nat.le_of_ble_eq_true e, hs, h⟩
    · exact absurd h Rd.gives_fail
-- alloc, box
def semAlloc (tt : TT) (nt hn sb : Nat) (dst : Option Nat) (t : Nat) : Rd := match tt.at t with
  | some i => free hn sb (fin nt dst [.slot sb (.box i.zero.length) i.zero] (.cv (.one (.ptr sb 0))))
  | none => .fail
theorem newbox (hI : Inv F0 w0 E σ a w) {sb : Nat} (hsb : sb < σ.heap.length) (hn : (hg σ.heap sb).1 = .none) (cs : Array Value) (ty : Nat) {l : List AV} (hl : RepL E w cs.toList l) :
    ∃ E', Inv F0 w0 E' (σ.aps [.slot sb (.box l.length) l]) a (w.alloc (.cells cs ty)) ∧ Evo E w E' (w.alloc (.cells cs ty)) ∧ RepA E' (w.alloc (.cells cs ty)) (.pointer (some ⟨w.heap.size, 0, none⟩)) (.ptr sb 0) := by
  have hb : (updβ E sb w.heap.size).β sb = some w.heap.size := by simp [updβ]
  have hev : Evo E w (updβ E sb w.heap.size) (w.alloc (.cells cs ty)) := by
    obtain ⟨h1, h2⟩ := none_of hI.heap hn
    exact ⟨fun j b e => by
      show (if j = sb then _ else _) = _
      by_cases ejk : j = sb
      · subst ejk; rw [h1] at e; cases e
      · rw [if_neg ejk]; exact e, fun _ _ e => e, fun _ e => e, fun b hb => heap_old w _ (hI.heap.fz b hb)⟩
  obtain ⟨h1, h2⟩ := hI.heap.newβ hsb hn (.cells cs ty) (s := .box l.length) (c := l) ⟨_, cs, ty, hb, heap_new w _, rfl, hl.evo hev⟩ (fun b hb' => by
    have hb' : (updβ E sb w.heap.size).β sb = some b := hb'
    rw [hb] at hb'; exact (Option.some.inj hb').symm)
  exact ⟨_, hI.evo h2 h1, h2, ⟨_, hb, rfl⟩⟩
theorem ok_alloc (hck : tt.ck P = true) {o : Oper} {t sb : Nat} {Q : Exit → Act → World → Prop} {ws : List Wr} (ho : o.op = .alloc t) (hI : Inv F0 w0 E σ a w) (h : (semAlloc tt σ.nt σ.heap.length sb o.dst t).gives σ ws) : Good P F0 w0 E o a w (σ.aps ws) Q := by
  unfold semAlloc at h
  split at h
  · rename_i i hi
    obtain ⟨h1, h2, h⟩ := free_gives h
    obtain ⟨z, hz, _, _, hzz⟩ := run_zero (TT.fact hck hi) w
    obtain ⟨E', hI', he, hp⟩ := newbox hI h1 h2 z.cells t (zall_ok E w hzz)
    refine good_one' (v := .pointer (some ⟨w.heap.size, 0, none⟩)) ?_ hI' he rfl h hp
    simp [execOp, ho, Instr.alloc, newVar, newRow, hz]
  · exact absurd h Rd.gives_fail
def semBox (nt hn sb : Nat) (dst : Option Nat) (x : Operand) : Rd := evc x fun c => free hn sb (fin nt dst [.slot sb (.box c.cells.length) c.cells] (.cv (.one (.ptr sb 0))))
theorem ok_box {o : Oper} {t sb : Nat} {x : Operand} {Q : Exit → Act → World → Prop} {ws : List Wr} (ho : o.op = .box t x) (hI : Inv F0 w0 E σ a w) (h : (semBox σ.nt σ.heap.length sb o.dst x).gives σ ws) : Good P F0 w0 E o a w (σ.aps ws) Q := by
  replace h := evc_gives hI h
  obtain ⟨c, hc, h⟩ := h
  obtain ⟨h1, h2, h⟩ := free_gives h
  obtain ⟨E', hI', he, hp⟩ := newbox hI h1 h2 (a.eval x).cells t hc.cells
  refine good_one' (v := .pointer (some ⟨w.heap.size, 0, none⟩)) ?_ hI' he rfl h hp
  simp [execOp, ho, Instr.box, newVar, newRow]
-- load
def gets (k : Nat) : Nat → Nat → (List AV → Rd) → Rd
  | _, 0, c => c []
  | o, n + 1, c => .cell k o fun a => gets k (o + 1) n fun l => c (a :: l)
theorem gets_gives {k : Nat} : ∀ {n o : Nat} {c : List AV → Rd} {ws : List Wr}, o + n ≤ (hg σ.heap k).2.length → (gets k o n c).gives σ ws → (c (((hg σ.heap k).2.drop o).take n)).gives σ ws
  | 0, o, c, ws, _, h => by simpa [gets] using h
  | n + 1, o, c, ws, hl, h => by
    have h := Rd.gives_cell.1 h
    have h := gets_gives (by omega) h
    have e : (hg σ.heap k).2.drop o = (hg σ.heap k).2[o]'(by omega) :: (hg σ.heap k).2.drop (o + 1) := List.drop_eq_getElem_cons (by omega)
    rw [e, List.take_succ_cons]
    have e2 : ng (hg σ.heap k).2 o = (hg σ.heap k).2[o]'(by omega) := by rw [ng_eq, List.getElem?_eq_getElem (by omega)]; rfl
    rw [e2] at h
    exact h
theorem run_loadV {t : Nat} {i : TI} (hT : TF P t i) {b o : Nat} {vs : List Value} (hl : vs.length = i.n) (hc : ∀ j u, vs[j]? = some u → w.cell? ⟨b, o + j, none⟩ = some u) (h1 : i.agg = false → i.n = 1) :
    ∃ u, (loadVar t ⟨b, o, none⟩).run P w = .ok u w ∧ (i.agg = true → u = .agg vs.toArray) ∧ (i.agg = false → vs = [u]) := by
  cases ha : i.agg
  · have h1 := h1 ha
    match vs, hl with
    | [v], _ =>
      have hv := hc 0 v rfl
      refine ⟨v, ?_, by simp, fun _ => rfl⟩
      unfold loadVar
      rw [Sem.run_bind, run_isAgg hT w, ha]
      simp only [Nat.add_zero] at hv
      simp [hv]
    | [], h => rw [h1] at h; cases h
    | _ :: _ :: _, h => rw [h1] at h; cases h
  · refine ⟨.agg vs.toArray, ?_, fun _ => rfl, by simp⟩
    have hl2 := run_loadCells_list (P := P) w ⟨b, o, none⟩ vs (fun j v hv => by rw [Addr.add_plain]; exact hc j v hv)
    rw [hl] at hl2
    unfold loadVar
    rw [Sem.run_bind, run_isAgg hT w, ha]
    simp [run_sizeOf hT w, hl2]
def lfin (nt : Nat) (dst : Option Nat) (agg : Bool) (l : List AV) : Rd := match mkC agg l with
  | some c => fin nt dst [] (.cv c)
  | none => .fail
theorem ok_lfin {t : Nat} {i : TI} (hT : TF P t i) {o : Oper} {x : Operand} {Q : Exit → Act → World → Prop} {ws : List Wr} (ho : o.op = .load t x) (hI : Inv F0 w0 E σ a w) {b p : Nat} (hx : a.eval x = .pointer (some ⟨b, p, none⟩)) {vs : List Value} {l : List AV} (hl : vs.length = i.n)
    (hc : ∀ j u, vs[j]? = some u → w.cell? ⟨b, p + j, none⟩ = some u) (hr : RepL E w vs l) (h : (lfin σ.nt o.dst i.agg l).gives σ ws) : Good P F0 w0 E o a w (σ.aps ws) Q := by
  unfold lfin at h
  split at h
  · rename_i c hm
    have h1 : i.agg = false → i.n = 1 := fun ha => by
      have := mkC_one hm ha
      rw [← hl, hr.len, this]
    obtain ⟨u, hu, h2, h3⟩ := run_loadV hT hl hc h1
    refine good_pure (v := u) ?_ hI (show RepT E w u (.cv c) from mkC_ok hm hr h2 h3) h
    simp [execOp, ho, hx, Instr.loadAt, Instr.sureAddr, hu]
  · exact absurd h Rd.gives_fail
theorem cut_cells {vs cs : List Value} {b o p n : Nat} (hv : vs = (cs.drop p).take n) (hc : ∀ j u, cs[j]? = some u → w.cell? ⟨b, o + j, none⟩ = some u) : ∀ j u, vs[j]? = some u → w.cell? ⟨b, o + p + j, none⟩ = some u := by
  intro j u hj
  rw [hv, List.getElem?_take] at hj
  split at hj
  · rw [List.getElem?_drop] at hj
    rw [Nat.add_assoc]
    exact hc _ _ hj
  · cases hj
theorem own_at {k et : Nat} {e : Ty} {xs : List e.T} (hI : InvH F0 w0 E σ.heap w) (hs : (hg σ.heap k).1 = .buf et e xs) {g o n c : Nat} (hγ : E.γ k = some (.slice (some ⟨g, o, none⟩) n c)) {j : Int} (h0 : 0 ≤ j) (hj : j < (n : Int)) :
    n = xs.length ∧ o = 0 ∧ 0 < c ∧ ∃ cur : Array Value, ∃ inner, w.heap[g]? = some (.cells cur et (0, 0)) ∧ n ≤ c ∧ c ≤ maxLen ∧ cur.size = c * e.sz ∧ cur.toList.take (n * e.sz) = inner ∧ El (RepD E.F w e) xs inner := by
  have h := hI.slot k
  rw [hs] at h
  obtain ⟨v, inner, h1, h2, h3⟩ := h
  rw [hγ] at h1
  obtain rfl := Option.some.inj h1
  rcases h2 with ⟨A, e1, e2, _⟩ | ⟨g', cap, cur, e1, e2, e3, e4, e5, e6, e7⟩
  · have e1 := congrArg (fun v => match v with | Value.slice _ n _ => n | _ => 0) e1
    simp at e1
    omega
  · simp only [Value.slice.injEq, Option.some.injEq, Addr.mk.injEq, and_true] at e1
    obtain ⟨⟨rfl, rfl⟩, rfl, rfl⟩ := e1
    exact ⟨rfl, rfl, e2, cur, inner, e3, e4, e5, e6, e7, h3⟩
theorem att_get {e : Ty} {xs : List e.T} {j : Int} (h0 : 0 ≤ j) (hj : j < (xs.length : Int)) : xs[j.toNat]? = some (att e xs j) := by
  unfold att
  rw [List.getElem?_eq_getElem (by omega)]
  rfl
def semLoad (tt : TT) (nt : Nat) (dst : Option Nat) (t : Nat) (x : Operand) : Rd := ev1 x fun v => match tt.at t with
  | none => .fail
  | some i => match v with
    | .ptr k off => .slot k fun s => match s with
      | .box n => cond (Nat.ble (off + i.n) n) (gets k off i.n fun l => lfin nt dst i.agg l) .fail
      | _ => .fail
    | .rptr e z off => cond (Nat.ble (off + i.n) e.sz) (lfin nt dst i.agg (((enc e z).drop off).take i.n)) .fail
    | .eptr k e j off => .slot k fun s => match s with
      | .buf _ e' xs => cond (Nat.beq e'.sz e.sz && Nat.ble (off + i.n) e.sz) (lfin nt dst i.agg (((enc e' (att e' xs j)).drop off).take i.n)) .fail
      | .lnk _ a _ xs B q => cond (Nat.beq e.sz (a.sz + 1) && Nat.beq off a.sz && Nat.beq i.n 1 && !i.agg) (.need (j = (q : Int)) (fin nt dst [] (.cv (.one (.own B))))) .fail
      | _ => .fail
    | _ => .fail
theorem ok_load (hck : tt.ck P = true) {o : Oper} {t : Nat} {x : Operand} {Q : Exit → Act → World → Prop} {ws : List Wr} (ho : o.op = .load t x) (hI : Inv F0 w0 E σ a w) (h : (semLoad tt σ.nt o.dst t x).gives σ ws) : Good P F0 w0 E o a w (σ.aps ws) Q := by
  replace h := ev1_gives hI h
  obtain ⟨v, hv, h⟩ := h
  split at h
  · exact absurd h Rd.gives_fail
  · rename_i i hi
    have hT := TT.fact hck hi
    split at h
    · rename_i k off
      replace h := Rd.gives_slot.1 h
      split at h
      · rename_i n hs
        cases hle : Nat.ble (off + i.n) n
        · rw [hle] at h; exact absurd h Rd.gives_fail
        · rw [hle] at h
          have hle := Nat.le_of_ble_eq_true hle
          obtain ⟨b, hb, e⟩ := hv
          have hk := hI.heap.slot k
          rw [hs] at hk
          obtain ⟨b', cs, ty, h1, h2, h3, h4⟩ := hk
          rw [hb] at h1
          obtain rfl := Option.some.inj h1
          have h := gets_gives (by rw [h3]; exact hle) h
          have hlen := h4.len
          rw [h3] at hlen
          refine ok_lfin hT ho hI e (vs := (cs.toList.drop off).take i.n) (by rw [List.length_take, List.length_drop, hlen]; omega) ?_ ((h4.drop _).take _) h
          have := cut_cells (w := w) (b := b) (o := 0) (p := off) (n := i.n) (cs := cs.toList) rfl (fun j u hj => by rw [Nat.zero_add, cell_of_row _ _ _ _ _ _ h2]; simpa using hj)
          simpa using this
      · exact absurd h Rd.gives_fail
    · rename_i e z off
      cases hle : Nat.ble (off + i.n) e.sz
      · rw [hle] at h; exact absurd h Rd.gives_fail
      · rw [hle] at h
        have hle := Nat.le_of_ble_eq_true hle
        obtain ⟨b, p, cs, e1, h1, h2⟩ := hv
        have hlen := h1.len
        exact ok_lfin hT ho hI e1 (vs := (cs.drop off).take i.n) (by rw [List.length_take, List.length_drop, hlen]; omega) (cut_cells rfl (fun j u hj => (h2 j u hj).2)) ((h1.enc.drop _).take _) h
    · rename_i k e j off
      replace h := Rd.gives_slot.1 h
      split at h
      · rename_i et e' xs hs
        cases hle : (Nat.beq e'.sz e.sz && Nat.ble (off + i.n) e.sz)
        · rw [hle] at h; exact absurd h Rd.gives_fail
        · rw [hle] at h
          simp only [Bool.and_eq_true] at hle
          have hsz := Nat.eq_of_beq_eq_true hle.1
          have hle := Nat.le_of_ble_eq_true hle.2
          obtain ⟨g, p, n, c, hγ, h0, hj, e1⟩ := hv
          obtain ⟨rfl, rfl, hc, cur, inner, hg1, hn, hm, hcs, ht, hE⟩ := own_at hI.heap hs hγ h0 hj
          obtain ⟨cs, hr, hcell⟩ := hE.get (s := e'.sz) (fun _ _ h => h.len) (att_get h0 hj)
          have hlen := hr.len
          refine ok_lfin hT ho hI e1 (vs := (cs.drop off).take i.n) (by rw [List.length_take, List.length_drop, hlen]; omega) (cut_cells rfl ?_) ((hr.enc.drop _).take _) h
          intro q u hq
          have := hcell q u hq
          rw [← ht, List.getElem?_take] at this
          split at this
          · rw [cell_of_row _ _ _ _ _ _ hg1, Nat.zero_add, ← hsz]
            simpa using this
          · cases this
      · rename_i et a' b' xs B q hs
        cases hle : (Nat.beq e.sz (a'.sz + 1) && Nat.beq off a'.sz && Nat.beq i.n 1 && !i.agg)
        · rw [hle] at h; exact absurd h Rd.gives_fail
        · rw [hle] at h
          simp only [Bool.and_eq_true, Bool.not_eq_true'] at hle
          obtain ⟨⟨⟨q1, q2⟩, q3⟩, q4⟩ := hle
          have q1 := Nat.eq_of_beq_eq_true q1
          have q2 := Nat.eq_of_beq_eq_true q2
          have q3 := Nat.eq_of_beq_eq_true q3
          replace h := Rd.gives_need.1 h
          obtain ⟨rfl, h⟩ := h
          obtain ⟨g, p, n, c, hγ, h0, hj, e1⟩ := hv
          have hk := hI.heap.slot k
          rw [hs] at hk
          obtain ⟨v, vB, i1, c1, i2, x0, g1, g2, g3, g4, g5, g6, g7, g8⟩ := hk
          rw [hγ] at g1
          obtain rfl := Option.some.inj g1
          rcases g4 with ⟨A, k1, k2, k3⟩ | ⟨g', cap, cur, k1, k2, k3, k4, k5, k6, k7⟩
          · simp at k3
          · simp only [Value.slice.injEq, Option.some.injEq, Addr.mk.injEq, and_true] at k1
            obtain ⟨⟨rfl, rfl⟩, rfl, rfl⟩ := k1
            have hq : q < xs.length := (List.getElem?_eq_some_iff.1 g5).1
            have hl1 : i1.length = q * (a'.sz + 1) := by
              rw [g6.len (s := a'.sz + 1) (fun _ _ h => h.len), List.length_take, Nat.min_eq_left (by omega)]
            have hl2 := g7.len
            have hcell : w.cell? ⟨g, 0 + q * e.sz + off, none⟩ = some vB := by
              rw [cell_of_row _ _ _ _ _ _ k3, q1, q2, Nat.zero_add]
              have hin : (i1 ++ (c1 ++ [vB]) ++ i2)[q * (a'.sz + 1) + a'.sz]? = some vB := by
                rw [List.getElem?_append_left (by simp [hl1, hl2]), List.getElem?_append_right (by omega), hl1, List.getElem?_append_right (by omega), hl2]
                simp
              rw [← k7, List.getElem?_take] at hin
              split at hin
              · simpa using hin
              · cases hin
            obtain ⟨u, hu, u1, u2⟩ := run_loadV hT (vs := [vB]) (b := g) (o := 0 + q * e.sz + off) (by rw [q3]; rfl) (fun j u hj => by
              match j, hj with
              | 0, hj => simp at hj; subst hj; simpa using hcell
              | j + 1, hj => simp at hj) (fun _ => q3)
            obtain rfl := List.singleton_inj.1 (u2 q4)
            refine good_pure (v := vB) ?_ hI (show RepT E w vB (.cv (.one (.own B))) from ⟨g2, g3⟩) h
            have e1 : a.eval x = .pointer (some ⟨g, 0 + q * e.sz + off, none⟩) := by simpa using e1
            simp only [Nat.zero_add] at hu e1
            simp [execOp, ho, e1, Instr.loadAt, Instr.sureAddr, hu]
      · exact absurd h Rd.gives_fail
    · exact absurd h Rd.gives_fail
end
end Go.Proofs.YtkhjemahenkdiaaGreatDoor.V
