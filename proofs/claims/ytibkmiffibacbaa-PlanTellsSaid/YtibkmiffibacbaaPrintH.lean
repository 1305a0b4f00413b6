/- A text that a program of this session printed out of the translation: checked by Lean alone. -/
import Derived.Test.YtibkmiffibacbaaPrint0
import Derived.WalkSpells
import Derived.Deep.WholeRow
import Derived.ArgAppend
import Derived.Deep.RegionLaw
namespace Go.Proofs.Ytibkmiffibacbaa.Print
open Go.RowKit Go.Proofs.YtibkmiffibacbaaW.PrintWords Go.Proofs.YtibkmiffibacbaaW.PrintLast Go.Proofs.YtibkmiffibacbaaW.PrintMore
attribute [local go_sem] max2_int min2_int max_two min_two max_three min_three max_four min_four   -- for this text's walks alone
set_option linter.unusedVariables false
set_option linter.unusedSimpArgs false

theorem R_empty {α : Type} (d : Kd α) (e : Nat) (w : World) (base : Nat) (hb : base ≤ w.heap.size) : Kd.R d e (w.alloc (.cells #[] e)) base (fun _ => True) (.slice (some ⟨w.heap.size, 0, none⟩) 0 0) [] :=
  ⟨fun _ _ => trivial, [], ⟨by simp, .inr ⟨w.heap.size, 0, #[], rfl, hb, heap_alloc_new w _, Nat.le_refl _, by unfold maxLen; omega, by simp, by simp⟩⟩, Reps.none _ _⟩
theorem C_none {α : Type} {d : Kd α} {w : World} {l : List α} (h : Kd.C d w none l.length l) : l = [] := by
  cases l with
  | nil => rfl
  | cons x xs => obtain ⟨ad, e, _⟩ := h.2.2 (by simp); simp at e
section
variable {P : Program}
theorem wpList_alloc_row {ops : Array Oper} {rest : List Oper} {o : Oper} {a : Act} {w : World} {Q : Exit → Act → World → Prop} (hgd : o.guard = none) (t : TypeId) (ho : o.op = .alloc t) (Z : Array Value)
    (hz : ∀ w, (zeroValue t).run P w = .ok (.agg Z) w)
    (h : wpList P ops Q rest (a.put o.dst (.pointer (some ⟨w.heap.size, 0, none⟩))) (w.alloc (.cells Z t))) : wpList P ops Q (o :: rest) a w :=
  wpList_plain hgd fun _ hK => by
    unfold Oper.wp execOp
    simp only [ho, Instr.alloc, newVar, newRow, Value.cells, Sem.run_bind, hz, Sem.run_pure, Result.andThen_ok]
    exact hK _ _ h
theorem gate_alloc {ops : Array Oper} {rest : List Oper} {o : Oper} {a : Act} {w : World} {Q : Exit → Act → World → Prop} {t : TypeId} (_ : o.op = .alloc t) (h : wpList P ops Q (o :: rest) a w) : wpList P ops Q (o :: rest) a w := h
theorem gate_storeX {ops : Array Oper} {rest : List Oper} {o : Oper} {a : Act} {w : World} {Q : Exit → Act → World → Prop} {t : TypeId} {x y : Operand} (_ : o.op = .store t x y) (h : wpList P ops Q (o :: rest) a w) : wpList P ops Q (o :: rest) a w := h
theorem setRow_self {w : World} {g : Nat} {cs : Array Value} {t : TypeId} {fr : Nat × Nat} (h : w.heap[g]? = some (.cells cs t fr)) : w.setRow g cs = w := by
  have : (w.setRow g cs).heap = w.heap := by
    apply Array.ext_getElem?
    intro i
    by_cases e : i = g
    · subst e; rw [setRow_heap w i cs cs t fr h, h]
    · rw [setRow_other w g i cs e]
  cases w
  simp only [World.setRow] at this ⊢
  simp [this]
end
/-- A slice that is full, over a row of the call's own. -/
def FullRow {α : Type} (d : Kd α) (e : Nat) (W : World) (base : Nat) (v : Value) (xs : List α) : Prop := ∃ A c, v = .slice A xs.length xs.length ∧ Kd.R d e W base (fun _ => True) (.slice A xs.length c) xs
section
variable {α β : Type} {r : α}
theorem ev_pos {c : Prop} [Decidable c] {A B : Nat → Option α} (h : c) (H : Ev A r) : Ev (fun k => if c then A k else B k) r := by
  refine Ev.congr (fun k => ?_) H
  rw [if_pos h]
theorem ev_neg {c : Prop} [Decidable c] {A B : Nat → Option α} (h : ¬ c) (H : Ev B r) : Ev (fun k => if c then A k else B k) r := by
  refine Ev.congr (fun k => ?_) H
  rw [if_neg h]
theorem ev_ite {c : Prop} [Decidable c] {A B : Nat → Option α} (h : c → Ev A r) (h' : ¬ c → Ev B r) : Ev (fun k => if c then A k else B k) r := by
  by_cases hc : c
  · exact ev_pos hc (h hc)
  · exact ev_neg hc (h' hc)
theorem ev_bindc {o : Option β} {b : β} {f : Nat → β → Option α} (h : o = some b) (H : Ev (fun k => f k b) r) : Ev (fun k => o.bind (f k)) r := by
  refine Ev.congr (fun k => ?_) H
  rw [h]
  rfl
theorem ev_bind {g : Nat → Option β} {b : β} {f : Nat → β → Option α} (h : Ev g b) (H : Ev (fun k => f k b) r) : Ev (fun k => (g k).bind (f k)) r := Ev.bind h H
theorem ev_eq {a : α} (h : a = r) : Ev (fun _ => some a) r := by rw [h]; exact Ev.now r
theorem ev_cast {g : Nat → Option α} {a : α} (h : a = r) (H : Ev g a) : Ev g r := h ▸ H
end
theorem wrap_id {x : Int} (h0 : -9223372036854775808 ≤ x) (h1 : x ≤ 9223372036854775807) : wrap64 x = x := by unfold wrap64; omega
theorem int_wf {x : Int} (h : (Lit.int .i64 x).wf = true) : -9223372036854775808 ≤ x ∧ x ≤ 9223372036854775807 := by
  simp only [Lit.wf, Bool.and_eq_true, decide_eq_true_eq] at h
  have h1 : IntKind.i64.min = -9223372036854775808 := by decide
  have h2 : IntKind.i64.max = 9223372036854775807 := by decide
  omega
theorem rd_nat (l : List Int) (i : Nat) (h : i < l.length) : rd l (i : Int) = l[i] := by simp [rd, h]
theorem N_of_own {α : Type} {d : Kd α} {e base : Nat} {w : World} {ok okp : Nat → Prop} {v : Value} {xs : List α} {inner : List Value} (ho : w.ownsRow base e d.sz v xs.length inner) (hr : Reps (fun x c => Kd.FK d w okp x c) d.sz xs inner)
    (h0 : ∀ k, v.ownBlock = some k → ok k) (hokp : ∀ k, okp k → ok k ∧ some k ≠ v.ownBlock) : Kd.N d e w base ok v xs :=
  ⟨h0, Kd.chunks d.sz xs.length inner, Kd.chunks_length _ _ _, ⟨fun k hk => hk.symm, inner, by rw [Kd.chunks_length]; exact ho, Kd.reps_raw hr (fun x c hp => ⟨d.K_len (Kd.FK_now hp), d.K_one (Kd.FK_now hp)⟩)⟩, fun j x c hx hc => by
    rw [Kd.chunks_get hc]
    exact Kd.FK_mono (hr.2 j x hx) hokp⟩
section
variable {P : Program} {α : Type}
theorem run_append_full (d : Kd α) {W : World} (t ty e : TypeId) (z : Value) (bytes : Nat) (ht : P.underlying t = some (.slice e)) (hinfo : (P.info? e).map (fun i => (i.zero, i.size, i.bytes)) = some (some z, d.sz, bytes)) (hz : z.cells.size = d.sz) (hs0 : 0 < d.sz) (hb0 : 0 < bytes)
    (A : Option Addr) (xs : List α) (p : α) (cs : List Value) (ok : Nat → Prop) (ad : Addr) (m1 : Nat) (HF : Kd.F d W ok A xs.length xs) (hp : Kd.FK d W ok p cs) (hnews : ∀ j u, cs[j]? = some u → W.cell? (ad.add j) = some u) (hl : (xs.length + 1) * bytes ≤ 140737488355328) :
    ∃ v1 w1, (Builtin.append_ #[t, t] ty #[.slice A xs.length xs.length, .slice (some ad) 1 m1]).run P W = .ok v1 w1 ∧ Kd.N d e w1 W.heap.size (fun k => ok k ∨ W.heap.size ≤ k) v1 (xs ++ [p]) ∧ W.grownBy w1 none := by
  obtain ⟨i0, hi, hzz⟩ := Option.map_eq_some_iff.1 hinfo
  simp only [Prod.mk.injEq] at hzz
  obtain ⟨hz0, hz1, hz2⟩ := hzz
  have hlen : xs.length + 1 ≤ maxLen := by
    have := Nat.le_trans (Nat.le_mul_of_pos_right (xs.length + 1) hb0) hl
    unfold maxLen
    omega
  have hcl : cs.length = 1 * d.sz := by rw [Nat.one_mul]; exact d.K_len (Kd.FK_now hp)
  have hc1 : ∀ u ∈ cs, u.oneCell' = true := d.K_one (Kd.FK_now hp)
  have done : ∀ (v1 : Value) (w1 : World) (inner : List Value), Reps (fun x c => Kd.FK d W (fun k => ok k ∧ k < W.heap.size) x c) d.sz xs inner → w1.ownsRow W.heap.size e d.sz v1 (xs.length + 1) (inner ++ cs) → W.grownBy w1 none → Kd.N d e w1 W.heap.size (fun k => ok k ∨ W.heap.size ≤ k) v1 (xs ++ [p]) := by
    intro v1 w1 inner hr ho hg
    have hbase := own_base ho
    refine N_of_own (okp := fun k => ok k ∧ k < W.heap.size) (inner := inner ++ cs) (by rw [List.length_append, List.length_singleton]; exact ho) ?_ (fun k hk => .inr (hbase k hk)) (fun k hk => ⟨.inl hk.1, fun he => by have := hbase k he.symm; have := hk.2; omega⟩)
    have hm : ∀ x c, Kd.FK d W (fun k => ok k ∧ k < W.heap.size) x c → Kd.FK d w1 (fun k => ok k ∧ k < W.heap.size) x c := fun x c hx => Kd.FK_grown hx hg (fun _ _ => by simp)
    exact (hr.imp_ (fun x c hx => hm x c hx)).snoc (hm _ _ (Kd.FK_bound hp)) (by rw [← Nat.one_mul d.sz]; exact hcl)
  cases A with
  | none =>
    have h0 : xs = [] := C_none (Kd.F_now HF)
    subst h0
    obtain ⟨v', w', hrun, r1, r2, _⟩ := run_append_own (P := P) W W.heap.size t ty e i0 z d.sz bytes ht hi hz0 hz1 hz2 hz hs0 (.slice none 0 0) 0 [] (World.ownsRow_nil W _ e d.sz) ad 1 m1 cs hcl hnews hc1 (by simpa using hlen) (by simpa using hl) (Nat.le_refl _)
    exact ⟨v', w', hrun, done v' w' [] (Reps.none _ _) (by simpa using r1) r2, r2⟩
  | some b =>
    obtain ⟨inner, hr, hcells⟩ := ReadsRow.inner_ (Kd.F_rows (Kd.F_bound HF))
    obtain ⟨v', w', hrun, r1, r2⟩ := run_append_arg_grows (P := P) W t ty e i0 z d.sz bytes ht hi hz0 hz1 hz2 hz hs0 b xs.length xs.length inner hr.1 hcells ad 1 m1 cs hcl hnews (by omega) hlen hl
    exact ⟨v', w', hrun, done v' w' inner hr r1 r2, r2⟩
theorem step_append_full {ops : Array Oper} {o : Oper} {a : Act} {K : Act → World → Prop} {Q : Exit → Act → World → Prop} {E : Prop} (d : Kd α) {W : World} (hgd : o.guard = none) (s x : Operand) (t e : TypeId) (z : Value) (bytes : Nat)
    (ho : o.op = .call { callee := .builtin .append, args := #[s, x], argTypes := #[t, t] })
    (ht : P.underlying t = some (.slice e)) (hinfo : (P.info? e).map (fun i => (i.zero, i.size, i.bytes)) = some (some z, d.sz, bytes)) (hz : z.cells.size = d.sz) (hs0 : 0 < d.sz) (hb0 : 0 < bytes)
    (A : Option Addr) (xs : List α) (p : α) (cs : List Value) (ok : Nat → Prop) (ad : Addr) (m1 : Nat) (hs : a.eval s = .slice A xs.length xs.length) (hx : a.eval x = .slice (some ad) 1 m1) (HF : Kd.F d W ok A xs.length xs) (hp : Kd.FK d W ok p cs) (hnews : ∀ j u, cs[j]? = some u → W.cell? (ad.add j) = some u) (hl : (xs.length + 1) * bytes ≤ 140737488355328)
    (h : ∀ v1 w1, Kd.N d e w1 W.heap.size (fun k => ok k ∨ W.heap.size ≤ k) v1 (xs ++ [p]) → W.grownBy w1 none → K (a.put o.dst v1) w1) :
    if Region.wanted o (yielded ops a.tmps) = true then Oper.wp P o a W K Q else E := by
  have hw : Region.wanted o (yielded ops a.tmps) = true := by simp [Region.wanted, hgd]
  rw [if_pos hw]
  obtain ⟨v1, w1, hrun, hN, hg⟩ := run_append_full (P := P) d t o.type e z bytes ht hinfo hz hs0 hb0 A xs p cs ok ad m1 HF hp hnews hl
  unfold Oper.wp
  simp [execOp, ho, resolve, invoke, builtin, hs, hx, hrun, Result.andThen]
  exact h v1 w1 hN hg
theorem wpList_append_full {ops : Array Oper} {rest : List Oper} {o : Oper} {a : Act} {Q : Exit → Act → World → Prop} (d : Kd α) {W : World} (hgd : o.guard = none) (s x : Operand) (t e : TypeId) (z : Value) (bytes : Nat)
    (ho : o.op = .call { callee := .builtin .append, args := #[s, x], argTypes := #[t, t] })
    (ht : P.underlying t = some (.slice e)) (hinfo : (P.info? e).map (fun i => (i.zero, i.size, i.bytes)) = some (some z, d.sz, bytes)) (hz : z.cells.size = d.sz) (hs0 : 0 < d.sz) (hb0 : 0 < bytes)
    (A : Option Addr) (xs : List α) (p : α) (cs : List Value) (ok : Nat → Prop) (ad : Addr) (m1 : Nat) (hs : a.eval s = .slice A xs.length xs.length) (hx : a.eval x = .slice (some ad) 1 m1) (HF : Kd.F d W ok A xs.length xs) (hp : Kd.FK d W ok p cs) (hnews : ∀ j u, cs[j]? = some u → W.cell? (ad.add j) = some u) (hl : (xs.length + 1) * bytes ≤ 140737488355328)
    (h : ∀ v1 w1, Kd.N d e w1 W.heap.size (fun k => ok k ∨ W.heap.size ≤ k) v1 (xs ++ [p]) → W.grownBy w1 none → wpList P ops Q rest (a.put o.dst v1) w1) :
    wpList P ops Q (o :: rest) a W := by
  refine wpList_plain hgd fun K hK => ?_
  obtain ⟨v1, w1, hrun, hN, hg⟩ := run_append_full (P := P) d t o.type e z bytes ht hinfo hz hs0 hb0 A xs p cs ok ad m1 HF hp hnews hl
  unfold Oper.wp
  simp [execOp, ho, resolve, invoke, builtin, hs, hx, hrun, Result.andThen]
  exact hK _ _ (h v1 w1 hN hg)
end
theorem FullRow_V {α : Type} {d : Kd α} {e : Nat} {W : World} {base base' : Nat} {v : Value} {xs : List α} (h : FullRow d e W base v xs) : Kd.V d e W base' (fun k => base ≤ k) v xs := by
  obtain ⟨A, c, rfl, hR⟩ := h
  exact Kd.V_mk (Nat.le_refl _) (Kd.F_mono (Kd.R_F (Kd.R_bound hR)) (fun _ hk => hk.2.1))
section
variable {P : Program}
theorem gate_clear {ops : Array Oper} {rest : List Oper} {o : Oper} {a : Act} {w : World} {Q : Exit → Act → World → Prop} {t : TypeId} {x : Operand} (_ : o.op = .call { callee := .builtin .clear, args := #[x], argTypes := #[t] }) (h : wpList P ops Q (o :: rest) a w) : wpList P ops Q (o :: rest) a w := h
theorem zeroCells_one (z : Array Value) : (Builtin.zeroCells z 1) = z := by
  simp [Builtin.zeroCells]
  apply Array.ext_getElem?
  intro i
  by_cases h : i < z.size
  · simp [h, Nat.mod_eq_of_lt h]
  · simp [h]
theorem wpList_clear_one {ops : Array Oper} {rest : List Oper} {o : Oper} {a : Act} {w : World} {Q : Exit → Act → World → Prop} (hgd : o.guard = none) (t e : TypeId) (x : Operand) (ho : o.op = .call { callee := .builtin .clear, args := #[x], argTypes := #[t] })
    (ht : P.underlying t = some (.slice e)) (z : Value) (hv : ∀ w, (zeroValue e).run P w = .ok z w) (h1 : ∀ v ∈ z.cells.toList, v.oneCell' = true) (b off c : Nat) (hx : a.eval x = .slice (some ⟨b, off, none⟩) 1 c)
    (hc : ∀ j, j < z.cells.size → (w.cell? ⟨b, off + j, none⟩).isSome = true) (hf : ∀ j, j < z.cells.size → w.frozen? ⟨b, off + j, none⟩ = false)
    (h : wpList P ops Q rest (a.put o.dst (.tuple #[])) (w.setCells b off z.cells.toList)) : wpList P ops Q (o :: rest) a w :=
  wpList_plain hgd fun _ hK => by
    have hst := run_storeCells_cells (P := P) b off z.cells.toList 0 w (by simpa using hc) (by simpa using hf) h1
    simp only [Nat.add_zero] at hst
    unfold Oper.wp
    simp [execOp, ho, resolve, invoke, builtin, hx, Builtin.clear_, run_underlying ht, hv, zeroCells_one, hst, Result.andThen]
    exact hK _ _ h
end
theorem add_zero_addr (g j : Nat) : Addr.add ⟨g, 0, none⟩ j = ⟨g, j, none⟩ := by
  by_cases h0 : j = 0
  · subst h0; simp [Addr.add]
  · simp [Addr.add, h0]
theorem F_row {α : Type} {d : Kd α} {W : World} {ok : Nat → Prop} {g : Nat} {e : TypeId} {cur : Array Value} {fr : Nat × Nat} {xs : List α} {inner : List Value} (hg : ok g) (hb : W.heap[g]? = some (.cells cur e fr))
    (hin : cur.toList.take (xs.length * d.sz) = inner) (hr : Reps (fun x c => Kd.FK d W ok x c) d.sz xs inner) (hm : xs.length ≤ 9223372036854775807) : Kd.F d W ok (some ⟨g, 0, none⟩) xs.length xs := fun W' hW => by
  have hlt : g < W.heap.size := (Array.getElem?_eq_some_iff.1 hb).1
  have hb' := (hW g hg hlt).trans hb
  refine ⟨rfl, hm, fun _ => ⟨⟨g, 0, none⟩, rfl, fun j p hj => ?_⟩⟩
  have hjl := (List.getElem?_eq_some_iff.1 hj).1
  have hk : Kd.FK d W' ok p _ := Kd.FK_step (hr.2 j p hj) hW
  refine ⟨_, d.K_len (Kd.FK_now hk), Kd.FK_now hk, fun i u hu => ?_⟩
  have hi : i < d.sz := by have := (List.getElem?_eq_some_iff.1 hu).1; rw [d.K_len (Kd.FK_now hk)] at this; exact this
  have hlt2 : j * d.sz + i < xs.length * d.sz := by
    have h1 : (j + 1) * d.sz ≤ xs.length * d.sz := Nat.mul_le_mul_right _ hjl
    rw [Nat.succ_mul] at h1
    omega
  rw [List.getElem?_take, if_pos hi, List.getElem?_drop, ← hin, List.getElem?_take, if_pos hlt2, Array.getElem?_toList] at hu
  rw [add_zero_addr]
  exact (cell_of_row _ _ (j * d.sz + i) _ _ _ hb').trans hu
theorem FullRow_open {α : Type} {d : Kd α} {e : Nat} {W : World} {base : Nat} {v : Value} {xs : List α} (h : FullRow d e W base v xs) (hp : 0 < xs.length) :
    ∃ g cur, v = .slice (some ⟨g, 0, none⟩) xs.length xs.length ∧ base ≤ g ∧ g < W.heap.size ∧ W.heap[g]? = some (.cells cur e (0, 0)) ∧ xs.length * d.sz ≤ cur.size ∧ Reps (fun x c => Kd.FK d W (fun k => base ≤ k ∧ k ≠ g) x c) d.sz xs (cur.toList.take (xs.length * d.sz)) ∧ xs.length ≤ maxLen := by
  obtain ⟨A, c, rfl, hR⟩ := h
  obtain ⟨h0, inner, ⟨hlen, hh⟩, hr⟩ := Kd.R_bound hR
  rcases hh with ⟨_, h1⟩ | ⟨g, cap, cur, hv, hbg, hg, hnc, hmax, hsz, htake⟩
  · omega
  · injection hv with hA _ hc
    subst hA hc
    refine ⟨g, cur, rfl, hbg, (Array.getElem?_eq_some_iff.1 hg).1, hg, ?_, ?_, Nat.le_trans hnc hmax⟩
    · rw [hsz]; exact Nat.mul_le_mul_right _ hnc
    · rw [htake]
      exact hr.imp_ (fun x cs hM => Kd.FK_mono (Kd.FK_of_M hM) (fun k hk => ⟨hk.1.2.1, fun he => hk.2 (by simp [Value.ownBlock, he])⟩))
theorem below_setCells_ {B g : Nat} {a w : World} (hg : B ≤ g) (o : Nat) (vs : List Value) (h : Below B a w) : Below B a (w.setCells g o vs) := by
  obtain ⟨h1, h2, h3, h4⟩ := setCells_same g vs o w
  exact ⟨h1.trans h.os, h2.trans h.tape, h3.trans h.output, by rw [h4]; exact h.size, fun k hk => (setCells_far vs o k (by omega)).trans (h.block k hk)⟩
theorem below_setCell_ {B g : Nat} {a w : World} (hg : B ≤ g) (o : Nat) (u : Value) (h : Below B a w) : Below B a (w.setCell ⟨g, o, none⟩ u) := below_setCells_ hg o [u] h
theorem F_none {α : Type} {d : Kd α} {W : World} {ok : Nat → Prop} : Kd.F d W ok none 0 [] := fun _ _ => ⟨rfl, by decide, fun h => absurd h (by decide)⟩
theorem V_none {α : Type} {d : Kd α} {e base : Nat} {W : World} {ok : Nat → Prop} : Kd.V d e W base ok (.slice none 0 0) [] := ⟨none, 0, rfl, Nat.le_refl _, F_none⟩
theorem alloc_size_ (w : World) (o : Obj) : (w.alloc o).heap.size = w.heap.size + 1 := by simp
theorem cells3 {w : World} {g : Nat} {a b c : Value} {t : TypeId} (h : w.heap[g]? = some (.cells #[a, b, c] t (0, 0))) : (w.cell? ⟨g, 0, none⟩ = some a ∧ w.cell? ⟨g, 1, none⟩ = some b ∧ w.cell? ⟨g, 2, none⟩ = some c) ∧ (w.frozen? ⟨g, 0, none⟩ = false ∧ w.frozen? ⟨g, 1, none⟩ = false ∧ w.frozen? ⟨g, 2, none⟩ = false) :=
  ⟨⟨(cell_of_row _ _ _ _ _ _ h).trans rfl, (cell_of_row _ _ _ _ _ _ h).trans rfl, (cell_of_row _ _ _ _ _ _ h).trans rfl⟩, frozen_of_row _ _ _ _ _ h, frozen_of_row _ _ _ _ _ h, frozen_of_row _ _ _ _ _ h⟩
theorem set3 {w : World} {g : Nat} {a b c : Value} {t : TypeId} (h : w.heap[g]? = some (.cells #[a, b, c] t (0, 0))) (a' b' c' : Value) : (((w.setCell ⟨g, 0, none⟩ a').setCell ⟨g, 1, none⟩ b').setCell ⟨g, 2, none⟩ c').heap[g]? = some (.cells #[a', b', c'] t (0, 0)) := by
  obtain ⟨cur, h1, h2, h3⟩ := setCells_row [a', b', c'] 0 w _ h (by simp)
  have : cur = #[a', b', c'] := by
    apply Array.ext'
    rw [h3]
    simp
  rw [this] at h1
  exact h1
theorem far3 {w : World} {g k : Nat} (hk : k ≠ g) (a' b' c' : Value) : (((w.setCell ⟨g, 0, none⟩ a').setCell ⟨g, 1, none⟩ b').setCell ⟨g, 2, none⟩ c').heap[k]? = w.heap[k]? := setCells_far [a', b', c'] 0 k hk
theorem below3 {B g : Nat} {a w : World} (hg : B ≤ g) (a' b' c' : Value) (h : Below B a w) : Below B a (((w.setCell ⟨g, 0, none⟩ a').setCell ⟨g, 1, none⟩ b').setCell ⟨g, 2, none⟩ c') := below_setCells_ hg 0 [a', b', c'] h
theorem Kd.V_away {α : Type} {d : Kd α} {e base g : Nat} {ok : Nat → Prop} {W : World} {v : Value} {xs : List α} (h : Kd.V d e W base ok v xs) (hok : ∀ k, ok k → k ≠ g) (hp : 0 < xs.length := by first | omega | (simp only [decide_eq_true_eq, beq_iff_eq] at *; omega)) (hs : 0 < d.sz := by decide) : some g ≠ v.ownBlock := by
  obtain ⟨A, c, rfl, hl, hF⟩ := h
  obtain ⟨W', hW, hn⟩ := Kd.emptied W g
  have hC := hF W' (fun k hk _ => hW k (hok k hk))
  obtain ⟨ad, rfl, hh⟩ := hC.2.2 hp
  obtain ⟨c0, hc0, _, hcell⟩ := hh 0 xs[0] (List.getElem?_eq_getElem hp)
  intro he
  have hb : ad.block = g := (Option.some.inj he).symm
  have := hcell 0 c0[0] (List.getElem?_eq_getElem (by omega))
  rw [hn _ (by rw [add_block]; exact hb)] at this
  cases this
section
variable {P : Program}
theorem run_copy_wide (w : World) (dT sT ty elem : TypeId) (b o dLen dCap : Nat) (a : Addr) (sLen sCap : Nat) (cs : List Value) (sz : Nat)
    (hu : P.underlying dT = some (.slice elem)) (hs : (P.info? elem).map (·.size) = some sz) (hn : cs.length = Nat.min sLen dLen * sz)
    (hsrc : ∀ j v, cs[j]? = some v → w.cell? (a.add j) = some v) (hc : ∀ j, j < cs.length → (w.cell? ⟨b, o + j, none⟩).isSome = true) (hf : ∀ j, j < cs.length → w.frozen? ⟨b, o + j, none⟩ = false) (h1 : ∀ v ∈ cs, v.oneCell' = true) :
    (Builtin.copy_ #[dT, sT] ty #[.slice (some ⟨b, o, none⟩) dLen dCap, .slice (some a) sLen sCap]).run P w = .ok (goInt (Nat.min sLen dLen)) (w.setCells b o cs) := by
  have hl := run_loadCells_list (P := P) w a cs hsrc
  have hst := run_storeCells_cells (P := P) b o cs 0 w (by simpa using hc) (by simpa using hf) h1
  cases hq : P.info? elem with
  | none => simp [hq] at hs
  | some i =>
    have hi : i.size = sz := by simpa [hq] using hs
    simp [Builtin.copy_, run_underlying hu, Builtin.lenOf, Builtin.firstCells, sizeOf, typeInfo, hq, hi, ← hn, hl, hst]
theorem run_copy_zero (w : World) (dT sT ty elem : TypeId) (b : Addr) (dLen dCap : Nat) (sz : Nat) (hu : P.underlying dT = some (.slice elem)) (hs : (P.info? elem).map (·.size) = some sz) (sCap : Nat) :
    (Builtin.copy_ #[dT, sT] ty #[.slice (some b) dLen dCap, .slice none 0 sCap]).run P w = .ok (goInt 0) w := by
  cases hq : P.info? elem with
  | none => simp [hq] at hs
  | some i => simp [Builtin.copy_, run_underlying hu, Builtin.lenOf, Builtin.firstCells, sizeOf, typeInfo, hq, storeCells]
theorem one_of_reps {α : Type} (d : Kd α) {W : World} {ys : List α} {inner : List Value} (hr : Reps (fun x c => d.K W x c) d.sz ys inner) : ∀ v ∈ inner, v.oneCell' = true := by
  by_cases hz : 0 < d.sz
  · exact Kd.reps_one hr hz (fun p c hp => d.K_one hp)
  · intro u hu
    have h0 := hr.1
    rw [Nat.eq_zero_of_not_pos hz, Nat.mul_zero] at h0
    rw [List.length_eq_zero_iff.1 h0] at hu
    simp at hu
/-- copy(v, ys), as many as there are. -/
theorem wpList_copy_full {α : Type} {ops : Array Oper} {rest : List Oper} {o : Oper} {a : Act} {Q : Exit → Act → World → Prop} (d : Kd α) {W : World} (hgd : o.guard = none) (s x : Operand) (t t' e : TypeId)
    (ho : o.op = .call { callee := .builtin .copy, args := #[s, x], argTypes := #[t, t'] }) (ht : P.underlying t = some (.slice e)) (hinfo : (P.info? e).map (·.size) = some d.sz)
    (g n cap c : Nat) (cur : Array Value) (A : Option Addr) (ys : List α) (hn : ys.length = n) (hs : a.eval s = .slice (some ⟨g, 0, none⟩) n cap) (hx : a.eval x = .slice A n c) (HC : Kd.C d W A n ys) (hg : W.heap[g]? = some (.cells cur e (0, 0))) (hcur : n * d.sz ≤ cur.size)
    (h : ∀ inner, Reps (fun x c => d.K W x c) d.sz ys inner → wpList P ops Q rest (a.put o.dst (.int .i64 (n : Int))) (W.setCells g 0 inner)) : wpList P ops Q (o :: rest) a W := by
  refine wpList_plain hgd fun K hK => ?_
  unfold Oper.wp
  subst hn
  cases A with
  | none =>
    have h0 : ys = [] := C_none HC
    subst h0
    have hrun := run_copy_zero (P := P) W t t' o.type e ⟨g, 0, none⟩ 0 cap d.sz ht hinfo c
    simp only [List.length_nil] at hs hx
    simp [execOp, ho, resolve, invoke, builtin, hs, hx, hrun, Result.andThen]
    exact hK _ _ (h [] (Reps.none _ _))
  | some ad =>
    obtain ⟨inner, hr, hc⟩ := ReadsRow.inner_ HC
    have hrun := run_copy_wide (P := P) W t t' o.type e g 0 ys.length cap ad ys.length c inner d.sz ht hinfo (by rw [hr.1]; simp) hc
      (fun j hj => by rw [Nat.zero_add, cell_of_row _ _ _ _ _ _ hg, Array.getElem?_eq_getElem (by rw [hr.1] at hj; omega)]; rfl) (fun j _ => frozen_of_row _ _ _ _ _ hg) (one_of_reps d hr)
    simp [execOp, ho, resolve, invoke, builtin, hs, hx, hrun, Result.andThen]
    exact hK _ _ (h inner hr)
end
theorem Kd.V_ne {α : Type} {d : Kd α} {e base g : Nat} {ok : Nat → Prop} {W : World} {v : Value} {xs : List α} {cells : Array Value} {t : TypeId} (h : Kd.V d e W base ok v xs) (hb : W.heap[g]? = some (.cells cells t (0, 0))) (ht : e ≠ t) (hok : ∀ k, ok k → k ≠ g := by first | exact fun _ hk => hk | exact fun _ hk => hk.2 | exact fun _ hk => hk.1.2 | exact fun _ hk => hk.1.1.2 | exact fun _ hk => hk.1.1.1.2 | exact fun _ hk => hk.1.1.1.1.2 | exact fun _ hk => hk.1.1.1.1.1.2 | (intro k_ hk_; simp_all)) (hp : 0 < xs.length := by first | omega | (simp only [decide_eq_true_eq, beq_iff_eq] at *; omega)) (hs : 0 < d.sz := by decide) : some g ≠ v.ownBlock := Kd.V_away h hok hp hs
section
variable {P : Program}
theorem zeroCells_len (z : Array Value) (n : Nat) : (Builtin.zeroCells z n).toList.length = n * z.size := by simp [Builtin.zeroCells]
theorem zeroCells_one_ (z : Array Value) (n : Nat) (h1 : ∀ v ∈ z.toList, v.oneCell' = true) : ∀ v ∈ (Builtin.zeroCells z n).toList, v.oneCell' = true := by
  intro v hv
  simp only [Builtin.zeroCells, Array.toList_map, List.mem_map, Array.toList_range, List.mem_range] at hv
  obtain ⟨i, hi, rfl⟩ := hv
  have hp : 0 < z.size := by
    rcases Nat.eq_zero_or_pos z.size with h | h
    · rw [h, Nat.mul_zero] at hi; omega
    · exact h
  have hm := Nat.mod_lt i hp
  rw [getElem!_pos z (i % z.size) hm]
  exact h1 _ (by simp)
/-- clear(v[i:]): whatever is written there. -/
theorem wpList_clear_any {ops : Array Oper} {rest : List Oper} {o : Oper} {a : Act} {w : World} {Q : Exit → Act → World → Prop} (hgd : o.guard = none) (t e : TypeId) (x : Operand) (ho : o.op = .call { callee := .builtin .clear, args := #[x], argTypes := #[t] })
    (ht : P.underlying t = some (.slice e)) (z : Value) (hv : ∀ w, (zeroValue e).run P w = .ok z w) (h1 : ∀ v ∈ z.cells.toList, v.oneCell' = true) (b off n c : Nat) (hx : a.eval x = .slice (some ⟨b, off, none⟩) n c)
    (hc : ∀ j, j < n * z.cells.size → (w.cell? ⟨b, off + j, none⟩).isSome = true) (hf : ∀ j, j < n * z.cells.size → w.frozen? ⟨b, off + j, none⟩ = false)
    (h : ∀ vs : List Value, vs.length = n * z.cells.size → wpList P ops Q rest (a.put o.dst (.tuple #[])) (w.setCells b off vs)) : wpList P ops Q (o :: rest) a w :=
  wpList_plain hgd fun _ hK => by
    unfold Oper.wp
    cases n with
    | zero =>
      simp [execOp, ho, resolve, invoke, builtin, hx, Builtin.clear_, run_underlying ht, Result.andThen]
      exact hK _ _ (h [] (by simp))
    | succ n =>
      have hst := run_storeCells_cells (P := P) b off (Builtin.zeroCells z.cells (n + 1)).toList 0 w (by rw [zeroCells_len]; simpa using hc) (by rw [zeroCells_len]; simpa using hf) (zeroCells_one_ _ _ h1)
      simp only [Nat.add_zero] at hst
      simp [execOp, ho, resolve, invoke, builtin, hx, Builtin.clear_, run_underlying ht, hv, hst, Result.andThen]
      exact hK _ _ (h _ (zeroCells_len _ _))
end
theorem cell1 {w : World} {g : Nat} {a : Value} {t : TypeId} (h : w.heap[g]? = some (.cells #[a] t (0, 0))) : w.cell? ⟨g, 0, none⟩ = some a ∧ w.frozen? ⟨g, 0, none⟩ = false := ⟨(cell_of_row _ _ _ _ _ _ h).trans rfl, frozen_of_row _ _ _ _ _ h⟩
theorem set1 {w : World} {g : Nat} {a : Value} {t : TypeId} (h : w.heap[g]? = some (.cells #[a] t (0, 0))) (u : Value) : (w.setCell ⟨g, 0, none⟩ u).heap[g]? = some (.cells #[u] t (0, 0)) := by
  obtain ⟨cur, h1, h2, h3⟩ := setCells_row [u] 0 w _ h (by simp)
  have : cur = #[u] := by
    apply Array.ext'
    rw [h3]
    simp
  rw [this] at h1
  exact h1

end Go.Proofs.Ytibkmiffibacbaa.Print
