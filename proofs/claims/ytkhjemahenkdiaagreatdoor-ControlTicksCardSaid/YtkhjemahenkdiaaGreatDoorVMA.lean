/- What an operation reads and writes, without memory; each against the model. Part 11: slices of one's own that are cut, cleared, handed on; literals of one's own. -/
import Derived.Test.YtkhjemahenkdiaaGreatDoorVM
namespace Go.Proofs.YtkhjemahenkdiaaGreatDoor.V
open Go Go.RowKit
set_option linter.unusedVariables false
set_option linter.unusedSimpArgs false
section
variable {P : Program} {F0 : Nat → Prop} {w0 : World} {E : En} {σ : St} {a : Act} {w : World} {tt : TT} {heap : Heap}
/-- A slice of one's own is given up for another one over the same row, or a new one. -/
theorem own_trade (h : InvH F0 w0 E heap w) {k sb : Nat} (hk : k < heap.length) {s0 : Sl} (hs0 : (hg heap k).1 = s0) (hsb : sb < heap.length) (hn : (hg heap sb).1 = .none) (hne : k ≠ sb) {w' : World}
    (hw : ∀ b, b < w.heap.size → ¬ Live E k s0 b → w'.heap[b]? = w.heap[b]?) (hos : w'.os = w.os) (hta : w'.tape = w.tape) (hou : w'.output = w.output) (hsz : w.heap.size ≤ w'.heap.size)
    {et : Nat} {τ : Ty} {xs : List τ.T} {v : Value} {inner : List Value} (ho : Own w' et τ.sz v xs.length inner) (hE : El (RepD E.F w' τ) xs inner)
    (hb : ∀ b o n c, v = .slice (some ⟨b, o, none⟩) n c → 0 < c → Live E k s0 b ∨ w.heap.size ≤ b ∧ b < w'.heap.size) :
    ∃ E', InvH F0 w0 E' (hs (hs heap k (.dead, [])) sb (.buf et τ xs, [])) w' ∧ Evo E w E' w' ∧ E'.γ sb = some v := by
  subst hs0
  have hd := h.die hk []
  have hsb' : sb < (hs heap k (.dead, [])).length := by rw [hs_len]; exact hsb
  have hn' : (hg (hs heap k (.dead, [])) sb).1 = .none := by rw [hg_hs _ _ _ _ hk, if_neg hne]; exact hn
  have hF : ∀ b, E.F b → w'.heap[b]? = w.heap[b]? := fun b hb => hw b (h.fz b hb) fun hl => (h.own k b hl).2.2 hb
  have hlj : ∀ j b, Live E j (hg (hs heap k (.dead, [])) j).1 b → j ≠ k ∧ Live E j (hg heap j).1 b := by
    intro j b hl
    rw [hg_hs _ _ _ _ hk] at hl
    by_cases e : k = j
    · rw [if_pos e] at hl; exact hl.elim
    · rw [if_neg e] at hl; exact ⟨fun e' => e e'.symm, hl⟩
  obtain ⟨q1, q2⟩ := hd.newγ (w' := w') hsb' hn' (v := v) (below_of hos hta hou hsz (fun b hb => hw b (by have := h.below.size; omega) fun hl => by have := (h.own k b hl).1; omega)) hF
    (fun j _ b hl => hw b (h.own j b (hlj j b hl).2).2.1 fun hl' => (hlj j b hl).1 (h.inj j k b (hlj j b hl).2 hl')) (s := .buf et τ xs) (c := []) ⟨v, inner, by simp [updγ], ho, hE⟩ (fun b hl => by
      obtain ⟨o, n, c, e, hc⟩ := live_upd.1 hl
      rcases hb b o n c e hc with hl | ⟨h1, h2⟩
      · obtain ⟨p1, p2, p3⟩ := h.own k b hl
        exact ⟨p1, by omega, p3, fun j _ hl' => (hlj j b hl').1 (h.inj j k b (hlj j b hl').2 hl)⟩
      · exact ⟨by have := h.below.size; omega, h2, fun hF => by have := h.fz b hF; omega, fun j _ hl' => by have := (h.own j b (hlj j b hl').2).2.1; omega⟩)
  exact ⟨_, q1, q2, by simp [updγ]⟩
theorem Own.takes {et sz n : Nat} {v : Value} {inner : List Value} (h : Own w et sz v n inner) {m : Nat} (hm : m ≤ n) : ∃ A c, v = .slice A n c ∧ n ≤ c ∧ Own w et sz (.slice A m c) m (inner.take (m * sz)) ∧ (∀ b o n' c', Value.slice A m c = .slice (some ⟨b, o, none⟩) n' c' → 0 < c' → ∃ n'', v = .slice (some ⟨b, o, none⟩) n'' c') := by
  rcases h with ⟨A, e1, e2, e3⟩ | ⟨g, cap, cur, e1, e2, e3, e4, e5, e6, e7⟩
  · refine ⟨A, 0, by rw [e1, e2], by omega, .inl ⟨A, by rw [show m = 0 by omega], by omega, by rw [e3]; simp⟩, fun b o n' c' e hc => ?_⟩
    simp only [Value.slice.injEq] at e
    omega
  · refine ⟨_, cap, e1, e4, .inr ⟨g, cap, cur, rfl, e2, e3, by omega, e5, e6, ?_⟩, fun b o n' c' e hc => ?_⟩
    · rw [← e7, List.take_take, Nat.min_eq_left (Nat.mul_le_mul_right _ hm)]
    · simp only [Value.slice.injEq] at e
      exact ⟨n, by rw [e1, e.1, e.2.2]⟩
def ownB (v : AV) (k1 : (s et : Nat) → (τ : Ty) → List τ.T → Rd) (k2 : Rd) : Rd := match v with
  | .own s => .slot s fun z => match z with
    | .buf et τ xs => k1 s et τ xs
    | _ => k2
  | _ => k2
theorem ownB_gives (hI : Inv F0 w0 E σ a w) {v : AV} {u : Value} {k1 : (s et : Nat) → (τ : Ty) → List τ.T → Rd} {k2 : Rd} {ws : List Wr} (hv : RepA E w u v) (h : (ownB v k1 k2).gives σ ws) :
    k2.gives σ ws ∨ ∃ s et τ xs inner, (hg σ.heap s).1 = .buf et τ xs ∧ s < σ.heap.length ∧ E.γ s = some u ∧ Own w et τ.sz u xs.length inner ∧ El (RepD E.F w τ) xs inner ∧ (k1 s et τ xs).gives σ ws := by
  unfold ownB at h
  split at h
  · rename_i s
    replace h := Rd.gives_slot.1 h
    split at h
    · rename_i et τ xs hs
      have hk := hI.heap.slot s
      rw [hs] at hk
      obtain ⟨u', inner, h1, h2, h3⟩ := hk
      have h4 := hv.1
      rw [h1] at h4
      obtain rfl := Option.some.inj h4
      exact .inr ⟨s, et, τ, xs, inner, hs, hg_lt (by rw [hs]; simp), h1, h2, h3, h⟩
    · exact .inl h
  · exact .inl h
def semCut (tt : TT) (nt hn sb : Nat) (dst : Option Nat) (t : Nat) (x : Operand) (lo hi mx : Option Operand) : Rd := ev1 x fun v => ownB v (fun s et τ xs => match tt.at t with
  | some i => match i.elem with
    | some e => match tt.at e with
      | some j => cond (Nat.beq τ.sz j.n) (match lo, hi, mx with
        | some l, none, none => opt (some l) 0 fun l => .need (0 ≤ l ∧ l ≤ (xs.length : Int)) (fin nt dst [] (.cv (.one (.oview s τ l))))
        | none, some h, none => opt (some h) 0 fun h => .need (0 ≤ h ∧ h ≤ (xs.length : Int)) (free hn sb (fin nt dst [.slot s .dead [], .slot sb (.buf et τ (xs.take h.toNat)) []] (.cv (.one (.own sb)))))
        | _, _, _ => .fail) .fail
      | none => .fail
    | none => .fail
  | none => .fail) (semSlice tt nt dst t x lo hi mx)
theorem ok_cut (hck : tt.ck P = true) {o : Oper} {t sb : Nat} {x : Operand} {lo hi mx : Option Operand} {Q : Exit → Act → World → Prop} {ws : List Wr} (ho : o.op = .slice t x lo hi mx) (hI : Inv F0 w0 E σ a w) (h : (semCut tt σ.nt σ.heap.length sb o.dst t x lo hi mx).gives σ ws) : Good P F0 w0 E o a w (σ.aps ws) Q := by
  replace h := ev1_gives hI h
  obtain ⟨v, hv, h⟩ := h
  rcases ownB_gives hI hv h with h | ⟨s, et, τ, xs, inner, hs, hsl, hγ, hO, hE, h⟩
  · exact ok_slice hck ho hI h
  · split at h
    · rename_i i hi'
      split at h
      · rename_i e he
        split at h
        · rename_i j hj
          cases hb : Nat.beq τ.sz j.n
          · rw [hb] at h; exact absurd h Rd.gives_fail
          · rw [hb, cond_true] at h
            have hb := Nat.eq_of_beq_eq_true hb
            have hu := (TT.fact hck hi').slice he
            split at h
            · replace h := opt_gives hI h
              obtain ⟨q, h, hq⟩ := h
              obtain ⟨⟨g1, g2⟩, h⟩ := Rd.gives_need.1 h
              obtain ⟨A, c, ex, hc, _⟩ := hO.takes (Nat.le_refl _)
              have hrun := run_bounds (P := P) (w := w) (c := c) (n := xs.length) (lo := some _) (hi := none) (mx := none) (a := a) hq (.inl ⟨rfl, rfl⟩) (.inl ⟨rfl, rfl⟩) g1 g2 (by omega) (Int.le_refl _)
              refine good_one (v := .slice (if c = q.toNat then A else A.map (·.add (q.toNat * τ.sz))) (xs.length - q.toNat) (c - q.toNat)) ?_ hI h ⟨A, xs.length, c, by rw [hγ, ex], g1, g2, rfl⟩
              simp [execOp, ho, ex, Instr.sliceAt, Instr.slice, run_underlying hu w, hb] at hrun ⊢
              simp [hrun, run_sizeOf (TT.fact hck hj) w]
            · replace h := opt_gives hI h
              obtain ⟨q, h, hq⟩ := h
              obtain ⟨⟨g1, g2⟩, h⟩ := Rd.gives_need.1 h
              obtain ⟨f1, f2, h⟩ := free_gives h
              obtain ⟨A, c, ex, hc, hO', hbl⟩ := hO.takes (m := q.toNat) (by omega)
              have hrun := run_bounds (P := P) (w := w) (c := c) (n := xs.length) (lo := none) (hi := some _) (mx := none) (a := a) (.inl ⟨rfl, rfl⟩) (hq.elim (fun e => by cases e.1) .inr) (.inl ⟨rfl, rfl⟩) (Int.le_refl _) g1 (by omega) (Int.le_refl _)
              have hne : s ≠ sb := by rintro rfl; rw [hs] at f2; cases f2
              have hl : (xs.take q.toNat).length = q.toNat := by rw [List.length_take]; omega
              obtain ⟨E', p1, p2, p3⟩ := own_trade (w' := w) (et := et) (τ := τ) (xs := xs.take q.toNat) (v := .slice A q.toNat c) (inner := inner.take (q.toNat * τ.sz)) hI.heap hsl hs f1 f2 hne (fun _ _ _ => rfl) rfl rfl rfl (Nat.le_refl _) (by rw [hl]; exact hO') (hE.take (s := τ.sz) (fun _ _ h => h.len) _) (fun b o' n' c' e' hc' => by
                obtain ⟨n'', e''⟩ := hbl b o' n' c' e' hc'
                exact .inl ⟨o', n'', c', by rw [hγ, e''], hc'⟩)
              have hA : (if c = 0 then A else A.map (·.add (0 * τ.sz))) = A := by
                split
                · rfl
                · rcases hO with ⟨A', e1, _⟩ | ⟨g, cap, cur, e1, _⟩
                  · rw [ex] at e1; simp only [Value.slice.injEq] at e1; omega
                  · rw [ex] at e1; simp only [Value.slice.injEq] at e1; rw [e1.1]; simp [Addr.add_plain]
              refine good_one' (hw := [.slot s .dead [], .slot sb (.buf et τ (xs.take q.toNat)) []]) (v := .slice A q.toNat c) ?_ (hI.evo p2 p1) p2 rfl h ⟨p3, _, _, _, rfl⟩
              simp [execOp, ho, ex, Instr.sliceAt, Instr.slice, run_underlying hu w] at hrun ⊢
              simp [hrun, run_sizeOf (TT.fact hck hj) w]
              simp only [Nat.zero_mul] at hA
              intro hc0
              rw [if_neg hc0] at hA
              exact hA
            · exact absurd h Rd.gives_fail
        · exact absurd h Rd.gives_fail
      · exact absurd h Rd.gives_fail
    · exact absurd h Rd.gives_fail
def semClear (tt : TT) (nt : Nat) (dst : Option Nat) (t : Nat) (x : Operand) : Rd := ev1 x fun v => match v, tt.at t with
  | .oview k τ lo, some i => match i.elem with
    | some e => match tt.at e with
      | some j => .slot k fun z => match z with
        | .buf et τ' xs => cst τ' τ xs fun xs => match dec τ j.zero with
          | some z0 => cond (Nat.beq τ.sz j.n) (fin nt dst [.slot k (.buf et τ (xs.take lo.toNat ++ List.replicate (xs.length - lo.toNat) z0)) []] (.tup [])) .fail
          | none => .fail
        | _ => .fail
      | none => .fail
    | none => .fail
  | _, _ => .fail
theorem ok_clear (hck : tt.ck P = true) {o : Oper} {t : Nat} {x : Operand} {Q : Exit → Act → World → Prop} {ws : List Wr} (ho : o.op = .call { callee := .builtin .clear, args := #[x], argTypes := #[t] }) (hI : Inv F0 w0 E σ a w) (h : (semClear tt σ.nt o.dst t x).gives σ ws) : Good P F0 w0 E o a w (σ.aps ws) Q := by
  replace h := ev1_gives hI h
  obtain ⟨v, hv, h⟩ := h
  split at h
  · rename_i k τ lo i hi
    split at h
    · rename_i e he
      split at h
      · rename_i j hj
        replace h := Rd.gives_slot.1 h
        split at h
        · rename_i et τ' xs hs
          obtain ⟨rfl, h⟩ := cst_gives h
          split at h
          · rename_i z0 hz0
            cases hb : Nat.beq τ'.sz j.n
            · rw [hb] at h; exact absurd h Rd.gives_fail
            · rw [hb, cond_true] at h
              have hsz := Nat.eq_of_beq_eq_true hb
              have hE := TT.fact hck hj
              have hu := (TT.fact hck hi).slice he
              obtain ⟨z, hz, _, _, hzz⟩ := run_zero hE w
              have hzr := zall_ok E w hzz
              have hzs : z.cells.size = τ'.sz := by
                have := hzr.len
                rw [Array.length_toList, hE.zl] at this
                omega
              have hzd := RepD.dec hzr hz0
              have hkl : k < σ.heap.length := hg_lt (by rw [hs]; simp)
              have hk := hI.heap.slot k
              rw [hs] at hk
              obtain ⟨u, inner, h1, hown, hEl⟩ := hk
              obtain ⟨A, n, c, h2, g1, g2, hx⟩ := hv
              rw [h1] at h2
              obtain rfl := Option.some.inj h2
              have hlen : n = xs.length := by
                rcases hown with ⟨A', e1, e2, _⟩ | ⟨g, cap, cur, e1, _⟩
                · simp only [Value.slice.injEq] at e1; omega
                · simp only [Value.slice.injEq] at e1; omega
              subst hlen
              by_cases hm : xs.length - lo.toNat = 0
              · have hrun : (execOp a.eval o).run P w = .ok (.value (.tuple #[])) w := by
                  rw [hm] at hx
                  generalize (if c = lo.toNat then A else A.map (·.add (lo.toNat * τ'.sz))) = B at hx
                  cases B <;> simp [execOp, ho, resolve, invoke, builtin, Builtin.clear_, run_underlying hu w, hx]
                have hxs : xs.take lo.toNat ++ List.replicate (xs.length - lo.toNat) z0 = xs := by
                  rw [hm, List.take_of_length_le (by omega)]; simp
                rw [hxs] at h
                have hupd := hI.heap.upd (w' := w) (E' := E) hkl (Evo.refl E w) (fun _ _ => rfl) (fun _ _ => rfl) (Below.refl _ w) (fun _ _ _ _ => rfl) hI.heap.fz hI.heap.sub (fun j _ b hl => (hI.heap.own j b hl).2.2) (s := .buf et τ' xs) (c := []) (by
                  have := hI.heap.slot k
                  rw [hs] at this
                  exact this) (fun b hb => hI.heap.own k b (by rw [hs]; exact hb)) (fun j hj b hl hb => hj (hI.heap.inj j k b hl (by rw [hs]; exact hb)))
                exact good_fin hrun (hI.evo (Evo.refl E w) hupd) (Evo.refl E w) (show RepT E w _ (.tup []) from ⟨#[], rfl, trivial⟩) rfl h
              · rcases hown with ⟨A', e1, e2, _⟩ | ⟨g, cap, cur, e1, e2, e3, e4, e5, e6, e7⟩
                · simp only [Value.slice.injEq] at e1; omega
                · simp only [Value.slice.injEq, true_and] at e1
                  obtain ⟨rfl, rfl⟩ := e1
                  rw [if_neg (by omega)] at hx
                  simp only [Option.map_some, Addr.add_plain, Nat.zero_add] at hx
                  have hzl : (Builtin.zeroCells z.cells (xs.length - lo.toNat)).toList.length = (xs.length - lo.toNat) * τ'.sz := by simp [Builtin.zeroCells, hzs]
                  have hze : El (RepD E.F w τ') (List.replicate (xs.length - lo.toNat) z0) (Builtin.zeroCells z.cells (xs.length - lo.toNat)).toList := by
                    have := made_el hzs hzd (xs.length - lo.toNat)
                    rw [← hzs] at this
                    exact this
                  generalize hZ : (Builtin.zeroCells z.cells (xs.length - lo.toNat)).toList = zs at hzl hze
                  have hfit : lo.toNat * τ'.sz + zs.length ≤ cur.size := by
                    rw [hzl, e6, ← Nat.add_mul]; exact Nat.mul_le_mul_right _ (by omega)
                  have hst := run_storeCells_cells (P := P) g (lo.toNat * τ'.sz) zs 0 w (fun q hq => by rw [Nat.add_zero, cell_of_row _ _ _ _ _ _ e3, Array.getElem?_eq_getElem (by omega)]; rfl) (fun q _ => frozen_of_row _ _ _ _ _ e3) (fun u hu => El.one hze u hu)
                  have hrun : (execOp a.eval o).run P w = .ok (.value (.tuple #[])) (w.setCells g (lo.toNat * τ'.sz) zs) := by
                    simp only [Nat.add_zero] at hst
                    obtain ⟨m, hm'⟩ := Nat.exists_eq_succ_of_ne_zero hm
                    rw [hm'] at hx hZ
                    simp [execOp, ho, resolve, invoke, builtin, Builtin.clear_, run_underlying hu w, hx, hz, hZ, hst]
                  obtain ⟨cur', r1, r2, r3⟩ := sc_row zs (lo.toNat * τ'.sz) w cur e3 hfit
                  obtain ⟨s1, s2, s3, s4⟩ := sc_same g zs (lo.toNat * τ'.sz) w
                  have hlive : Live E k (hg σ.heap k).1 g := by rw [hs]; exact ⟨0, xs.length, c, h1, e2⟩
                  have hev : Evo E w E (w.setCells g (lo.toNat * τ'.sz) zs) := ⟨fun _ _ e => e, fun _ _ e => e, fun _ e => e, fun q hq => sc_far _ _ _ (fun e => (hI.heap.own k g hlive).2.2 (e ▸ hq))⟩
                  have hxl : (xs.take lo.toNat ++ List.replicate (xs.length - lo.toNat) z0).length = xs.length := by simp; omega
                  have htk : cur'.toList.take (xs.length * τ'.sz) = inner.take (lo.toNat * τ'.sz) ++ zs := by
                    have hmul : xs.length * τ'.sz = lo.toNat * τ'.sz + (xs.length - lo.toNat) * τ'.sz := by rw [← Nat.add_mul]; congr 1; omega
                    have hcl : cur.toList.length = cur.size := Array.length_toList
                    have hA : (cur.toList.take (lo.toNat * τ'.sz)).length = lo.toNat * τ'.sz := by rw [List.length_take, hcl]; omega
                    rw [r3, List.take_append_of_le_length (by rw [List.length_append, hA, hzl, hmul]; exact Nat.le_refl _), List.take_of_length_le (by rw [List.length_append, hA, hzl, hmul]; exact Nat.le_refl _), ← e7, List.take_take, Nat.min_eq_left (by omega)]
                  obtain ⟨i1, i2⟩ := hI.heap.write (w' := w.setCells g (lo.toNat * τ'.sz) zs) hkl (g := g) hlive (fun q hq => sc_far _ _ _ hq) s1 s2 s3 s4
                    (s := .buf et τ' (xs.take lo.toNat ++ List.replicate (xs.length - lo.toNat) z0)) (c := []) ⟨_, _, h1, .inr ⟨g, c, cur', by rw [hxl], e2, r1, by rw [hxl]; exact e4, e5, by rw [r2, e6], by rw [hxl]; exact htk⟩, ((hEl.take (s := τ'.sz) (fun _ _ h => h.len) _).app hze).imp (fun _ _ => RepD.evo hev)⟩ (fun q hq => by rw [hs]; exact hq)
                  exact good_fin hrun (hI.evo i2 i1) i2 (show RepT E _ _ (.tup []) from ⟨#[], rfl, trivial⟩) rfl h
          · exact absurd h Rd.gives_fail
        · exact absurd h Rd.gives_fail
      · exact absurd h Rd.gives_fail
    · exact absurd h Rd.gives_fail
  · exact absurd h Rd.gives_fail
-- slices of one's own, lent to a call that only reads
def lendE (E : En) (heap : Heap) : En := ⟨E.β, E.γ, fun b => E.F b ∨ ∃ j, Live E j (hg heap j).1 b⟩
theorem lend_evo : Evo E w (lendE E heap) w := ⟨fun _ _ e => e, fun _ _ e => e, fun _ e => .inl e, fun _ _ => rfl⟩
def lnkd {α β : Type} (xs : List (α × β)) (i : Nat) (y : β) : List (α × β) := match xs[i]? with
  | some x => xs.set i (x.1, y)
  | none => xs
theorem own_lent {F : Nat → Prop} {et : Nat} {τ : Ty} {xs : List τ.T} {v : Value} {inner : List Value} (ho : Own w et τ.sz v xs.length inner) (hE : El (RepD F w τ) xs inner) (hF : ∀ b o n c, v = .slice (some ⟨b, o, none⟩) n c → 0 < c → F b) : RepD F w (.slice τ) xs [v] := by
  rcases ho with ⟨A, e1, e2, e3⟩ | ⟨g, cap, cur, e1, e2, e3, e4, e5, e6, e7⟩
  · exact ⟨A, 0, inner, by rw [e1, e2], by omega, hE, fun j u hu => by rw [e3] at hu; simp at hu⟩
  · refine ⟨some ⟨g, 0, none⟩, cap, inner, by rw [e1], e4, hE, fun j u hu => ⟨g, 0, rfl, hF g 0 _ cap e1 e2, ?_⟩⟩
    rw [cell_of_row _ _ _ _ _ _ e3, Nat.zero_add]
    rw [← e7, List.getElem?_take] at hu
    split at hu
    · simpa using hu
    · cases hu
def lend : List AV → (List AV → Rd) → Rd
  | [], k => k []
  | .own s :: r, k => .slot s fun t => match t with
    | .frz e xs => lend r fun l => k (.sl e xs .any :: l)
    | .buf _ e xs => lend r fun l => k (.sl e xs .any :: l)
    | .lnk _ a b xs B i => .slot B fun u => match u with
      | .buf _ e ys => cst e b ys fun ys => lend r fun l => k (.sl (.pair a (.slice b)) (lnkd xs i ys) .any :: l)
      | _ => .fail
    | _ => .fail
  | x :: r, k => lend r fun l => k (x :: l)
theorem lend_gives (hI : Inv F0 w0 E σ a w) : ∀ {l : List AV} {vs : List Value} {k : List AV → Rd} {ws : List Wr}, RepL E w vs l → (lend l k).gives σ ws → ∃ m, RepL (lendE E σ.heap) w vs m ∧ (k m).gives σ ws
  | [], vs, k, ws, hl, h => ⟨[], by match vs, hl with | [], _ => trivial, h⟩
  | x :: r, v :: vs, k, ws, hl, h => by
    by_cases hx : ∃ s, x = .own s
    · obtain ⟨s, rfl⟩ := hx
      have h := Rd.gives_slot.1 h
      have hk := hI.heap.slot s
      have h3 := hl.1.1
      split at h
      · rename_i e xs hs
        rw [hs] at hk
        obtain ⟨u, h1, h2⟩ := hk
        rw [h1] at h3
        obtain rfl := Option.some.inj h3
        obtain ⟨m, hm, h⟩ := lend_gives hI hl.2 h
        exact ⟨.sl e xs .any :: m, ⟨⟨h2.evo lend_evo, trivial⟩, hm⟩, h⟩
      · rename_i et e xs hs
        rw [hs] at hk
        obtain ⟨u, inner, h1, h2, h4⟩ := hk
        rw [h1] at h3
        obtain rfl := Option.some.inj h3
        obtain ⟨m, hm, h⟩ := lend_gives hI hl.2 h
        refine ⟨.sl e xs .any :: m, ⟨⟨own_lent h2 (h4.imp (fun _ _ => RepD.evo lend_evo)) (fun b o n c ev hc => .inr ⟨s, ?_⟩), trivial⟩, hm⟩, h⟩
        rw [hs]; exact ⟨o, n, c, by rw [h1, ev], hc⟩
      · rename_i et a' b' xs B i hs
        have h := Rd.gives_slot.1 h
        split at h
        · rename_i etB e ys hsB
          obtain ⟨rfl, h⟩ := cst_gives h
          have hkB := hI.heap.slot B
          rw [hsB] at hkB
          obtain ⟨uB, innerB, b1, b2, b3⟩ := hkB
          rw [hs] at hk
          obtain ⟨u, vB, i1, c1, i2, x0, h1, h5, h6, h2, h7, h8, h9, h10⟩ := hk
          rw [h1] at h3
          obtain rfl := Option.some.inj h3
          rw [b1] at h5
          obtain rfl := Option.some.inj h5
          obtain ⟨m, hm, h⟩ := lend_gives hI hl.2 h
          have hil : i < xs.length := (List.getElem?_eq_some_iff.1 h7).1
          have hB : RepD (lendE E σ.heap).F w (.slice e) ys [uB] := own_lent b2 (b3.imp (fun _ _ => RepD.evo lend_evo)) (fun b o n c ev hc => .inr ⟨B, by rw [hsB]; exact ⟨o, n, c, by rw [b1, ev], hc⟩⟩)
          have hd : lnkd xs i ys = xs.take i ++ (x0.1, ys) :: xs.drop (i + 1) := by
            unfold lnkd
            rw [h7]
            simp only
            rw [List.set_eq_take_append_cons_drop, if_pos hil]
          have hlen : (lnkd xs i ys).length = xs.length := by rw [hd]; simp; omega
          have hEl : El (RepD (lendE E σ.heap).F w (.pair a' (.slice e))) (lnkd xs i ys) (i1 ++ (c1 ++ [uB]) ++ i2) := by
            rw [hd, List.append_assoc]
            exact (h8.imp (fun _ _ => RepD.evo lend_evo)).app ⟨c1 ++ [uB], i2, rfl, ⟨c1, [uB], rfl, h9.evo lend_evo, hB⟩, h10.imp (fun _ _ => RepD.evo lend_evo)⟩
          refine ⟨.sl (.pair a' (.slice e)) (lnkd xs i ys) .any :: m, ⟨⟨own_lent (et := et) (by rw [hlen]; exact h2) hEl (fun b o n c ev hc => .inr ⟨s, ?_⟩), trivial⟩, hm⟩, h⟩
          rw [hs]; exact ⟨o, n, c, by rw [h1, ev], hc⟩
        · exact absurd h Rd.gives_fail
      · exact absurd h Rd.gives_fail
    · have h' : (lend r fun l => k (x :: l)).gives σ ws := by
        cases x <;> first | exact h | exact absurd ⟨_, rfl⟩ hx
      obtain ⟨m, hm, h⟩ := lend_gives hI hl.2 h'
      exact ⟨x :: m, ⟨hl.1.evo lend_evo, hm⟩, h⟩
end
end Go.Proofs.YtkhjemahenkdiaaGreatDoor.V
