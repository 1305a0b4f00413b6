/- What an operation reads and writes, without memory; each against the model. Part 6: places in slices, lengths, cuts. -/
import Derived.Test.YtkhjemahenkdiaaGreatDoorVH
namespace Go.Proofs.YtkhjemahenkdiaaGreatDoor.V
open Go Go.RowKit
set_option linter.unusedVariables false
set_option linter.unusedSimpArgs false
section
variable {P : Program} {F0 : Nat → Prop} {w0 : World} {E : En} {σ : St} {a : Act} {w : World} {tt : TT}
theorem TF.slice {t : Nat} {i : TI} (hT : TF P t i) {e : Nat} (h : i.elem = some e) : P.underlying t = some (.slice e) := by
  obtain ⟨f, d, z, h1, h2, h3, h4, h5, h6, h7, h8, h9, h10, h11, _⟩ := hT.ex
  unfold dOk at h10
  rw [h2]
  split at h10 <;> simp_all
theorem TF.array {t : Nat} {i : TI} (hT : TF P t i) {n e : Nat} (h : i.arr = some (n, e)) : P.underlying t = some (.array n e) := by
  obtain ⟨f, d, z, h1, h2, h3, h4, h5, h6, h7, h8, h9, h10, h11, _⟩ := hT.ex
  unfold dOk at h10
  rw [h2]
  split at h10 <;> simp_all
/-- A slice that is read: one that is written no more. -/
def frz (v : AV) (k : (e : Ty) → List e.T → Cap → Rd) : Rd := match v with
  | .sl e xs c => k e xs c
  | .own s => .slot s fun t => match t with
    | .frz e xs => k e xs .any
    | _ => .fail
  | _ => .fail
theorem frz_gives (hI : Inv F0 w0 E σ a w) {v : AV} {u : Value} {k : (e : Ty) → List e.T → Cap → Rd} {ws : List Wr} (hv : RepA E w u v) (h : (frz v k).gives σ ws) : ∃ e xs c, RepD E.F w (.slice e) xs [u] ∧ CapOk c u ∧ (k e xs c).gives σ ws := by
  unfold frz at h
  split at h
  · exact ⟨_, _, _, hv.1, hv.2, h⟩
  · rename_i s
    replace h := Rd.gives_slot.1 h
    split at h
    · rename_i e xs hs
      have hk := hI.heap.slot s
      rw [hs] at hk
      obtain ⟨u', h1, h2⟩ := hk
      have h3 := hv.1
      rw [h1] at h3
      obtain rfl := Option.some.inj h3
      exact ⟨e, xs, .any, h2, trivial, h⟩
    · exact absurd h Rd.gives_fail
  · exact absurd h Rd.gives_fail
theorem slice_parts {e : Ty} {xs : List e.T} {v : Value} (h : RepD E.F w (.slice e) xs [v]) : ∃ A c inner, v = .slice A xs.length c ∧ xs.length ≤ c ∧ El (RepD E.F w e) xs inner ∧ inner.length = xs.length * e.sz ∧ ∀ j u, inner[j]? = some u → ∃ b o, A = some ⟨b, o, none⟩ ∧ E.F b ∧ w.cell? ⟨b, o + j, none⟩ = some u := by
  obtain ⟨A, c, inner, e1, h1, h2, h3⟩ := h
  exact ⟨A, c, inner, List.singleton_inj.1 e1, h1, h2, h2.len (fun _ _ h => h.len), h3⟩
theorem run_indexAt {t e : Nat} {i j : TI} (hT : TF P t i) (hE : TF P e j) (he : i.elem = some e) {b o n c : Nat} {k : IntKind} {q : Int} (h0 : 0 ≤ q) (h1 : q < (n : Int)) : (Instr.indexAt t (.slice (some ⟨b, o, none⟩) n c) (.int k q)).run P w = .ok (.pointer (some ⟨b, o + q.toNat * j.n, none⟩)) w := by
  simp [Instr.indexAt, asIntOf, run_underlying (hT.slice he) w, h0, h1, run_sizeOf hE w, Addr.add_plain]
def semIndexAddr (tt : TT) (nt : Nat) (dst : Option Nat) (t : Nat) (x ix : Operand) : Rd := ev1 x fun v => ev1 ix fun q => match q, tt.at t with
  | .int _ q, some i => match i.elem, i.arr with
    | some e, _ => match tt.at e with
      | some j => match v with
        | .sl τ xs _ => cond (Nat.beq τ.sz j.n) (.need (0 ≤ q) (.need (q < (xs.length : Int)) (fin nt dst [] (.cv (.one (.rptr τ (att τ xs q) 0)))))) .fail
        | .own s => .slot s fun z => match z with
          | .frz τ xs => cond (Nat.beq τ.sz j.n) (.need (0 ≤ q) (.need (q < (xs.length : Int)) (fin nt dst [] (.cv (.one (.rptr τ (att τ xs q) 0)))))) .fail
          | .buf _ τ xs => cond (Nat.beq τ.sz j.n) (.need (0 ≤ q) (.need (q < (xs.length : Int)) (fin nt dst [] (.cv (.one (.eptr s τ q 0)))))) .fail
          | .lnk _ a b xs _ _ => cond (Nat.beq (a.sz + 1) j.n) (.need (0 ≤ q) (.need (q < (xs.length : Int)) (fin nt dst [] (.cv (.one (.eptr s (.pair a (.slice b)) q 0)))))) .fail
          | _ => .fail
        | .bsl s n => .need (0 ≤ q) (.need (q < (n : Int)) (fin nt dst [] (.cv (.one (.ptr s (q.toNat * j.n))))))
        | _ => .fail
      | none => .fail
    | none, some (n, e) => match tt.at e, v with
      | some j, .ptr k off => .need (0 ≤ q) (.need (q < (n : Int)) (fin nt dst [] (.cv (.one (.ptr k (off + q.toNat * j.n))))))
      | some j, .gptr g => match globAt g with
        | some ⟨τ, xs⟩ => cond (Nat.beq τ.sz j.n && Nat.beq xs.length n) (.need (0 ≤ q) (.need (q < (n : Int)) (fin nt dst [] (.cv (.one (.rptr τ (att τ xs q) 0)))))) .fail
        | none => .fail
      | some j, .rptr τ z off => .need (0 ≤ q) (.need (q < (n : Int)) (fin nt dst [] (.cv (.one (.rptr τ z (off + q.toNat * j.n))))))
      | _, _ => .fail
    | _, _ => .fail
  | _, _ => .fail
theorem rptr_of {e : Ty} {xs : List e.T} {v : Value} (h : RepD E.F w (.slice e) xs [v]) {q : Int} (h0 : 0 ≤ q) (h1 : q < (xs.length : Int)) : ∃ b o n c, v = .slice (some ⟨b, o, none⟩) n c ∧ n = xs.length ∧ RepA E w (.pointer (some ⟨b, o + q.toNat * e.sz, none⟩)) (.rptr e (att e xs q) 0) := by
  obtain ⟨A, c, inner, rfl, h2, h3, h4, h5⟩ := slice_parts h
  obtain ⟨cs, hr, hc⟩ := h3.get (s := e.sz) (fun _ _ h => h.len) (att_get h0 h1)
  have hl := hr.len
  have hp := e.sz_pos
  have hne : 0 < cs.length := by omega
  obtain ⟨b, o, rfl, _, _⟩ := h5 _ _ (hc 0 cs[0] (List.getElem?_eq_getElem hne))
  refine ⟨b, o, xs.length, c, rfl, rfl, b, o + q.toNat * e.sz, cs, by rw [Nat.add_zero], hr, fun j u hu => ?_⟩
  obtain ⟨b', o', e', h6, h7⟩ := h5 _ _ (hc j u hu)
  simp only [Option.some.injEq, Addr.mk.injEq, and_true] at e'
  obtain ⟨rfl, rfl⟩ := e'
  exact ⟨h6, by rw [Nat.add_assoc]; exact h7⟩
theorem ok_indexAddr (hck : tt.ck P = true) {o : Oper} {t : Nat} {x ix : Operand} {Q : Exit → Act → World → Prop} {ws : List Wr} (ho : o.op = .indexAddr t x ix) (hI : Inv F0 w0 E σ a w) (h : (semIndexAddr tt σ.nt o.dst t x ix).gives σ ws) : Good P F0 w0 E o a w (σ.aps ws) Q := by
  replace h := ev1_gives hI h
  obtain ⟨v, hv, h⟩ := h
  replace h := ev1_gives hI h
  obtain ⟨q, hq, h⟩ := h
  split at h
  · rename_i kq q i hi
    have hq : a.eval ix = .int kq q := hq
    have hT := TT.fact hck hi
    have go : ∀ {e : Nat} {j : TI} {τ : Ty} {xs : List τ.T}, i.elem = some e → tt.at e = some j → RepD E.F w (.slice τ) xs [a.eval x] →
        (cond (Nat.beq τ.sz j.n) (.need (0 ≤ q) (.need (q < (xs.length : Int)) (fin σ.nt o.dst [] (.cv (.one (.rptr τ (att τ xs q) 0)))))) .fail : Rd).gives σ ws → Good P F0 w0 E o a w (σ.aps ws) Q := by
      intro e j τ xs he hj hr h
      cases hb : Nat.beq τ.sz j.n
      · rw [hb] at h; exact absurd h Rd.gives_fail
      · rw [hb] at h
        have hb := Nat.eq_of_beq_eq_true hb
        obtain ⟨h0, h⟩ := Rd.gives_need.1 h
        obtain ⟨h1, h⟩ := Rd.gives_need.1 h
        obtain ⟨b, p, n, c, ex, rfl, hp⟩ := rptr_of hr h0 h1
        refine good_one (v := .pointer (some ⟨b, p + q.toNat * τ.sz, none⟩)) ?_ hI h hp
        simp [execOp, ho, ex, hq, run_indexAt hT (TT.fact hck hj) he h0 h1, hb]
    split at h
    · rename_i e he
      split at h
      · rename_i j hj
        split at h
        · exact go he hj hv.1 h
        · rename_i s
          replace h := Rd.gives_slot.1 h
          split at h
          · rename_i τ xs hs
            have hk := hI.heap.slot s
            rw [hs] at hk
            obtain ⟨u', h1, h2⟩ := hk
            have h3 := hv.1
            rw [h1] at h3
            obtain rfl := Option.some.inj h3
            exact go he hj h2 h
          · rename_i et τ xs hs
            cases hb : Nat.beq τ.sz j.n
            · rw [hb] at h; exact absurd h Rd.gives_fail
            · rw [hb] at h
              have hb := Nat.eq_of_beq_eq_true hb
              obtain ⟨h0, h⟩ := Rd.gives_need.1 h
              obtain ⟨h1, h⟩ := Rd.gives_need.1 h
              have hk := hI.heap.slot s
              rw [hs] at hk
              obtain ⟨u', inner, g1, g2, g3⟩ := hk
              have h3 := hv.1
              rw [g1] at h3
              obtain rfl := Option.some.inj h3
              rcases g2 with ⟨A, e1, e2, _⟩ | ⟨g, cap, cur, e1, _⟩
              · rw [e2] at h1; exact absurd h1 (by omega)
              · refine good_one (v := .pointer (some ⟨g, 0 + q.toNat * j.n, none⟩)) ?_ hI h ⟨g, 0, xs.length, cap, by rw [g1, e1], h0, h1, by rw [hb, Nat.add_zero]⟩
                simp only [execOp, ho, e1, hq, Sem.run_bind, run_indexAt hT (TT.fact hck hj) he h0 h1, Result.andThen_ok, Sem.run_pure]
          · rename_i et a' b' xs B q' hs
            cases hb : Nat.beq (a'.sz + 1) j.n
            · rw [hb] at h; exact absurd h Rd.gives_fail
            · rw [hb] at h
              have hb := Nat.eq_of_beq_eq_true hb
              obtain ⟨h0, h⟩ := Rd.gives_need.1 h
              obtain ⟨h1, h⟩ := Rd.gives_need.1 h
              have hk := hI.heap.slot s
              rw [hs] at hk
              obtain ⟨u', vB, i1, c1, i2, x0, g1, _, _, g2, _⟩ := hk
              have h3 := hv.1
              rw [g1] at h3
              obtain rfl := Option.some.inj h3
              rcases g2 with ⟨A, e1, e2, _⟩ | ⟨g, cap, cur, e1, _⟩
              · rw [e2] at h1; exact absurd h1 (by omega)
              · refine good_one (v := .pointer (some ⟨g, 0 + q.toNat * j.n, none⟩)) ?_ hI h ⟨g, 0, xs.length, cap, by rw [g1, e1], h0, h1, by rw [← hb, Nat.add_zero]; rfl⟩
                simp only [execOp, ho, e1, hq, Sem.run_bind, run_indexAt hT (TT.fact hck hj) he h0 h1, Result.andThen_ok, Sem.run_pure]
          · exact absurd h Rd.gives_fail
        · rename_i s n
          obtain ⟨h0, h⟩ := Rd.gives_need.1 h
          obtain ⟨h1, h⟩ := Rd.gives_need.1 h
          obtain ⟨b, hb, e1⟩ := hv
          refine good_one (v := .pointer (some ⟨b, 0 + q.toNat * j.n, none⟩)) ?_ hI h ⟨b, hb, by rw [Nat.zero_add]⟩
          simp only [execOp, ho, e1, hq, Sem.run_bind, run_indexAt hT (TT.fact hck hj) he h0 h1, Result.andThen_ok, Sem.run_pure]
        · exact absurd h Rd.gives_fail
      · exact absurd h Rd.gives_fail
    · rename_i n e he ha
      have run : ∀ {j : TI} {b p : Nat}, tt.at e = some j → 0 ≤ q → q < (n : Int) → a.eval x = .pointer (some ⟨b, p, none⟩) → (execOp a.eval o).run P w = .ok (.value (.pointer (some ⟨b, p + q.toNat * j.n, none⟩))) w := by
        intro j b p hj h0 h1 ex
        simp [execOp, ho, ex, hq, Instr.indexAt, asIntOf, run_underlying (hT.array ha) w, Instr.sureAddr, h0, h1, run_sizeOf (TT.fact hck hj) w, Addr.add_plain]
      split at h
      · rename_i j k off hj
        obtain ⟨h0, h⟩ := Rd.gives_need.1 h
        obtain ⟨h1, h⟩ := Rd.gives_need.1 h
        obtain ⟨b, hb, e1⟩ := hv
        exact good_one (run hj h0 h1 e1) hI h ⟨b, hb, rfl⟩
      · rename_i j g hj
        split at h
        · rename_i τ xs hgl
          cases hb : (Nat.beq τ.sz j.n && Nat.beq xs.length n)
          · rw [hb] at h; exact absurd h Rd.gives_fail
          · rw [hb] at h
            simp only [Bool.and_eq_true] at hb
            have hb1 := Nat.eq_of_beq_eq_true hb.1
            have hb2 := Nat.eq_of_beq_eq_true hb.2
            obtain ⟨h0, h⟩ := Rd.gives_need.1 h
            obtain ⟨h1, h⟩ := Rd.gives_need.1 h
            have e1 : a.eval x = .pointer (some ⟨g, 0, none⟩) := hv
            obtain ⟨inner, k1, k2⟩ := hI.globs.2 g τ xs hgl
            obtain ⟨cs, hr, hc⟩ := k1.get (s := τ.sz) (fun _ _ h => h.len) (att_get h0 (by rw [hb2]; exact h1))
            refine good_one (run hj h0 h1 e1) hI h ⟨g, q.toNat * τ.sz, cs, by rw [Nat.zero_add, Nat.add_zero, hb1], hr, fun j' u hu => k2 _ _ (hc j' u hu)⟩
        · exact absurd h Rd.gives_fail
      · rename_i j τ z off hj
        obtain ⟨h0, h⟩ := Rd.gives_need.1 h
        obtain ⟨h1, h⟩ := Rd.gives_need.1 h
        obtain ⟨b, p, cs, e1, h2⟩ := hv
        exact good_one (run hj h0 h1 e1) hI h ⟨b, p, cs, by rw [Nat.add_assoc], h2⟩
      · exact absurd h Rd.gives_fail
    · exact absurd h Rd.gives_fail
  · exact absurd h Rd.gives_fail
-- how many
def lenOf (v : AV) (k : Nat → Rd) : Rd := match v with
  | .nils => k 0
  | .bsl _ n => k n
  | .sl _ xs _ => k xs.length
  | .own s => .slot s fun z => match z with
    | .frz _ xs => k xs.length
    | .buf _ _ xs => k xs.length
    | .lnk _ _ _ xs _ _ => k xs.length
    | _ => .fail
  | _ => .fail
theorem lenOf_gives (hI : Inv F0 w0 E σ a w) {v : AV} {u : Value} {k : Nat → Rd} {ws : List Wr} (hv : RepA E w u v) (h : (lenOf v k).gives σ ws) : ∃ A n c, u = .slice A n c ∧ (k n).gives σ ws := by
  unfold lenOf at h
  split at h
  · exact ⟨none, 0, 0, hv, h⟩
  · obtain ⟨b, _, e⟩ := hv
    exact ⟨_, _, _, e, h⟩
  · obtain ⟨A, c, inner, e, _⟩ := slice_parts hv.1
    exact ⟨A, _, c, e, h⟩
  · rename_i s
    replace h := Rd.gives_slot.1 h
    have hk := hI.heap.slot s
    split at h
    · rename_i hs
      rw [hs] at hk
      obtain ⟨u', h1, h2⟩ := hk
      have h3 := hv.1
      rw [h1] at h3
      obtain rfl := Option.some.inj h3
      obtain ⟨A, c, inner, e, _⟩ := slice_parts h2
      exact ⟨A, _, c, e, h⟩
    · rename_i hs
      rw [hs] at hk
      obtain ⟨u', inner, h1, h2, _⟩ := hk
      have h3 := hv.1
      rw [h1] at h3
      obtain rfl := Option.some.inj h3
      rcases h2 with ⟨A, e, e2, _⟩ | ⟨g, cap, cur, e, _⟩
      · rw [e2] at h; exact ⟨A, 0, 0, e, h⟩
      · exact ⟨_, _, cap, e, h⟩
    · rename_i hs
      rw [hs] at hk
      obtain ⟨u', vB, i1, c1, i2, x0, h1, _, _, h2, _⟩ := hk
      have h3 := hv.1
      rw [h1] at h3
      obtain rfl := Option.some.inj h3
      rcases h2 with ⟨A, e, e2, _⟩ | ⟨g, cap, cur, e, _⟩
      · rw [e2] at h; exact ⟨A, 0, 0, e, h⟩
      · exact ⟨_, _, cap, e, h⟩
    · exact absurd h Rd.gives_fail
  · exact absurd h Rd.gives_fail
def semLen (tt : TT) (nt : Nat) (dst : Option Nat) (t : Nat) (x : Operand) : Rd := ev1 x fun v => match tt.at t with
  | some i => match i.elem with
    | some _ => lenOf v fun n => fin nt dst [] (.cv (.one (.int .i64 (n : Int))))
    | none => .fail
  | none => .fail
theorem ok_len (hck : tt.ck P = true) {o : Oper} {t : Nat} {x : Operand} {Q : Exit → Act → World → Prop} {ws : List Wr} (ho : o.op = .call { callee := .builtin .len, args := #[x], argTypes := #[t] }) (hI : Inv F0 w0 E σ a w) (h : (semLen tt σ.nt o.dst t x).gives σ ws) : Good P F0 w0 E o a w (σ.aps ws) Q := by
  replace h := ev1_gives hI h
  obtain ⟨v, hv, h⟩ := h
  split at h
  · rename_i i hi
    split at h
    · rename_i e he
      obtain ⟨A, n, c, ex, h⟩ := lenOf_gives hI hv h
      refine good_one (v := goInt n) ?_ hI h rfl
      simp [execOp, ho, resolve, invoke, builtin, Builtin.len_, run_underlying ((TT.fact hck hi).slice he) w, ex]
    · exact absurd h Rd.gives_fail
  · exact absurd h Rd.gives_fail
def semMin (nt : Nat) (dst : Option Nat) (x y : Operand) : Rd := ev1 x fun u => ev1 y fun v => match u, v with
  | .int k p, .int k' q => cond (decide (k = k')) (fin nt dst [] (.cv (.one (.int k (if q < p then q else p))))) .fail
  | _, _ => .fail
def semMax (nt : Nat) (dst : Option Nat) (x y : Operand) : Rd := ev1 x fun u => ev1 y fun v => match u, v with
  | .int k p, .int k' q => cond (decide (k = k')) (fin nt dst [] (.cv (.one (.int k (if q > p then q else p))))) .fail
  | _, _ => .fail
theorem ok_min {o : Oper} {ts : Array Nat} {x y : Operand} {Q : Exit → Act → World → Prop} {ws : List Wr} (ho : o.op = .call { callee := .builtin .min, args := #[x, y], argTypes := ts }) (hI : Inv F0 w0 E σ a w) (h : (semMin σ.nt o.dst x y).gives σ ws) : Good P F0 w0 E o a w (σ.aps ws) Q := by
  replace h := ev1_gives hI h
  obtain ⟨u, hu, h⟩ := h
  replace h := ev1_gives hI h
  obtain ⟨v, hv, h⟩ := h
  split at h
  · rename_i k p k' q
    cases hk : decide (k = k')
    · rw [hk] at h; exact absurd h Rd.gives_fail
    · rw [hk] at h
      have e1 : a.eval x = .int k p := hu
      have e2 : a.eval y = .int k' q := hv
      refine good_one (v := .int k (if q < p then q else p)) ?_ hI h rfl
      simp [execOp, ho, resolve, invoke, builtin, Builtin.min_, Builtin.min2, e1, e2]
  · exact absurd h Rd.gives_fail
theorem ok_max {o : Oper} {ts : Array Nat} {x y : Operand} {Q : Exit → Act → World → Prop} {ws : List Wr} (ho : o.op = .call { callee := .builtin .max, args := #[x, y], argTypes := ts }) (hI : Inv F0 w0 E σ a w) (h : (semMax σ.nt o.dst x y).gives σ ws) : Good P F0 w0 E o a w (σ.aps ws) Q := by
  replace h := ev1_gives hI h
  obtain ⟨u, hu, h⟩ := h
  replace h := ev1_gives hI h
  obtain ⟨v, hv, h⟩ := h
  split at h
  · rename_i k p k' q
    cases hk : decide (k = k')
    · rw [hk] at h; exact absurd h Rd.gives_fail
    · rw [hk] at h
      have e1 : a.eval x = .int k p := hu
      have e2 : a.eval y = .int k' q := hv
      refine good_one (v := .int k (if q > p then q else p)) ?_ hI h rfl
      simp [execOp, ho, resolve, invoke, builtin, Builtin.max_, Builtin.max2, e1, e2]
  · exact absurd h Rd.gives_fail
-- a cut
def opt (x : Option Operand) (d : Int) (k : Int → Rd) : Rd := match x with
  | none => k d
  | some x => ev1 x fun v => match v with
    | .int _ q => k q
    | _ => .fail
def semSlice (tt : TT) (nt : Nat) (dst : Option Nat) (t : Nat) (x : Operand) (lo hi mx : Option Operand) : Rd := ev1 x fun v => frz v fun τ xs c => match tt.at t with
  | some i => match i.elem with
    | some e => match tt.at e with
      | some j => cond (Nat.beq τ.sz j.n) (opt lo 0 fun l => opt hi (xs.length : Int) fun h => match mx with
        | none => .need (0 ≤ l ∧ l ≤ h ∧ h ≤ (xs.length : Int)) (fin nt dst [] (.cv (.one (.sl τ ((xs.take h.toNat).drop l.toNat) (match hi, c with | none, .full => .full | _, _ => .any)))))
        | some m => cond hi.isSome (opt (some m) 0 fun m => .need (0 ≤ l ∧ l ≤ h ∧ h ≤ (xs.length : Int) ∧ m = h) (fin nt dst [] (.cv (.one (.sl τ ((xs.take h.toNat).drop l.toNat) .full))))) .fail) .fail
      | none => .fail
    | none => .fail
  | none => .fail
theorem opt_gives (hI : Inv F0 w0 E σ a w) {x : Option Operand} {d : Int} {k : Int → Rd} {ws : List Wr} (h : (opt x d k).gives σ ws) : ∃ q, (k q).gives σ ws ∧ ((x = none ∧ q = d) ∨ ∃ y kd, x = some y ∧ a.eval y = .int kd q) := by
  unfold opt at h
  split at h
  · exact ⟨d, h, .inl ⟨rfl, rfl⟩⟩
  · replace h := ev1_gives hI h
    obtain ⟨v, hv, h⟩ := h
    split at h
    · exact ⟨_, h, .inr ⟨_, _, rfl, hv⟩⟩
    · exact absurd h Rd.gives_fail
theorem cut_rep {τ : Ty} {xs : List τ.T} {v : Value} (hr : RepD E.F w (.slice τ) xs [v]) {l h m : Nat} (h1 : l ≤ h) (h2 : h ≤ xs.length) (h3 : h ≤ m) : ∃ A c, v = .slice A xs.length c ∧ xs.length ≤ c ∧
    RepD E.F w (.slice τ) ((xs.take h).drop l) [.slice (if m = l then A else A.map (·.add (l * τ.sz))) (h - l) (m - l)] := by
  obtain ⟨A, c, inner, rfl, h4, h5, h6, h7⟩ := slice_parts hr
  refine ⟨A, c, rfl, h4, (if m = l then A else A.map (·.add (l * τ.sz))), m - l, (inner.take (h * τ.sz)).drop (l * τ.sz), ?_, ?_, (h5.take (s := τ.sz) (fun _ _ h => h.len) h).drop (s := τ.sz) (fun _ _ h => h.len) l, ?_⟩
  · simp only [List.length_drop, List.length_take, Nat.min_eq_left h2]
  · simp only [List.length_drop, List.length_take, Nat.min_eq_left h2]
    omega
  · intro j u hu
    rw [List.getElem?_drop, List.getElem?_take] at hu
    split at hu
    · rename_i hlt
      obtain ⟨b, o, rfl, h8, h9⟩ := h7 _ _ hu
      have hml : ¬ m = l := by
        intro e
        have : h = l := by omega
        subst this
        omega
      exact ⟨b, o + l * τ.sz, by rw [if_neg hml]; simp [Addr.add_plain], h8, by rw [Nat.add_assoc]; exact h9⟩
    · cases hu
theorem run_bound {x : Value} {k : IntKind} {q : Int} {y : Nat} {code : BoundsCode} (hx : x = .int k q) (h0 : 0 ≤ q) (h1 : q ≤ (y : Int)) : (Instr.sliceBound x y code).run P w = .ok q.toNat w := by
  subst hx
  simp [Instr.sliceBound, asIntOf, h0, h1]
theorem run_bounds {n c : Nat} {lo hi mx : Option Operand} {l h m : Int} (hl : (lo = none ∧ l = 0) ∨ ∃ y kd, lo = some y ∧ a.eval y = .int kd l) (hh : (hi = none ∧ h = (n : Int)) ∨ ∃ y kd, hi = some y ∧ a.eval y = .int kd h)
    (hm : (mx = none ∧ m = (c : Int)) ∨ ∃ y kd, mx = some y ∧ a.eval y = .int kd m ∧ hi ≠ none) (h0 : 0 ≤ l) (h1 : l ≤ h) (h2 : h ≤ m) (h3 : m ≤ (c : Int)) : (Instr.sliceBounds true n c (lo.map a.eval) (hi.map a.eval) (mx.map a.eval)).run P w = .ok (l.toNat, h.toNat, m.toNat) w := by
  have b1 : 0 ≤ h := by omega
  have b2 : 0 ≤ m := by omega
  have hmm : ((m.toNat : Nat) : Int) = m := by omega
  have hhh : ((h.toNat : Nat) : Int) = h := by omega
  rcases hm with ⟨rfl, rfl⟩ | ⟨y, kd, rfl, ey, hne⟩
  · rcases hh with ⟨rfl, rfl⟩ | ⟨y, kd, rfl, ey⟩
    · rcases hl with ⟨rfl, rfl⟩ | ⟨z, kz, rfl, ez⟩
      · simp [Instr.sliceBounds]
      · have := run_bound (P := P) (w := w) (code := .sliceB) ez h0 h1
        simp [Instr.sliceBounds, this]
    · have e1 := run_bound (P := P) (w := w) (code := .sliceAcap) ey b1 h2
      rcases hl with ⟨rfl, rfl⟩ | ⟨z, kz, rfl, ez⟩
      · simp [Instr.sliceBounds, e1]
      · have := run_bound (P := P) (w := w) (y := h.toNat) (code := .sliceB) ez h0 (by omega)
        simp [Instr.sliceBounds, e1, this]
  · have e0 := run_bound (P := P) (w := w) (code := .slice3Acap) ey b2 h3
    rcases hh with ⟨rfl, rfl⟩ | ⟨z, kz, rfl, ez⟩
    · exact absurd rfl hne
    · have e1 := run_bound (P := P) (w := w) (y := m.toNat) (code := .slice3B) ez b1 (by omega)
      rcases hl with ⟨rfl, rfl⟩ | ⟨u, ku, rfl, eu⟩
      · simp [Instr.sliceBounds, e0, e1]
      · have := run_bound (P := P) (w := w) (y := h.toNat) (code := .slice3C) eu h0 (by omega)
        simp [Instr.sliceBounds, e0, e1, this]
theorem ok_slice (hck : tt.ck P = true) {o : Oper} {t : Nat} {x : Operand} {lo hi mx : Option Operand} {Q : Exit → Act → World → Prop} {ws : List Wr} (ho : o.op = .slice t x lo hi mx) (hI : Inv F0 w0 E σ a w) (h : (semSlice tt σ.nt o.dst t x lo hi mx).gives σ ws) : Good P F0 w0 E o a w (σ.aps ws) Q := by
  replace h := ev1_gives hI h
  obtain ⟨v, hv, h⟩ := h
  replace h := frz_gives hI hv h
  obtain ⟨τ, xs, cp, hr, hcap, h⟩ := h
  split at h
  · rename_i i hi'
    split at h
    · rename_i e he
      split at h
      · rename_i j hj
        cases hb : Nat.beq τ.sz j.n
        · rw [hb] at h; exact absurd h Rd.gives_fail
        · rw [hb] at h
          have hb := Nat.eq_of_beq_eq_true hb
          rw [cond_true] at h
          replace h := opt_gives hI h
          obtain ⟨l, h, hl⟩ := h
          replace h := opt_gives hI h
          obtain ⟨hh, h, hhi⟩ := h
          have hu := (TT.fact hck hi').slice he
          have fin' : ∀ {m : Int} {A c} {cq : Cap}, a.eval x = .slice A xs.length c → (Instr.sliceBounds true xs.length c (lo.map a.eval) (hi.map a.eval) (mx.map a.eval)).run P w = .ok (l.toNat, hh.toNat, m.toNat) w → l.toNat ≤ hh.toNat → hh.toNat ≤ xs.length → hh.toNat ≤ m.toNat →
              CapOk cq (.slice (if m.toNat = l.toNat then A else A.map (·.add (l.toNat * τ.sz))) (hh.toNat - l.toNat) (m.toNat - l.toNat)) → (fin σ.nt o.dst [] (.cv (.one (.sl τ ((xs.take hh.toNat).drop l.toNat) cq)))).gives σ ws → Good P F0 w0 E o a w (σ.aps ws) Q := by
            intro m A c cq ex hrun h1 h2 h3 hc h
            obtain ⟨A', c', ex', _, hcut⟩ := cut_rep hr h1 h2 h3
            rw [ex] at ex'
            simp only [Value.slice.injEq, true_and] at ex'
            obtain ⟨rfl, rfl⟩ := ex'
            refine good_one (v := .slice (if m.toNat = l.toNat then A else A.map (·.add (l.toNat * τ.sz))) (hh.toNat - l.toNat) (m.toNat - l.toNat)) ?_ hI h ⟨hcut, hc⟩
            simp [execOp, ho, ex, Instr.sliceAt, Instr.slice, run_underlying hu w, hrun, run_sizeOf (TT.fact hck hj) w, hb]
          obtain ⟨A, c, inner, ex, hlc, _⟩ := slice_parts hr
          split at h
          · obtain ⟨⟨g1, g2, g3⟩, h⟩ := Rd.gives_need.1 h
            refine fin' (m := (c : Int)) ex (run_bounds hl hhi (.inl ⟨rfl, rfl⟩) g1 g2 (by omega) (by omega)) (by omega) (by omega) (by omega) ?_ h
            split
            · rcases hhi with ⟨_, rfl⟩ | ⟨y, kd, e1, _⟩
              · rw [ex] at hcap
                have hcap : c = xs.length := hcap
                show _ = _
                rw [hcap]
              · cases e1
            · trivial
          · rename_i m'
            have hne : hi ≠ none := by
              rintro rfl
              exact absurd h Rd.gives_fail
            have hsome : hi.isSome = true := by cases hi <;> simp_all
            rw [hsome, cond_true] at h
            replace h := opt_gives hI h
            obtain ⟨m, h, hm⟩ := h
            obtain ⟨⟨g1, g2, g3, rfl⟩, h⟩ := Rd.gives_need.1 h
            rcases hm with ⟨e1, _⟩ | ⟨y, kd, e1, e2⟩
            · cases e1
            · refine fin' (m := m) ex (run_bounds hl hhi (.inr ⟨y, kd, e1, e2, hne⟩) g1 g2 (by omega) (by omega)) (by omega) (by omega) (by omega) ?_ h
              show _ = _
              rfl
      · exact absurd h Rd.gives_fail
    · exact absurd h Rd.gives_fail
  · exact absurd h Rd.gives_fail
end
end Go.Proofs.YtkhjemahenkdiaaGreatDoor.V
