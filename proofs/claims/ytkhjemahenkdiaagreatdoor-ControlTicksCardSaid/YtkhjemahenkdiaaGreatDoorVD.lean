/- What an operation reads and writes, without memory; each against the model. Part 2: comparing, fields, reading. -/
import Derived.Test.YtkhjemahenkdiaaGreatDoorVC
namespace Go.Proofs.YtkhjemahenkdiaaGreatDoor.V
open Go Go.RowKit
set_option linter.unusedVariables false
set_option linter.unusedSimpArgs false
section
variable {P : Program} {F0 : Nat → Prop} {w0 : World} {E : En} {σ : St} {a : Act} {w : World} {tt : TT}
theorem run_eqGuard {op : BinOp} {t : TypeId} {x y : Operand} {v u : Value} (h1 : ∀ p q, v = .agg p → u = .agg q → P.eqGuardType P.depth t = false) (h2 : v ≠ .nilIface) : (eqGuard op t x y v u).run P w = .ok () w := by
  have key : ∀ b : Bool, ((do
      if !b then return
      match v, u with
      | .nilIface, .nilIface =>
        if (x matches .const _) || (y matches .const _) then return
        if ← Op.eqGuardIn Op.maxDepth t v u then unsupported (.noEntry "binop/eql: two nil values of an interface type with methods, neither of them the literal nil")
      | .agg _, .agg _ =>
        if !(← program).eqGuardType (← program).depth t then return
        if ← Op.eqGuardIn Op.maxDepth t v u then unsupported (.noEntry "binop/eql: two nil values of an interface type with methods, in a part of a struct or an array")
      | _, _ => pure ()) : Sem Unit).run P w = .ok () w := by
    intro b
    cases b
    · rfl
    · cases v <;> cases u <;> first | rfl | (exact absurd rfl h2) | (simp [h1 _ _ rfl rfl])
  exact key _
def nilOf : AV → Option (List Prop × Bool)
  | .nils => some ([], true)
  | .sl _ _ .nil => some ([], true)
  | .sl _ _ .nn => some ([], false)
  | .sl _ _ .nl => some ([], true)
  | .sl _ xs _ => some ([0 < xs.length], false)
  | _ => none
theorem nilOf_ok {x : AV} {l : List Prop} {r : Bool} {v : Value} (h : nilOf x = some (l, r)) (hl : AllP l) (hv : RepA E w v x) : ∃ A n c, v = .slice A n c ∧ A.isNone = r := by
  unfold nilOf at h
  split at h
  · simp only [Option.some.injEq, Prod.mk.injEq] at h; obtain ⟨rfl, rfl⟩ := h
    exact ⟨none, 0, 0, hv, rfl⟩
  · simp only [Option.some.injEq, Prod.mk.injEq] at h; obtain ⟨rfl, rfl⟩ := h
    exact ⟨none, 0, 0, hv.2, rfl⟩
  · simp only [Option.some.injEq, Prod.mk.injEq] at h; obtain ⟨rfl, rfl⟩ := h
    obtain ⟨A, n, c, e⟩ := hv.2
    exact ⟨some A, n, c, e, rfl⟩
  · simp only [Option.some.injEq, Prod.mk.injEq] at h; obtain ⟨rfl, rfl⟩ := h
    obtain ⟨n, c, e⟩ := hv.2
    exact ⟨none, n, c, e, rfl⟩
  · simp only [Option.some.injEq, Prod.mk.injEq] at h; obtain ⟨rfl, rfl⟩ := h
    rename_i e xs c _ _ _
    obtain ⟨⟨A, n, i, e1, h1, h2, h3⟩, _⟩ := hv
    have hp := hl.1
    have hi : 0 < i.length := by
      rw [h2.len (s := e.sz) (fun x c h => h.len)]
      exact Nat.mul_pos hp e.sz_pos
    obtain ⟨b, o, rfl, _⟩ := h3 0 i[0] (List.getElem?_eq_getElem hi)
    exact ⟨_, _, _, List.singleton_inj.1 e1, rfl⟩
  · cases h
def flip (op : BinOp) (r : Bool) : Option Bool :=
  match op with
  | .eql => some r
  | .neq => some (!r)
  | _ => none
def CV.isAgg : CV → Bool
  | .agg _ => true
  | .one _ => false
def semCmp (tt : TT) (nt : Nat) (dst : Option Nat) (op : BinOp) (t : Nat) (cx cy : CV) : Rd :=
  match tt.at t with
  | none => .fail
  | some i => match i.eq with
    | some ks => match (i.agg == cx.isAgg) && (i.agg == cy.isAgg), eqs ks cx.cells cy.cells with
      | true, some r => match flip op r with
        | some q => fin nt dst [] (.cv (.one (.bool q)))
        | none => .fail
      | _, _ => .fail
    | none => match i.elem, cx, cy with
      | some _, .one x, .one .nils => match nilOf x with
        | some (l, r) => match flip op r with
          | some q => needs l (fin nt dst [] (.cv (.one (.bool q))))
          | none => .fail
        | none => .fail
      | _, _, _ => .fail
def strEq (a b : List Int) : Bool := (strOf a).toList == (strOf b).toList
def strCmp (op : BinOp) (u v : AV) : Option Bool := match op, u, v with
  | .eql, .str a, .str b => some (strEq a b)
  | .neq, .str a, .str b => some (!strEq a b)
  | _, _, _ => none
def semBin (tt : TT) (nt : Nat) (dst : Option Nat) (op : BinOp) (t : Nat) (x y : Operand) : Rd :=
  evc x fun cx => evc y fun cy => match cx, cy with
    | .one u, .one v => match bin op u v with
      | some (l, r) => needs l (fin nt dst [] (.cv (.one r)))
      | none => match strCmp op u v with
        | some r => fin nt dst [] (.cv (.one (.bool r)))
        | none => semCmp tt nt dst op t (.one u) (.one v)
    | cx, cy => semCmp tt nt dst op t cx cy
theorem eq1_int {k : Option IntKind} {x y : AV} {r : Bool} (h : eq1 k x y = some r) : x ≠ .bad ∧ y ≠ .bad := by
  unfold eq1 at h
  split at h <;> simp_all
theorem binOp_cmp {op : BinOp} {t : TypeId} {v u : Value} {r q : Bool} (hf : flip op r = some q) (hv : (∃ p, v = .agg p) ∨ (∃ b, v = .bool b) ∨ (∃ A n c, v = .slice A n c)) (he : (Op.equal t v u).run P w = .ok r w) : (binOp op t v u).run P w = .ok (.bool q) w := by
  unfold flip at hf
  split at hf
  · obtain rfl := Option.some.inj hf
    rcases hv with ⟨p, rfl⟩ | ⟨p, rfl⟩ | ⟨A, n, c, rfl⟩ <;> simp [binOp, he]
  · obtain rfl := Option.some.inj hf
    rcases hv with ⟨p, rfl⟩ | ⟨p, rfl⟩ | ⟨A, n, c, rfl⟩ <;> simp [binOp, he]
  · cases hf
theorem Shape_of {t : Nat} {i : TI} (hT : TF P t i) {v : Value} {c : CV} (hc : RepC E w v c) (hs : i.agg = c.isAgg) : Shape P t v v.cells.toList := by
  obtain ⟨f, d, z, h1, h2, h3, h4, h5, h6, h7, h8, h9, _⟩ := hT.ex
  intro dd hdd
  rw [h2] at hdd
  cases hdd
  cases c with
  | agg l =>
    obtain ⟨cs, rfl, _⟩ := hc
    exact ⟨fun _ => rfl, fun h => by rw [h9, hs] at h; simp [CV.isAgg] at h⟩
  | one x =>
    have h1 := RepA.one hc
    refine ⟨fun h => by rw [h9, hs] at h; simp [CV.isAgg] at h, fun _ => ?_⟩
    cases v <;> simp_all [Value.oneCell', Value.cells]
theorem eq1_val {k : Option IntKind} {x y : AV} {r : Bool} {op : BinOp} {q : Bool} {v : Value} (h : eq1 k x y = some r) (hf : flip op r = some q) (hb : bin op x y = none) (hv : RepA E w v x) : ∃ a, v = .bool a := by
  unfold eq1 at h
  split at h
  · split at h
    · rename_i hk
      obtain ⟨rfl, rfl⟩ := hk
      unfold flip at hf
      split at hf <;> simp_all [bin]
    · cases h
  · exact ⟨_, hv⟩
  · cases h
theorem ok_cmp (hck : tt.ck P = true) {o : Oper} {op : BinOp} {t ty : Nat} {x y : Operand} {Q : Exit → Act → World → Prop} {ws : List Wr} {cx cy : CV} (ho : o.op = .binOp op t x y ty) (hI : Inv F0 w0 E σ a w)
    (hx : RepC E w (a.eval x) cx) (hy : RepC E w (a.eval y) cy) (hb : ∀ u v, cx = .one u → cy = .one v → bin op u v = none) (h : (semCmp tt σ.nt o.dst op t cx cy).gives σ ws) : Good P F0 w0 E o a w (σ.aps ws) Q := by
  unfold semCmp at h
  split at h
  · exact absurd h Rd.gives_fail
  · rename_i i hi
    have hT := TT.fact hck hi
    obtain ⟨f, d, z, e1, e2, e3, e4, e5, e6, e7, e8, e9, e10, e11, e12⟩ := hT.ex
    split at h
    · rename_i ks hks
      obtain ⟨hq, hg⟩ := e12 ks hks
      split at h
      · rename_i r hsh he
        split at h
        · rename_i q hf
          have hs : i.agg = cx.isAgg ∧ i.agg = cy.isAgg := by simpa using hsh
          have heq := run_eqIn 9 9991 hq (Shape_of hT hx hs.1) (Shape_of hT hy hs.2) hx.cells hy.cells he
          have hv : (∃ p, a.eval x = .agg p) ∨ (∃ b, a.eval x = .bool b) ∨ (∃ A n c, a.eval x = .slice A n c) := by
            cases cx with
            | agg l => obtain ⟨cs, e, _⟩ := hx; exact .inl ⟨cs, e⟩
            | one u =>
              cases cy with
              | agg m => rw [hs.1] at hs; simp [CV.isAgg] at hs
              | one v =>
                have hks1 : ∃ k, ks = [k] := by
                  have := (eqs_len he).1
                  simp [CV.cells] at this
                  match ks, this with
                  | [k], _ => exact ⟨k, rfl⟩
                obtain ⟨k, rfl⟩ := hks1
                obtain ⟨x', l', y', m', a', b', h1, h2, h3, h4, h5⟩ := eqs_cons he
                simp only [CV.cells, List.cons.injEq] at h1 h2
                obtain ⟨rfl, rfl⟩ := h1
                obtain ⟨rfl, rfl⟩ := h2
                have h6 : b' = true := by simpa [eqs] using h4.symm
                subst h6
                rw [Bool.and_true] at h5
                subst h5
                obtain ⟨p, e⟩ := eq1_val h3 hf (hb _ _ rfl rfl) hx
                exact .inr (.inl ⟨p, e⟩)
          refine good_pure (v := .bool q) ?_ hI (show RepT E w _ (.cv (.one (.bool q))) from rfl) h
          have := binOp_cmp (P := P) (w := w) (t := t) hf hv heq
          have hni : a.eval x ≠ .nilIface := by rcases hv with ⟨p, e⟩ | ⟨p, e⟩ | ⟨A, n, c, e⟩ <;> rw [e] <;> simp
          simp [execOp, ho, run_eqGuard (P := P) (w := w) (op := op) (t := t) (x := x) (y := y) (v := a.eval x) (u := a.eval y) (fun _ _ _ _ => hg) hni, this]
        · exact absurd h Rd.gives_fail
      · exact absurd h Rd.gives_fail
    · split at h
      · rename_i e he hx' hy'
        split at h
        · rename_i l r hn
          split at h
          · rename_i q hf
            obtain ⟨hl, h⟩ := needs_gives h
            obtain ⟨A, n, c, ex, er⟩ := nilOf_ok hn hl hx
            have ey : a.eval y = .slice none 0 0 := hy
            have hd : ∃ e', d = .slice e' := by
              unfold dOk at e10
              split at e10 <;> simp_all
            obtain ⟨e', rfl⟩ := hd
            have heq : (Op.equal t (a.eval x) (a.eval y)).run P w = .ok r w := by
              rw [ex, ey]
              subst er
              have hm : ∃ m, Op.maxDepth = m + 1 := ⟨9999, rfl⟩
              obtain ⟨m, hm⟩ := hm
              unfold Op.equal
              rw [hm]
              cases A <;> simp [Op.equalIn, run_underlying e2 w]
            refine good_pure (v := .bool q) ?_ hI (show RepT E w _ (.cv (.one (.bool q))) from rfl) h
            have := binOp_cmp (P := P) (w := w) (t := t) hf (.inr (.inr ⟨A, n, c, ex⟩)) heq
            simp [execOp, ho, run_eqGuard (P := P) (w := w) (op := op) (t := t) (x := x) (y := y) (v := a.eval x) (u := a.eval y) (by rw [ex]; simp) (by rw [ex]; simp), this]
          · exact absurd h Rd.gives_fail
        · exact absurd h Rd.gives_fail
      · exact absurd h Rd.gives_fail
theorem ok_bin (hck : tt.ck P = true) {o : Oper} {op : BinOp} {t ty : Nat} {x y : Operand} {Q : Exit → Act → World → Prop} {ws : List Wr} (ho : o.op = .binOp op t x y ty) (hI : Inv F0 w0 E σ a w)
    (h : (semBin tt σ.nt o.dst op t x y).gives σ ws) : Good P F0 w0 E o a w (σ.aps ws) Q := by
  obtain ⟨cx, hx, h⟩ := evc_gives hI h
  obtain ⟨cy, hy, h⟩ := evc_gives hI h
  split at h
  · rename_i u v
    split at h
    · rename_i l r hb
      obtain ⟨hl, h⟩ := needs_gives h
      obtain ⟨z, hz, hr, k, p, k', q, e1, e2⟩ := bin_ok (P := P) (w := w) (t := t) hb hl hx hy
      refine good_pure (v := z) ?_ hI (show RepT E w _ (.cv (.one r)) from hr) h
      simp [execOp, ho, run_eqGuard (P := P) (w := w) (op := op) (t := t) (x := x) (y := y) (v := a.eval x) (u := a.eval y) (by rw [e1]; simp) (by rw [e1]; simp), hz]
    · rename_i hb
      split at h
      · rename_i r hs
        unfold strCmp at hs
        split at hs
        · rename_i p q
          obtain rfl := Option.some.inj hs
          have ex : a.eval x = .string (strOf p) := hx
          have ey : a.eval y = .string (strOf q) := hy
          refine good_pure (v := .bool (strEq p q)) ?_ hI (show RepT E w _ (.cv (.one (.bool (strEq p q)))) from rfl) h
          simp [execOp, ho, run_eqGuard (P := P) (w := w) (op := .eql) (t := t) (x := x) (y := y) (v := .string (strOf p)) (u := .string (strOf q)) (by simp) (by simp), ex, ey, binOp, Op.stringOp, strEq]
        · rename_i p q
          obtain rfl := Option.some.inj hs
          have ex : a.eval x = .string (strOf p) := hx
          have ey : a.eval y = .string (strOf q) := hy
          refine good_pure (v := .bool (!strEq p q)) ?_ hI (show RepT E w _ (.cv (.one (.bool (!strEq p q)))) from rfl) h
          simp [execOp, ho, run_eqGuard (P := P) (w := w) (op := .neq) (t := t) (x := x) (y := y) (v := .string (strOf p)) (u := .string (strOf q)) (by simp) (by simp), ex, ey, binOp, Op.stringOp, strEq]
        · cases hs
      · exact ok_cmp hck ho hI hx hy (fun u' v' e1 e2 => by cases e1; cases e2; exact hb) h
  · rename_i hne
    exact ok_cmp hck ho hI hx hy (fun u' v' e1 e2 => absurd e2 (hne _ _ e1)) h
end
end Go.Proofs.YtkhjemahenkdiaaGreatDoor.V
