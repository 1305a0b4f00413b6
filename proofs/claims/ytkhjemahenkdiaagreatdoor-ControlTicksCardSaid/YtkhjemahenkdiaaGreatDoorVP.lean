/- Regions whose order is left open. -/
import Derived.Test.YtkhjemahenkdiaaGreatDoorVO
namespace Go.Proofs.YtkhjemahenkdiaaGreatDoor.V
open Go Go.RowKit
set_option linter.unusedVariables false
set_option linter.unusedSimpArgs false
inductive PV where
  | tv (x : TV)
  | av (x : AV)
  | sl (x : Sl)
def St.get (σ : St) : Pl → PV
  | .tmp t => .tv (lk σ.tmps t)
  | .cell k o => .av (ng (hg σ.heap k).2 o)
  | .slot k => .sl (hg σ.heap k).1
def Wr.hits : Wr → Pl → Bool
  | .tmp t _, .tmp u => Nat.beq t u
  | .cell k o _, .cell k' o' => Nat.beq k k' && Nat.beq o o'
  | .slot k _ _, .cell k' _ => Nat.beq k k'
  | .slot k _ _, .slot k' => Nat.beq k k'
  | _, _ => false
theorem beq_ne {a b : Nat} (h : Nat.beq a b = false) : a ≠ b := by
  rintro rfl
  simp at h
theorem ap_other {σ : St} {w : Wr} {p : Pl} (h : w.hits p = false) : (σ.ap w).get p = σ.get p := by
  cases w with
  | tmp t v =>
    cases p with
    | tmp u =>
      have hne := beq_ne h
      simp only [St.get, St.ap, lk_pt, if_neg hne]
    | cell k o => rfl
    | slot k => rfl
  | cell k o v =>
    cases p with
    | tmp u => rfl
    | cell k' o' =>
      simp only [Wr.hits, Bool.and_eq_false_iff] at h
      simp only [St.get, St.ap]
      by_cases hk : k = k'
      · subst hk
        by_cases hl : k < σ.heap.length
        · rw [hg_hs _ _ _ _ hl, if_pos rfl]
          have ho : o ≠ o' := by
            rcases h with h | h
            · simp at h
            · exact beq_ne h
          congr 1
          rw [ng_eq, ns_eq, List.getElem?_set_ne ho, ng_eq]
        · rw [hs_eq, List.set_eq_of_length_le (by omega)]
      · rw [hg_hs' _ _ _ _ hk]
    | slot k' =>
      simp only [St.get, St.ap]
      by_cases hk : k = k'
      · subst hk
        by_cases hl : k < σ.heap.length
        · rw [hg_hs _ _ _ _ hl, if_pos rfl]
        · rw [hs_eq, List.set_eq_of_length_le (by omega)]
      · rw [hg_hs' _ _ _ _ hk]
  | slot k s c =>
    cases p with
    | tmp u => rfl
    | cell k' o' =>
      have hne := beq_ne h
      simp only [St.get, St.ap, hg_hs' _ _ _ _ hne]
    | slot k' =>
      have hne := beq_ne h
      simp only [St.get, St.ap, hg_hs' _ _ _ _ hne]
def noHit (ws : List Wr) (ps : List Pl) : Bool := ws.all fun w => ps.all fun p => !w.hits p
theorem aps_other : ∀ {ws : List Wr} {σ : St} {p : Pl}, (∀ w ∈ ws, w.hits p = false) → (σ.aps ws).get p = σ.get p
  | [], _, _, _ => rfl
  | w :: r, σ, p, h => by
    rw [St.aps, aps_other (fun v hv => h v (List.mem_cons_of_mem _ hv)), ap_other (h w List.mem_cons_self)]
theorem noHit_ok {ws : List Wr} {ps : List Pl} (h : noHit ws ps = true) {σ : St} : ∀ p ∈ ps, (σ.aps ws).get p = σ.get p := by
  intro p hp
  refine aps_other fun w hw => ?_
  have h1 := List.all_eq_true.1 (List.all_eq_true.1 h w hw) p hp
  simpa using h1
theorem run_congr {σ τ : St} : ∀ {r : Rd} {x : Res}, r.run σ = some x → (∀ p ∈ x.rs, τ.get p = σ.get p) → r.run τ = some x
  | .fail, x, h, _ => by cases h
  | .done ws, x, h, _ => h
  | .tmp t k, x, h, hp => by
    simp only [Rd.run] at h ⊢
    split at h
    · rename_i y hy
      obtain rfl := Option.some.inj h
      have h1 := hp (.tmp t) List.mem_cons_self
      simp only [St.get, PV.tv.injEq] at h1
      rw [h1, run_congr hy (fun p hp' => hp p (List.mem_cons_of_mem _ hp'))]
    · cases h
  | .cell k o c, x, h, hp => by
    simp only [Rd.run] at h ⊢
    split at h
    · rename_i y hy
      obtain rfl := Option.some.inj h
      have h1 := hp (.cell k o) List.mem_cons_self
      simp only [St.get, PV.av.injEq] at h1
      rw [h1, run_congr hy (fun p hp' => hp p (List.mem_cons_of_mem _ hp'))]
    · cases h
  | .slot k c, x, h, hp => by
    simp only [Rd.run] at h ⊢
    split at h
    · rename_i y hy
      obtain rfl := Option.some.inj h
      have h1 := hp (.slot k) List.mem_cons_self
      simp only [St.get, PV.sl.injEq] at h1
      rw [h1, run_congr hy (fun p hp' => hp p (List.mem_cons_of_mem _ hp'))]
    · cases h
  | .need q k, x, h, hp => by
    simp only [Rd.run] at h ⊢
    split at h
    · rename_i y hy
      obtain rfl := Option.some.inj h
      rw [run_congr hy hp]
    · cases h
theorem opRes_congr {V : Env} {nt hn : Nat} {ops : List Oper} {hs : List (Nat × Hint)} {i : Nat} {σ τ : St} {x : Res} (h : opRes V nt hn ops hs i σ = some x) (hp : ∀ p ∈ x.rs, τ.get p = σ.get p) : opRes V nt hn ops hs i τ = some x := by
  unfold opRes at h ⊢
  split at h
  · cases h
  · rename_i o ho
    have hgd : ∀ b ps, gd ops σ o = some (b, ps) → (∀ p ∈ ps, τ.get p = σ.get p) → gd ops τ o = some (b, ps) := by
      intro b ps hg hps
      unfold gd at hg ⊢
      split at hg
      · exact hg
      · rename_i j want
        split at hg
        · rename_i p hpp
          split at hg
          · rename_i t ht
            split at hg
            · rename_i hl
              simp only [Option.some.injEq, Prod.mk.injEq] at hg
              obtain ⟨rfl, rfl⟩ := hg
              have h1 := hps (.tmp t) List.mem_cons_self
              simp only [St.get, PV.tv.injEq] at h1
              rw [h1, hl]
            · rename_i hl
              simp only [Option.some.injEq, Prod.mk.injEq] at hg
              obtain ⟨rfl, rfl⟩ := hg
              have h1 := hps (.tmp t) List.mem_cons_self
              simp only [St.get, PV.tv.injEq] at h1
              rw [h1, hl]
            · rename_i hl
              simp only [Option.some.injEq, Prod.mk.injEq] at hg
              obtain ⟨rfl, rfl⟩ := hg
              have h1 := hps (.tmp t) List.mem_cons_self
              simp only [St.get, PV.tv.injEq] at h1
              rw [h1, hl]
            · cases hg
          · cases hg
        · cases hg
    split at h
    · cases h
    · rename_i ps hg
      split at h
      · rename_i y hy
        obtain rfl := Option.some.inj h
        have hrs : (fixR (hlk hs i).bv y).rs = y.rs := by unfold fixR; split <;> rfl
        rw [hgd _ _ hg (fun p hp' => hp p (List.mem_append_left _ hp')), run_congr hy (fun p hp' => hp p (List.mem_append_right _ hp'))]
      · cases h
    · rename_i ps hg
      have : x.rs = ps := by
        split at h
        · obtain rfl := Option.some.inj h; rfl
        · rename_i t _
          cases hb : Nat.blt t nt
          · rw [hb] at h; cases h
          · rw [hb, cond_true] at h
            obtain rfl := Option.some.inj h; rfl
      rw [hgd _ _ hg (fun p hp' => hp p (by rw [this]; exact hp'))]
      exact h
/-- States that read alike. -/
structure Eqv (σ τ : St) : Prop where
  nt : τ.nt = σ.nt
  tmps : ∀ t, lk τ.tmps t = lk σ.tmps t
  heap : τ.heap = σ.heap
theorem Eqv.get {σ τ : St} (h : Eqv σ τ) (p : Pl) : τ.get p = σ.get p := by
  cases p <;> simp only [St.get, h.tmps, h.heap]
theorem Eqv.refl (σ : St) : Eqv σ σ := ⟨rfl, fun _ => rfl, rfl⟩
theorem Eqv.trans {a b c : St} (h : Eqv a b) (k : Eqv b c) : Eqv a c := ⟨k.nt.trans h.nt, fun t => (k.tmps t).trans (h.tmps t), k.heap.trans h.heap⟩
theorem Eqv.ap {σ τ : St} (h : Eqv σ τ) (w : Wr) : Eqv (σ.ap w) (τ.ap w) := by
  cases w with
  | tmp t v => exact ⟨h.nt, fun u => by simp only [St.ap, lk_pt, h.tmps], h.heap⟩
  | cell k o v => exact ⟨h.nt, h.tmps, by simp only [St.ap, h.heap]⟩
  | slot k s c => exact ⟨h.nt, h.tmps, by simp only [St.ap, h.heap]⟩
theorem Eqv.aps {σ τ : St} : ∀ (ws : List Wr), Eqv σ τ → Eqv (σ.aps ws) (τ.aps ws)
  | [], h => h
  | w :: r, h => Eqv.aps r (h.ap w)
def Wr.apart : Wr → Wr → Bool
  | .tmp t _, .tmp u _ => !Nat.beq t u
  | .tmp _ _, _ => true
  | _, .tmp _ _ => true
  | .cell k o _, .cell k' o' _ => !Nat.beq k k' || !Nat.beq o o'
  | .cell k _ _, .slot k' _ _ => !Nat.beq k k'
  | .slot k _ _, .cell k' _ _ => !Nat.beq k k'
  | .slot k _ _, .slot k' _ _ => !Nat.beq k k'
theorem hs_comm (h : Heap) {j k : Nat} (hjk : j ≠ k) (s t : Sl × List AV) : hs (hs h j s) k t = hs (hs h k t) j s := by
  rw [hs_eq, hs_eq, hs_eq, hs_eq, List.set_comm _ _ hjk]
theorem ap_comm {σ : St} {u v : Wr} (h : u.apart v = true) : Eqv ((σ.ap u).ap v) ((σ.ap v).ap u) := by
  cases u with
  | tmp t x =>
    cases v with
    | tmp t' y =>
      have hne : t ≠ t' := beq_ne (by simpa [Wr.apart] using h)
      refine ⟨rfl, fun q => ?_, rfl⟩
      simp only [St.ap, lk_pt]
      by_cases h1 : t = q
      · subst h1
        rw [if_pos rfl, if_neg (Ne.symm hne), if_pos rfl]
      · rw [if_neg h1]
        simp only [if_neg h1]
    | cell k o y => exact ⟨rfl, fun _ => rfl, rfl⟩
    | slot k s c => exact ⟨rfl, fun _ => rfl, rfl⟩
  | cell k o x =>
    cases v with
    | tmp t' y => exact ⟨rfl, fun _ => rfl, rfl⟩
    | cell k' o' y =>
      refine ⟨rfl, fun _ => rfl, ?_⟩
      simp only [St.ap]
      by_cases hk : k = k'
      · subst hk
        have ho : o ≠ o' := beq_ne (by simpa [Wr.apart] using h)
        by_cases hl : k < σ.heap.length
        · simp only [hg_hs _ _ _ _ hl, if_true, hs_hs, ns_eq]
          rw [List.set_comm _ _ ho]
        · have e : ∀ s, hs σ.heap k s = σ.heap := fun s => by rw [hs_eq, List.set_eq_of_length_le (by omega)]
          simp only [e]
      · rw [hg_hs' _ _ _ _ hk, hg_hs' _ _ _ _ (Ne.symm hk), hs_comm _ hk]
    | slot k' s c =>
      have hne : k ≠ k' := beq_ne (by simpa [Wr.apart] using h)
      refine ⟨rfl, fun _ => rfl, ?_⟩
      simp only [St.ap]
      rw [hg_hs' _ _ _ _ (Ne.symm hne), hs_comm _ hne]
  | slot k s c =>
    cases v with
    | tmp t' y => exact ⟨rfl, fun _ => rfl, rfl⟩
    | cell k' o' y =>
      have hne : k ≠ k' := beq_ne (by simpa [Wr.apart] using h)
      refine ⟨rfl, fun _ => rfl, ?_⟩
      simp only [St.ap]
      rw [hg_hs' _ _ _ _ hne, hs_comm _ hne]
    | slot k' s' c' =>
      have hne : k ≠ k' := beq_ne (by simpa [Wr.apart] using h)
      refine ⟨rfl, fun _ => rfl, ?_⟩
      simp only [St.ap]
      rw [hs_comm _ hne]
theorem ap_aps_comm {u : Wr} : ∀ {vs : List Wr} {σ : St}, (∀ v ∈ vs, u.apart v = true) → Eqv ((σ.ap u).aps vs) ((σ.aps vs).ap u)
  | [], σ, _ => Eqv.refl _
  | v :: r, σ, h => by
    refine Eqv.trans (b := ((σ.ap v).ap u).aps r) ?_ ?_
    · exact Eqv.aps r (ap_comm (h v List.mem_cons_self))
    · exact ap_aps_comm (fun x hx => h x (List.mem_cons_of_mem _ hx))
theorem aps_comm : ∀ {us vs : List Wr} {σ : St}, (∀ u ∈ us, ∀ v ∈ vs, u.apart v = true) → Eqv ((σ.aps us).aps vs) ((σ.aps vs).aps us)
  | [], vs, σ, _ => Eqv.refl _
  | u :: us, vs, σ, h => by
    refine Eqv.trans (b := ((σ.ap u).aps vs).aps us) ?_ ?_
    · exact aps_comm (fun x hx => h x (List.mem_cons_of_mem _ hx))
    · exact Eqv.aps us (ap_aps_comm (h u List.mem_cons_self))
/-- Two operations that may stand in either order. -/
def indep (x y : Res) : Bool := noHit x.ws y.rs && noHit y.ws x.rs && x.ws.all fun u => y.ws.all fun v => u.apart v
section
variable {P : Program} {V : Env} {F0 : Nat → Prop} {w0 : World} {E : En} {σ τ : St} {a : Act} {w : World}
/-- The operations of a list, one behind the other, end in a state that reads like τ. -/
def Chain (V : Env) (nt hn : Nat) (ops : List Oper) (hs : List (Nat × Hint)) (τ : St) : List (Nat × Res) → St → Prop
  | [], σ => Eqv τ σ
  | (i, x) :: r, σ => opRes V nt hn ops hs i σ = some x ∧ AllP x.cs ∧ Chain V nt hn ops hs τ r (σ.aps x.ws)
theorem Eqv.symm {a b : St} (h : Eqv a b) : Eqv b a := ⟨h.nt.symm, fun t => (h.tmps t).symm, h.heap.symm⟩
theorem chain_congr {nt hn : Nat} {ops : List Oper} {hs : List (Nat × Hint)} : ∀ {l : List (Nat × Res)} {σ σ' : St}, Eqv σ σ' → Chain V nt hn ops hs τ l σ → Chain V nt hn ops hs τ l σ'
  | [], σ, σ', he, h => Eqv.trans h he
  | (i, x) :: r, σ, σ', he, h => ⟨opRes_congr h.1 (fun p _ => he.get p), h.2.1, chain_congr (he.aps x.ws) h.2.2⟩
theorem pull {nt hn : Nat} {ops : List Oper} {hs : List (Nat × Hint)} {i : Nat} {x : Res} {post : List (Nat × Res)} : ∀ {pre : List (Nat × Res)} {σ : St}, Chain V nt hn ops hs τ (pre ++ (i, x) :: post) σ → (∀ q ∈ pre, indep x q.2 = true) → opRes V nt hn ops hs i σ = some x ∧ AllP x.cs ∧ Chain V nt hn ops hs τ (pre ++ post) (σ.aps x.ws)
  | [], σ, h, _ => h
  | (j, y) :: pre, σ, h, hi => by
    obtain ⟨h1, h2, h3⟩ := h
    obtain ⟨k1, k2, k3⟩ := pull h3 (fun q hq => hi q (List.mem_cons_of_mem _ hq))
    have hxy := hi (j, y) List.mem_cons_self
    simp only [indep, Bool.and_eq_true] at hxy
    have hcomm : ∀ u ∈ y.ws, ∀ v ∈ x.ws, u.apart v = true := by
      intro u hu v hv
      have := List.all_eq_true.1 (List.all_eq_true.1 hxy.2 v hv) u hu
      cases u <;> cases v <;> simp only [Wr.apart] at this ⊢ <;> try rfl
      · rename_i t _ t' _
        cases e : Nat.beq t t'
        · rfl
        · rw [Nat.eq_of_beq_eq_true e] at this; simp at this
      · rename_i k o _ k' o' _
        cases e : Nat.beq k k'
        · rfl
        · cases e' : Nat.beq o o'
          · rfl
          · rw [Nat.eq_of_beq_eq_true e, Nat.eq_of_beq_eq_true e'] at this; simp at this
      all_goals
        rename_i k _ _ k' _ _
        cases e : Nat.beq k k'
        · rfl
        · rw [Nat.eq_of_beq_eq_true e] at this; simp at this
    refine ⟨opRes_congr k1 (fun p hp => ?_), k2, opRes_congr h1 (fun p hp => noHit_ok hxy.1.1 p hp), h2, chain_congr ?_ k3⟩
    · exact (noHit_ok hxy.1.2 p hp).symm
    · exact aps_comm hcomm
theorem inv_eqv (h : Inv F0 w0 E σ a w) (he : Eqv τ σ) : Inv F0 w0 E τ a w := ⟨h.nt.trans he.nt, h.df, fun t => by rw [← he.tmps]; exact h.tmp t, by rw [← he.heap]; exact h.heap⟩
def deps (o : Oper) : List Nat := (o.after.toList.filter fun e => Region.binds .any e).map (·.on)
def mem (j : Nat) : List Nat → Bool
  | [] => false
  | x :: r => cond (Nat.beq x j) true (mem j r)
theorem mem_ok {j : Nat} : ∀ {l : List Nat}, mem j l = true → j ∈ l
  | [], h => by cases h
  | x :: r, h => by
    unfold mem at h
    cases e : Nat.beq x j
    · rw [e] at h; exact List.mem_cons_of_mem _ (mem_ok h)
    · rw [Nat.eq_of_beq_eq_true e]; exact List.mem_cons_self
inductive Rch (ops : List Oper) : Nat → Nat → Prop
  | one {i j : Nat} {o : Oper} (h : ops[i]? = some o) (hj : j ∈ deps o) : Rch ops i j
  | more {i d j : Nat} {o : Oper} (h : ops[i]? = some o) (hd : d ∈ deps o) (r : Rch ops d j) : Rch ops i j
def nthD : List Nat → Nat → Nat
  | [], _ => 0
  | x :: _, 0 => x
  | _ :: r, k + 1 => nthD r k
theorem nthD_app : ∀ {l m : List Nat} {k : Nat}, k < l.length → nthD (l ++ m) k = nthD l k
  | [], _, k, h => by simp at h
  | _ :: _, _, 0, _ => rfl
  | _ :: l, m, k + 1, h => nthD_app (l := l) (by simpa using h)
theorem nthD_len : ∀ {l : List Nat} {x : Nat}, nthD (l ++ [x]) l.length = x
  | [], _ => rfl
  | _ :: l, x => nthD_len (l := l)
theorem nthD_out : ∀ {l : List Nat} {k : Nat}, l.length ≤ k → nthD l k = 0
  | [], _, _ => rfl
  | _ :: l, 0, h => by simp at h
  | _ :: l, k + 1, h => nthD_out (l := l) (by simpa using h)
def mk1 (ms : List Nat) : List Nat → Nat
  | [] => 0
  | d :: r => Nat.lor (Nat.lor (Nat.pow 2 d) (nthD ms d)) (mk1 ms r)
/-- Of each operation, all that stand before it in every order. -/
def masks : List Oper → List Nat → List Nat
  | [], acc => acc
  | o :: r, acc => masks r (acc ++ [mk1 acc (deps o)])
theorem mk1_ok {ops : List Oper} {ms : List Nat} {o : Oper} {i : Nat} (ho : ops[i]? = some o) (hms : ∀ k j, (nthD ms k).testBit j = true → Rch ops k j) : ∀ {l : List Nat}, (∀ d ∈ l, d ∈ deps o) → ∀ j, (mk1 ms l).testBit j = true → Rch ops i j
  | [], _, j, h => by simp [mk1] at h
  | d :: r, hl, j, h => by
    have h' : ((2 ^ d ||| nthD ms d) ||| mk1 ms r).testBit j = true := h
    rw [Nat.testBit_or, Nat.testBit_or] at h'
    simp only [Bool.or_eq_true] at h'
    rcases h' with (h' | h') | h'
    · rw [Nat.testBit_two_pow] at h'
      obtain rfl : d = j := by simpa using h'
      exact .one ho (hl _ List.mem_cons_self)
    · exact .more ho (hl _ List.mem_cons_self) (hms _ _ h')
    · exact mk1_ok ho hms (fun d' h => hl d' (List.mem_cons_of_mem _ h)) j h'
theorem masks_ok {ops : List Oper} : ∀ {r pre : List Oper} {acc : List Nat}, ops = pre ++ r → acc.length = pre.length → (∀ k j, (nthD acc k).testBit j = true → Rch ops k j) → ∀ k j, (nthD (masks r acc) k).testBit j = true → Rch ops k j
  | [], pre, acc, _, _, h => h
  | o :: r, pre, acc, he, hl, h => by
    refine masks_ok (r := r) (pre := pre ++ [o]) (by simp [he]) (by simp [hl]) (fun k j hk => ?_)
    rcases Nat.lt_trichotomy k acc.length with hlt | rfl | hgt
    · rw [nthD_app hlt] at hk; exact h k j hk
    · rw [nthD_len] at hk
      exact mk1_ok (o := o) (by rw [he, hl]; simp) h (fun _ h => h) j hk
    · rw [nthD_out (by simp; omega)] at hk
      simp at hk
def pairOk (ms : List Nat) (p q : Nat × Res) : Bool := Nat.testBit (nthD ms q.1) p.1 || indep q.2 p.2
def pairsM (ms : List Nat) : List (Nat × Res) → Bool
  | [] => true
  | p :: r => (r.all fun q => pairOk ms p q) && pairsM ms r
def pairsOk (ops : List Oper) (l : List (Nat × Res)) : Bool := pairsM (masks ops []) l
theorem pairsOk_ok {ms : List Nat} : ∀ {l : List (Nat × Res)}, pairsM ms l = true → l.Pairwise fun p q => pairOk ms p q = true
  | [], _ => .nil
  | p :: r, h => by
    simp only [pairsM, Bool.and_eq_true] at h
    exact .cons (fun q hq => List.all_eq_true.1 h.1 q hq) (pairsOk_ok h.2)
theorem rch_done {ops : List Oper} {D : Nat → Prop} (hcl : ∀ i o, ops[i]? = some o → D i → ∀ d ∈ deps o, D d) {i j : Nat} (h : Rch ops i j) : ∀ {o : Oper}, ops[i]? = some o → (∀ d ∈ deps o, D d) → D j := by
  induction h with
  | one h hj => intro o ho hd; rw [ho] at h; obtain rfl := Option.some.inj h; exact hd _ hj
  | more h hd' r ih =>
    intro o ho hd
    rw [ho] at h
    obtain rfl := Option.some.inj h
    rename_i d _ _
    cases r with
    | one h2 hj2 => exact hcl _ _ h2 (hd _ hd') _ hj2
    | more h2 hd2 r2 => exact ih h2 (hcl _ _ h2 (hd _ hd'))
def depsOk : List Oper → Nat → Bool
  | [], _ => true
  | o :: r, i => ((deps o).all fun j => Nat.blt j i) && depsOk r (i + 1)
theorem depsOk_ok : ∀ {ops : List Oper} {k i : Nat} {o : Oper}, depsOk ops k = true → ops[i]? = some o → ∀ j ∈ deps o, j < k + i
  | [], k, i, o, _, h => by simp at h
  | o' :: r, k, 0, o, h, ho => by
    simp only [depsOk, Bool.and_eq_true] at h
    simp at ho
    subst ho
    intro j hj
    exact Nat.le_of_ble_eq_true (List.all_eq_true.1 h.1 j hj)
  | o' :: r, k, i + 1, o, h, ho => by
    simp only [depsOk, Bool.and_eq_true] at h
    intro j hj
    have := depsOk_ok h.2 (by simpa using ho) j hj
    omega
theorem ok_any (hV : EnvOk P V) {hn : Nat} {ops : Array Oper} {hs : List (Nat × Hint)} {Q : Exit → Act → World → Prop} (hdep : depsOk ops.toList 0 = true) : ∀ {L : List (Nat × Res)} {σ : St} {E : En} {a : Act} {w : World} {listed : Array Bool}, Inv F0 w0 E σ a w → hn = σ.heap.length → listed.size = ops.size →
    (∀ i, i < ops.size → (listed.getD i true = false ↔ ∃ x, (i, x) ∈ L)) → (∀ q ∈ L, q.1 < ops.size) → L.Pairwise (fun p q => p.1 < q.1) → L.Pairwise (fun p q => pairOk (masks ops.toList []) p q = true) → (∀ i o, ops[i]? = some o → listed.getD i true = true → ∀ d ∈ deps o, d < ops.size → listed.getD d true = true) → Chain V σ.nt hn ops.toList hs τ L σ → (∀ a' w', Then F0 w0 E w τ a' w' → Q .normal a' w') →
    wpAny P .any ops Q L.length listed a w := by
  intro L
  generalize hlen : L.length = n
  induction n generalizing L with
  | zero =>
    intro σ E a w listed hI hhn hsz hlist hlt hasc hpair hcl hch hQ
    have hL : L = [] := List.length_eq_zero_iff.1 hlen
    subst hL
    have hready : Region.ready .any ops listed = [] := by
      apply List.eq_nil_iff_forall_not_mem.2
      intro i hi
      obtain ⟨h1, o, h2, _⟩ := mem_ready.1 hi
      obtain ⟨x, hx⟩ := (hlist i (Array.getElem?_eq_some_iff.1 h2).1).1 h1
      simp at hx
    exact ⟨hready, hQ _ _ ⟨E, inv_eqv hI hch, Evo.refl E w⟩⟩
  | succ n ih =>
    intro σ E a w listed hI hhn hsz hlist hlt hasc hpair hcl hch hQ
    have hgd : ∀ i, i < ops.size → listed.getD i false = listed.getD i true := by
      intro i hi
      rw [Array.getD_eq_getD_getElem?, Array.getD_eq_getD_getElem?, Array.getElem?_eq_getElem (by omega)]
      rfl
    refine ⟨fun hr => ?_, fun i hi => ?_⟩
    · exfalso
      match L, hlen with
      | (i0, x0) :: L', _ =>
        have h0 : i0 < ops.size := hlt _ List.mem_cons_self
        have hmem : i0 ∈ Region.ready .any ops listed := by
          refine mem_ready.2 ⟨(hlist i0 h0).2 ⟨x0, List.mem_cons_self⟩, ops[i0], Array.getElem?_eq_getElem h0, fun e he hb => ?_⟩
          have hlt0 : e.on < 0 + i0 := depsOk_ok hdep (i := i0) (o := ops[i0]) (by simp [h0]) e.on (List.mem_map.2 ⟨e, List.mem_filter.2 ⟨by simpa using he, hb⟩, rfl⟩)
          have hon : e.on < ops.size := by omega
          cases hl : listed.getD e.on false
          · exfalso
            rw [hgd _ hon] at hl
            obtain ⟨y, hy⟩ := (hlist e.on hon).1 hl
            rcases List.mem_cons.1 hy with h | h
            · cases h; omega
            · have := (List.pairwise_cons.1 hasc).1 _ h
              simp only at this
              omega
          · rfl
        rw [hr] at hmem
        cases hmem
    · obtain ⟨h1, o, h2, h3⟩ := mem_ready.1 hi
      have hisz := (Array.getElem?_eq_some_iff.1 h2).1
      obtain ⟨x, hx⟩ := (hlist i hisz).1 h1
      obtain ⟨pre, post, rfl⟩ := List.append_of_mem hx
      have hind : ∀ q ∈ pre, indep x q.2 = true := by
        intro q hq
        have hp : pairOk (masks ops.toList []) q (i, x) = true := (List.pairwise_append.1 hpair).2.2 q hq (i, x) List.mem_cons_self
        unfold pairOk at hp
        simp only [Bool.or_eq_true] at hp
        rcases hp with hp | hp
        · exfalso
          have hr := masks_ok (ops := ops.toList) (r := ops.toList) (pre := []) (acc := []) rfl rfl (fun k j h => by simp [nthD] at h) _ _ hp
          have hqs := hlt q (List.mem_append_left _ hq)
          have hdone := rch_done (ops := ops.toList) (D := fun d => d < ops.size → listed.getD d true = true) (fun i' o' ho' hd d hdm hdl => by
            have ho'' : ops[i']? = some o' := by simpa using ho'
            exact hcl i' o' ho'' (hd (Array.getElem?_eq_some_iff.1 ho'').1) d hdm hdl) hr (o := o) (by simpa using h2) (fun d hd hdl => by
            obtain ⟨e, he, hon⟩ := List.mem_map.1 hd
            obtain ⟨he1, he2⟩ := List.mem_filter.1 he
            have h5 := h3 e (by simpa using he1) he2
            rw [hon, hgd _ hdl] at h5
            exact h5) hqs
          have h6 := (hlist q.1 hqs).2 ⟨q.2, List.mem_append_left _ hq⟩
          rw [hdone] at h6
          cases h6
        · exact hp
      obtain ⟨k1, k2, k3⟩ := pull hch hind
      have hsub : (pre ++ post).Sublist (pre ++ (i, x) :: post) := List.Sublist.append (List.Sublist.refl _) (List.sublist_cons_self _ _)
      refine wpOp_mono (fun a' w' hT => ?_) (ok_op hV hI hhn k1 k2)
      obtain ⟨E', hI', he⟩ := hT
      refine ih (L := pre ++ post) (by simp only [List.length_append, List.length_cons] at hlen ⊢; omega) hI' (by rw [hhn, aps_len]) (by simpa using hsz) (fun q hq => ?_) (fun q hq => hlt q (hsub.subset hq)) (hasc.sublist hsub) (hpair.sublist hsub) (fun i' o' ho' hd d hdm hdl => ?_) (by rw [aps_nt]; exact k3) (fun a'' w'' hT' => hQ _ _ ?_)
      · by_cases hqi : i = q
        · subst hqi
          constructor
          · intro h
            rw [Array.getD_eq_getD_getElem?, Array.getElem?_setIfInBounds, if_pos rfl, if_pos (by omega)] at h
            cases h
          · rintro ⟨y, hy⟩
            exfalso
            have hpw := List.pairwise_append.1 hasc
            rcases List.mem_append.1 hy with h | h
            · have := hpw.2.2 _ h (i, x) List.mem_cons_self
              simp at this
            · have := (List.pairwise_cons.1 hpw.2.1).1 _ h
              simp at this
        · rw [getD_set_ne true hqi, hlist q hq]
          constructor
          · rintro ⟨y, hy⟩
            rcases List.mem_append.1 hy with h | h
            · exact ⟨y, List.mem_append_left _ h⟩
            · rcases List.mem_cons.1 h with h | h
              · cases h; exact absurd rfl hqi
              · exact ⟨y, List.mem_append_right _ h⟩
          · rintro ⟨y, hy⟩
            exact ⟨y, hsub.subset hy⟩
      · by_cases hid : i = d
        · subst hid
          rw [Array.getD_eq_getD_getElem?, Array.getElem?_setIfInBounds, if_pos rfl, if_pos (by omega)]
          rfl
        · rw [getD_set_ne true hid]
          by_cases hii : i = i'
          · subst hii
            rw [h2] at ho'
            obtain rfl := Option.some.inj ho'
            obtain ⟨e, he, hon⟩ := List.mem_map.1 hdm
            obtain ⟨he1, he2⟩ := List.mem_filter.1 he
            have h5 := h3 e (by simpa using he1) he2
            rw [hon, hgd _ hdl] at h5
            exact h5
          · rw [getD_set_ne true hii] at hd
            exact hcl i' o' ho' hd d hdm hdl
      · obtain ⟨E'', hI'', he'⟩ := hT'
        exact ⟨E'', hI'', he.trans he'⟩
end
end Go.Proofs.YtkhjemahenkdiaaGreatDoor.V
