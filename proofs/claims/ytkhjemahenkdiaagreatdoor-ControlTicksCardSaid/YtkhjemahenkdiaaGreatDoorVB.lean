/- States without memory, what an operation reads and writes of them, and how a state stands to a world. -/
import Derived.Test.YtkhjemahenkdiaaGreatDoorVGL
namespace Go.Proofs.YtkhjemahenkdiaaGreatDoor.V
open Go Go.RowKit
set_option linter.unusedVariables false
def lk : List (Nat × TV) → Nat → TV
  | [], _ => .bad
  | (u, v) :: r, t => cond (Nat.beq u t) v (lk r t)
def pt : List (Nat × TV) → Nat → TV → List (Nat × TV)
  | [], t, v => [(t, v)]
  | (u, x) :: r, t, v => cond (Nat.beq u t) ((t, v) :: r) (cond (Nat.ble t u) ((t, v) :: (u, x) :: r) ((u, x) :: pt r t v))
theorem beq_f {a b : Nat} (h : a ≠ b) : Nat.beq a b = false := by
  cases e : Nat.beq a b
  · rfl
  · exact absurd (Nat.eq_of_beq_eq_true e) h
theorem lk_pt : ∀ (l : List (Nat × TV)) (t u : Nat) (v : TV), lk (pt l t v) u = if t = u then v else lk l u
  | [], t, u, v => by
    by_cases h : t = u
    · subst h; simp [pt, lk]
    · simp [pt, lk, beq_f h, h]
  | (a, x) :: r, t, u, v => by
    unfold pt
    by_cases h : a = t
    · subst h
      rw [Nat.beq_refl]
      simp only [cond_true, lk]
      by_cases h3 : a = u
      · subst h3; simp
      · rw [beq_f h3, if_neg h3]; rfl
    · rw [beq_f h]
      cases h2 : Nat.ble t a
      · simp only [cond_false, lk]
        rw [lk_pt r t u v]
        by_cases h3 : a = u
        · subst h3
          have h4 : ¬ t = a := fun e => h e.symm
          simp [h4]
        · rw [beq_f h3]; rfl
      · simp only [cond_false, cond_true, lk]
        by_cases h3 : t = u
        · subst h3; simp
        · rw [beq_f h3, if_neg h3]; rfl
def hg : Heap → Nat → Sl × List AV
  | [], _ => (.none, [])
  | s :: _, 0 => s
  | _ :: r, k + 1 => hg r k
theorem hg_eq : ∀ (h : Heap) (k : Nat), hg h k = (h[k]?).getD (.none, [])
  | [], k => by simp [hg]
  | s :: r, 0 => by simp [hg]
  | s :: r, k + 1 => by simp [hg, hg_eq r k]
def hs : Heap → Nat → (Sl × List AV) → Heap
  | [], _, _ => []
  | _ :: r, 0, s => s :: r
  | x :: r, k + 1, s => x :: hs r k s
theorem hs_eq : ∀ (h : Heap) (k : Nat) (s : Sl × List AV), hs h k s = h.set k s
  | [], k, s => by simp [hs]
  | _ :: r, 0, s => by simp [hs]
  | x :: r, k + 1, s => by simp [hs, hs_eq r k s]
theorem hs_len (h : Heap) (k : Nat) (s : Sl × List AV) : (hs h k s).length = h.length := by rw [hs_eq, List.length_set]
theorem hg_hs (h : Heap) (k j : Nat) (s : Sl × List AV) (hk : k < h.length) : hg (hs h k s) j = if k = j then s else hg h j := by
  rw [hg_eq, hs_eq, List.getElem?_set, hg_eq]
  split
  · simp
  · rfl
/-- The places of a state. -/
inductive Pl where
  | tmp (t : Nat)
  | cell (k o : Nat)
  | slot (k : Nat)
deriving DecidableEq
inductive Wr where
  | tmp (t : Nat) (v : TV)
  | cell (k o : Nat) (v : AV)
  | slot (k : Nat) (s : Sl) (c : List AV)
def ns : List AV → Nat → AV → List AV
  | [], _, _ => []
  | _ :: r, 0, v => v :: r
  | x :: r, i + 1, v => x :: ns r i v
theorem ns_eq : ∀ (l : List AV) (i : Nat) (v : AV), ns l i v = l.set i v
  | [], i, v => by simp [ns]
  | _ :: r, 0, v => by simp [ns]
  | x :: r, i + 1, v => by simp [ns, ns_eq r i v]
def ng : List AV → Nat → AV
  | [], _ => .bad
  | x :: _, 0 => x
  | _ :: r, i + 1 => ng r i
theorem ng_eq : ∀ (l : List AV) (i : Nat), ng l i = (l[i]?).getD .bad
  | [], i => by simp [ng]
  | _ :: r, 0 => by simp [ng]
  | x :: r, i + 1 => by simp [ng, ng_eq r i]
def St.ap (σ : St) : Wr → St
  | .tmp t v => ⟨σ.nt, pt σ.tmps t v, σ.heap⟩
  | .cell k o v => ⟨σ.nt, σ.tmps, hs σ.heap k ((hg σ.heap k).1, ns (hg σ.heap k).2 o v)⟩
  | .slot k s c => ⟨σ.nt, σ.tmps, hs σ.heap k (s, c)⟩
def St.aps (σ : St) : List Wr → St
  | [] => σ
  | w :: r => (σ.ap w).aps r
theorem St.aps_app (σ : St) : ∀ (a b : List Wr), σ.aps (a ++ b) = (σ.aps a).aps b
  | [], _ => rfl
  | w :: r, b => St.aps_app (σ.ap w) r b
/-- What an operation does, told of the places it reads: conditions, then writes. -/
inductive Rd where
  | fail
  | done (ws : List Wr)
  | tmp (t : Nat) (k : TV → Rd)
  | cell (k o : Nat) (c : AV → Rd)
  | slot (k : Nat) (c : Sl → Rd)
  | need (p : Prop) (k : Rd)
structure Res where
  cs : List Prop
  ws : List Wr
  rs : List Pl
def Rd.run : Rd → St → Option Res
  | .fail, _ => none
  | .done ws, _ => some ⟨[], ws, []⟩
  | .tmp t k, σ => match (k (lk σ.tmps t)).run σ with
    | some r => some ⟨r.cs, r.ws, .tmp t :: r.rs⟩
    | none => none
  | .cell k o c, σ => match (c (ng (hg σ.heap k).2 o)).run σ with
    | some r => some ⟨r.cs, r.ws, .cell k o :: r.rs⟩
    | none => none
  | .slot k c, σ => match (c (hg σ.heap k).1).run σ with
    | some r => some ⟨r.cs, r.ws, .slot k :: r.rs⟩
    | none => none
  | .need p k, σ => match k.run σ with
    | some r => some ⟨p :: r.cs, r.ws, r.rs⟩
    | none => none
def AllP : List Prop → Prop
  | [] => True
  | p :: r => p ∧ AllP r
theorem AllP.app : ∀ {a b : List Prop}, AllP (a ++ b) ↔ AllP a ∧ AllP b
  | [], b => by simp [AllP]
  | p :: r, b => by simp [AllP, AllP.app (a := r), and_assoc]
/-- The reading of an operation in a state: its writes, with its conditions met. -/
def Rd.gives (r : Rd) (σ : St) (ws : List Wr) : Prop := ∃ x, r.run σ = some x ∧ AllP x.cs ∧ x.ws = ws
theorem Rd.gives_done {ws ws' : List Wr} {σ : St} : (Rd.done ws).gives σ ws' ↔ ws = ws' := by
  constructor
  · rintro ⟨x, h, _, h2⟩
    obtain rfl := Option.some.inj h
    exact h2
  · rintro rfl
    exact ⟨_, rfl, trivial, rfl⟩
theorem Rd.gives_fail {ws : List Wr} {σ : St} : ¬ Rd.fail.gives σ ws := by rintro ⟨x, h, _⟩; cases h
theorem Rd.gives_tmp {t : Nat} {k : TV → Rd} {ws : List Wr} {σ : St} : (Rd.tmp t k).gives σ ws ↔ (k (lk σ.tmps t)).gives σ ws := by
  constructor
  · rintro ⟨x, h, hc, hw⟩
    simp only [Rd.run] at h
    split at h
    · rename_i r hr
      obtain rfl := Option.some.inj h
      exact ⟨r, hr, hc, hw⟩
    · cases h
  · rintro ⟨x, h, hc, hw⟩
    exact ⟨⟨x.cs, x.ws, .tmp t :: x.rs⟩, by simp only [Rd.run, h], hc, hw⟩
theorem Rd.gives_cell {i o : Nat} {k : AV → Rd} {ws : List Wr} {σ : St} : (Rd.cell i o k).gives σ ws ↔ (k (ng (hg σ.heap i).2 o)).gives σ ws := by
  constructor
  · rintro ⟨x, h, hc, hw⟩
    simp only [Rd.run] at h
    split at h
    · rename_i r hr
      obtain rfl := Option.some.inj h
      exact ⟨r, hr, hc, hw⟩
    · cases h
  · rintro ⟨x, h, hc, hw⟩
    exact ⟨⟨x.cs, x.ws, .cell i o :: x.rs⟩, by simp only [Rd.run, h], hc, hw⟩
theorem Rd.gives_slot {i : Nat} {k : Sl → Rd} {ws : List Wr} {σ : St} : (Rd.slot i k).gives σ ws ↔ (k (hg σ.heap i).1).gives σ ws := by
  constructor
  · rintro ⟨x, h, hc, hw⟩
    simp only [Rd.run] at h
    split at h
    · rename_i r hr
      obtain rfl := Option.some.inj h
      exact ⟨r, hr, hc, hw⟩
    · cases h
  · rintro ⟨x, h, hc, hw⟩
    exact ⟨⟨x.cs, x.ws, .slot i :: x.rs⟩, by simp only [Rd.run, h], hc, hw⟩
theorem Rd.gives_need {p : Prop} {k : Rd} {ws : List Wr} {σ : St} : (Rd.need p k).gives σ ws ↔ p ∧ k.gives σ ws := by
  constructor
  · rintro ⟨x, h, hc, hw⟩
    simp only [Rd.run] at h
    split at h
    · rename_i r hr
      obtain rfl := Option.some.inj h
      exact ⟨hc.1, r, hr, hc.2, hw⟩
    · cases h
  · rintro ⟨hp, x, h, hc, hw⟩
    exact ⟨⟨p :: x.cs, x.ws, x.rs⟩, by simp only [Rd.run, h], ⟨hp, hc⟩, hw⟩
/-- A slice of one's own: without a row, or with one from its first cell on. -/
def Own (w : World) (et sz : Nat) (v : Value) (n : Nat) (inner : List Value) : Prop :=
  (∃ A, v = .slice A 0 0 ∧ n = 0 ∧ inner = []) ∨
  (∃ g cap cur, v = .slice (some ⟨g, 0, none⟩) n cap ∧ 0 < cap ∧ w.heap[g]? = some (.cells cur et (0, 0)) ∧ n ≤ cap ∧ cap ≤ maxLen ∧ cur.size = cap * sz ∧ cur.toList.take (n * sz) = inner)
/-- The cells of a plain thing; a value of such; the entries of a map of such. -/
def flV : (t : Ty) → t.T → List Value
  | .int k, n => [.int k n]
  | .bool, b => [.bool b]
  | .slice _, _ => []
  | .pair a b, x => flV a x.1 ++ flV b x.2
def flB : Ty → Bool
  | .int _ => true
  | .bool => true
  | .slice _ => false
  | .pair a b => flB a && flB b
theorem flV_of {F : Nat → Prop} {w : World} : ∀ {t : Ty} {x : t.T} {vs : List Value}, flB t = true → RepD F w t x vs → vs = flV t x
  | .int _, _, _, _, h => h
  | .bool, _, _, _, h => h
  | .slice _, _, _, hf, _ => by cases hf
  | .pair a b, x, _, hf, h => by
    obtain ⟨v1, v2, rfl, h1, h2⟩ := h
    simp only [flB, Bool.and_eq_true] at hf
    rw [flV_of hf.1 h1, flV_of hf.2 h2]
    rfl
theorem flV_rep {F : Nat → Prop} {w : World} : ∀ {t : Ty} (x : t.T), flB t = true → RepD F w t x (flV t x)
  | .int _, _, _ => rfl
  | .bool, _, _ => rfl
  | .slice _, _, hf => by cases hf
  | .pair a b, x, hf => by
    simp only [flB, Bool.and_eq_true] at hf
    exact ⟨_, _, rfl, flV_rep x.1 hf.1, flV_rep x.2 hf.2⟩
theorem flV_len : ∀ {t : Ty} (x : t.T), flB t = true → (flV t x).length = t.sz
  | .int _, _, _ => rfl
  | .bool, _, _ => rfl
  | .slice _, _, hf => by cases hf
  | .pair a b, x, hf => by
    simp only [flB, Bool.and_eq_true] at hf
    show (flV a x.1 ++ flV b x.2).length = a.sz + b.sz
    rw [List.length_append, flV_len x.1 hf.1, flV_len x.2 hf.2]
def mkV (agg : Bool) (l : List Value) : Value := cond agg (.agg l.toArray) (l.headD (.bool false))
def dmE (va : Bool) (K V : Ty) : Nat → List (K.T × V.T) → List MapEntry
  | _, [] => []
  | i, x :: r => { key := .agg (flV K x.1).toArray, val := mkV va (flV V x.2), born := i } :: dmE va K V (i + 1) r
/-- A slot of the state, in the world. -/
def SlotOk (E : En) (w : World) (k : Nat) : Sl → List AV → Prop
  | .none, _ => E.β k = none ∧ E.γ k = none
  | .dead, _ => True
  | .box n, cells => ∃ b cs ty, E.β k = some b ∧ w.heap[b]? = some (.cells cs ty (0, 0)) ∧ cells.length = n ∧ RepL E w cs.toList cells
  | .buf et e xs, _ => ∃ v inner, E.γ k = some v ∧ Own w et e.sz v xs.length inner ∧ El (RepD E.F w e) xs inner
  | .frz e xs, _ => ∃ v, E.γ k = some v ∧ RepD E.F w (.slice e) xs [v]
  | .dm va K V xs, _ => ∃ b, E.β k = some b ∧ w.heap[b]? = some (.map (dmE va K V 0 xs).toArray xs.length)
  | .map es, _ => ∃ b ents cl, E.β k = some b ∧ w.heap[b]? = some (.map ents cl) ∧ All2 (fun (m : MapEntry) (x : Int × AV) => m.key = .int .i64 x.1 ∧ RepA E w m.val x.2) ents.toList es
  | .lnk et a b xs B i, _ => ∃ v vB i1 c1 i2 x, E.γ k = some v ∧ E.γ B = some vB ∧ (∃ A n c, vB = .slice A n c) ∧ Own w et (a.sz + 1) v xs.length (i1 ++ (c1 ++ [vB]) ++ i2) ∧ xs[i]? = some x ∧ El (RepD E.F w (.pair a (.slice b))) (xs.take i) i1 ∧ RepD E.F w a x.1 c1 ∧ El (RepD E.F w (.pair a (.slice b))) (xs.drop (i + 1)) i2
def Live (E : En) (k : Nat) : Sl → Nat → Prop
  | .box _, b => E.β k = some b
  | .map _, b => E.β k = some b
  | .dm .., b => E.β k = some b
  | .buf .., b => ∃ o n c, E.γ k = some (.slice (some ⟨b, o, none⟩) n c) ∧ 0 < c
  | .lnk .., b => ∃ o n c, E.γ k = some (.slice (some ⟨b, o, none⟩) n c) ∧ 0 < c
  | _, _ => False
def globAt (g : Nat) : Option ((τ : Ty) × List τ.T) := (globs.find? fun p => Nat.beq p.1 g).map (·.2)
/-- The variables that are only read hold what they hold. -/
def Globs (F : Nat → Prop) (w : World) : Prop := (∀ b, F b → b < w.heap.size) ∧ ∀ g τ xs, globAt g = some ⟨τ, xs⟩ → ∃ inner, El (RepD F w τ) xs inner ∧ ∀ j u, inner[j]? = some u → F g ∧ w.cell? ⟨g, j, none⟩ = some u
theorem Globs.step {F F' : Nat → Prop} {w w' : World} (h : Globs F w) (hF : ∀ b, F b → F' b) (hw : ∀ b, F b → w'.heap[b]? = w.heap[b]?) (hl : ∀ b, F' b → b < w'.heap.size) : Globs F' w' :=
  ⟨hl, fun g τ xs e => by
    obtain ⟨inner, h1, h2⟩ := h.2 g τ xs e
    refine ⟨inner, h1.imp (fun _ _ => RepD.step hF hw), fun j u hu => ?_⟩
    obtain ⟨h3, h4⟩ := h2 j u hu
    exact ⟨hF g h3, (World.cell?_of_block (w := w) (hw g h3)).trans h4⟩⟩
/-- What is on the heap, of the blocks from w0's size on. -/
structure InvH (F0 : Nat → Prop) (w0 : World) (E : En) (heap : Heap) (w : World) : Prop where
  below : Below w0.heap.size w0 w
  slot : ∀ k, SlotOk E w k (hg heap k).1 (hg heap k).2
  own : ∀ k b, Live E k (hg heap k).1 b → w0.heap.size ≤ b ∧ b < w.heap.size ∧ ¬ E.F b
  inj : ∀ k k' b, Live E k (hg heap k).1 b → Live E k' (hg heap k').1 b → k = k'
  fz : ∀ b, E.F b → b < w.heap.size
  sub : ∀ b, E.F b → F0 b ∨ w0.heap.size ≤ b
  sup : ∀ b, F0 b → E.F b
  gl : Globs F0 w0
structure Inv (F0 : Nat → Prop) (w0 : World) (E : En) (σ : St) (a : Act) (w : World) : Prop where
  nt : a.tmps.size = σ.nt
  df : a.defers = []
  tmp : ∀ t, RepT E w (a.tmps.getD t undef) (lk σ.tmps t)
  heap : InvH F0 w0 E σ.heap w
theorem Inv.globs {F0 : Nat → Prop} {w0 : World} {E : En} {σ : St} {a : Act} {w : World} (h : Inv F0 w0 E σ a w) : Globs E.F w := h.heap.gl.step h.heap.sup (fun b hb => h.heap.below.block b (h.heap.gl.1 b hb)) h.heap.fz
theorem Inv.put {F0 : Nat → Prop} {w0 : World} {E : En} {σ : St} {a : Act} {w : World} (h : Inv F0 w0 E σ a w) {t : Nat} {v : Value} {tv : TV} (ht : t < σ.nt) (hv : RepT E w v tv) : Inv F0 w0 E (σ.ap (.tmp t tv)) (a.put (some t) v) w := by
  refine ⟨by simp [Act.put, St.ap, h.nt], h.df, fun u => ?_, h.heap⟩
  simp only [St.ap, lk_pt, Act.put]
  by_cases e : t = u
  · subst e
    rw [if_pos rfl]
    have : (a.tmps.setIfInBounds t v).getD t undef = v := by
      have : t < a.tmps.size := by rw [h.nt]; exact ht
      simp [Array.getD, this]
    rw [this]
    exact hv
  · rw [if_neg e]
    have : (a.tmps.setIfInBounds t v).getD u undef = a.tmps.getD u undef := by
      simp only [Array.getD_eq_getD_getElem?, Array.getElem?_setIfInBounds, if_neg e]
    rw [this]
    exact h.tmp u
theorem Inv.evo {F0 : Nat → Prop} {w0 : World} {E E' : En} {σ : St} {a : Act} {w w' : World} {heap' : Heap} (h : Inv F0 w0 E σ a w) (he : Evo E w E' w') (hh : InvH F0 w0 E' heap' w') : Inv F0 w0 E' ⟨σ.nt, σ.tmps, heap'⟩ a w' :=
  ⟨h.nt, h.df, fun t => (h.tmp t).evo he, hh⟩
end Go.Proofs.YtkhjemahenkdiaaGreatDoor.V
