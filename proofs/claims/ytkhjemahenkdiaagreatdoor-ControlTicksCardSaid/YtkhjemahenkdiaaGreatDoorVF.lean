/- The heap of a state, step by step. -/
import Derived.Test.YtkhjemahenkdiaaGreatDoorVE
namespace Go.Proofs.YtkhjemahenkdiaaGreatDoor.V
open Go Go.RowKit
set_option linter.unusedVariables false
set_option linter.unusedSimpArgs false
theorem Own.keep {w w' : World} {et sz n : Nat} {v : Value} {xs : List Value} (h : Own w et sz v n xs) (hb : ∀ b o m c, v = .slice (some ⟨b, o, none⟩) m c → 0 < c → w'.heap[b]? = w.heap[b]?) : Own w' et sz v n xs := by
  rcases h with h1 | ⟨g, cap, cur, hv, hc, hg, hr⟩
  · exact .inl h1
  · exact .inr ⟨g, cap, cur, hv, hc, (hb g 0 n cap hv hc).trans hg, hr⟩
theorem SlotOk.keep {E E' : En} {w w' : World} {k : Nat} (hβ : E'.β k = E.β k) (hγ : E'.γ k = E.γ k) (he : Evo E w E' w') : ∀ {s : Sl} {c : List AV}, (∀ b, Live E k s b → w'.heap[b]? = w.heap[b]?) → SlotOk E w k s c → SlotOk E' w' k s c
  | .none, _, _, h => ⟨hβ.trans h.1, hγ.trans h.2⟩
  | .dead, _, _, _ => trivial
  | .box n, cells, hb, h => by
    obtain ⟨b, cs, ty, h1, h2, h3, h4⟩ := h
    exact ⟨b, cs, ty, hβ.trans h1, (hb b h1).trans h2, h3, h4.evo he⟩
  | .buf et e xs, _, hb, h => by
    obtain ⟨v, inner, h1, h2, h3⟩ := h
    exact ⟨v, inner, hγ.trans h1, h2.keep (fun b o m c e hc => hb b ⟨o, m, c, by rw [h1, e], hc⟩), h3.imp (fun _ _ => RepD.evo he)⟩
  | .frz e xs, _, _, h => by
    obtain ⟨v, h1, h2⟩ := h
    exact ⟨v, hγ.trans h1, h2.evo he⟩
  | .dm va K V xs, _, hb, h => by
    obtain ⟨b, h1, h2⟩ := h
    exact ⟨b, hβ.trans h1, (hb b h1).trans h2⟩
  | .map es, _, hb, h => by
    obtain ⟨b, ents, cl, h1, h2, h3⟩ := h
    exact ⟨b, ents, cl, hβ.trans h1, (hb b h1).trans h2, h3.imp (fun _ _ h => ⟨h.1, h.2.evo he⟩)⟩
  | .lnk et a b xs B i, _, hb, h => by
    obtain ⟨v, vB, i1, c1, i2, x, h1, h2, h3, h4, h5, h6, h7, h8⟩ := h
    exact ⟨v, vB, i1, c1, i2, x, hγ.trans h1, he.γ _ _ h2, h3, h4.keep (fun b o m c e hc => hb b ⟨o, m, c, by rw [h1, e], hc⟩), h5, h6.imp (fun _ _ => RepD.evo he), h7.evo he, h8.imp (fun _ _ => RepD.evo he)⟩
section
variable {P : Program} {F0 : Nat → Prop} {w0 : World} {E E' : En} {σ : St} {a : Act} {w w' : World} {tt : TT} {heap : Heap}
theorem Live_eq {k : Nat} {s : Sl} {b : Nat} (hβ : E'.β k = E.β k) (hγ : E'.γ k = E.γ k) : Live E' k s b ↔ Live E k s b := by
  cases s <;> simp [Live, hβ, hγ]
theorem InvH.upd (h : InvH F0 w0 E heap w) {k : Nat} (hk : k < heap.length) (he : Evo E w E' w') (hβ : ∀ j, j ≠ k → E'.β j = E.β j) (hγ : ∀ j, j ≠ k → E'.γ j = E.γ j)
    (hbel : Below w0.heap.size w w') (hblk : ∀ j, j ≠ k → ∀ b, Live E j (hg heap j).1 b → w'.heap[b]? = w.heap[b]?)
    (hF1 : ∀ b, E'.F b → b < w'.heap.size) (hF2 : ∀ b, E'.F b → F0 b ∨ w0.heap.size ≤ b) (hF3 : ∀ j, j ≠ k → ∀ b, Live E j (hg heap j).1 b → ¬ E'.F b)
    {s : Sl} {c : List AV} (hs' : SlotOk E' w' k s c) (hown : ∀ b, Live E' k s b → w0.heap.size ≤ b ∧ b < w'.heap.size ∧ ¬ E'.F b)
    (hinj : ∀ j, j ≠ k → ∀ b, Live E j (hg heap j).1 b → ¬ Live E' k s b) : InvH F0 w0 E' (hs heap k (s, c)) w' := by
  refine ⟨h.below.trans hbel, fun j => ?_, fun j b hl => ?_, fun j j' b hl hl' => ?_, hF1, hF2, fun b hb => he.F b (h.sup b hb), h.gl⟩
  · rw [hg_hs _ _ _ _ hk]
    by_cases e : k = j
    · subst e; rw [if_pos rfl]; exact hs'
    · rw [if_neg e]
      exact SlotOk.keep (hβ j (Ne.symm e)) (hγ j (Ne.symm e)) he (hblk j (Ne.symm e)) (h.slot j)
  · rw [hg_hs _ _ _ _ hk] at hl
    by_cases e : k = j
    · subst e; rw [if_pos rfl] at hl; exact hown b hl
    · rw [if_neg e] at hl
      have hl := (Live_eq (hβ j (Ne.symm e)) (hγ j (Ne.symm e))).1 hl
      obtain ⟨h1, h2, h3⟩ := h.own j b hl
      exact ⟨h1, Nat.lt_of_lt_of_le h2 hbel.size, hF3 j (Ne.symm e) b hl⟩
  · rw [hg_hs _ _ _ _ hk] at hl hl'
    by_cases e : k = j
    · subst e
      rw [if_pos rfl] at hl
      by_cases e' : k = j'
      · exact e'
      · rw [if_neg e'] at hl'
        exact absurd hl (hinj j' (Ne.symm e') b ((Live_eq (hβ j' (Ne.symm e')) (hγ j' (Ne.symm e'))).1 hl'))
    · rw [if_neg e] at hl
      have hl := (Live_eq (hβ j (Ne.symm e)) (hγ j (Ne.symm e))).1 hl
      by_cases e' : k = j'
      · subst e'
        rw [if_pos rfl] at hl'
        exact absurd hl' (hinj j (Ne.symm e) b hl)
      · rw [if_neg e'] at hl'
        exact h.inj j j' b hl ((Live_eq (hβ j' (Ne.symm e')) (hγ j' (Ne.symm e'))).1 hl')
def updβ (E : En) (k b : Nat) : En := ⟨fun j => if j = k then some b else E.β j, E.γ, E.F⟩
def updγ (E : En) (k : Nat) (v : Value) : En := ⟨E.β, fun j => if j = k then some v else E.γ j, E.F⟩
def updF (E : En) (b : Nat) : En := ⟨E.β, E.γ, fun j => E.F j ∨ j = b⟩
theorem none_of (h : InvH F0 w0 E heap w) {k : Nat} (hn : (hg heap k).1 = .none) : E.β k = none ∧ E.γ k = none := by
  have := h.slot k
  rw [hn] at this
  exact this
theorem heap_new (w : World) (o : Obj) : (w.alloc o).heap[w.heap.size]? = some o := heap_alloc_new w o
theorem heap_old (w : World) (o : Obj) {b : Nat} (h : b < w.heap.size) : (w.alloc o).heap[b]? = w.heap[b]? := heap_alloc_old w o b h
theorem below_alloc (h : InvH F0 w0 E heap w) (o : Obj) : Below w0.heap.size w (w.alloc o) :=
  (Below.refl w0.heap.size w).alloc h.below.size o
/-- A new block for slot k. -/
theorem InvH.newβ (h : InvH F0 w0 E heap w) {k : Nat} (hk : k < heap.length) (hn : (hg heap k).1 = .none) (o : Obj) {s : Sl} {c : List AV} (hsl : SlotOk (updβ E k w.heap.size) (w.alloc o) k s c) (hlive : ∀ b, Live (updβ E k w.heap.size) k s b → b = w.heap.size) :
    InvH F0 w0 (updβ E k w.heap.size) (hs heap k (s, c)) (w.alloc o) ∧ Evo E w (updβ E k w.heap.size) (w.alloc o) := by
  obtain ⟨hβ, hγ⟩ := none_of h hn
  have he : Evo E w (updβ E k w.heap.size) (w.alloc o) := ⟨fun j b e => by
    show (if j = k then _ else _) = _
    by_cases ejk : j = k
    · subst ejk; rw [hβ] at e; cases e
    · rw [if_neg ejk]; exact e, fun _ _ e => e, fun _ e => e, fun b hb => heap_old w o (h.fz b hb)⟩
  refine ⟨h.upd hk he (fun j hj => if_neg hj) (fun _ _ => rfl) (below_alloc h o) (fun j _ b hl => heap_old w o (h.own j b hl).2.1) ?_ h.sub ?_ hsl ?_ ?_, he⟩
  · intro b hb
    have := h.fz b hb
    simp
    omega
  · exact fun j _ b hl => (h.own j b hl).2.2
  · intro b hb
    rw [hlive b hb]
    refine ⟨h.below.size, by simp, fun hF => ?_⟩
    have := h.fz _ hF
    omega
  · intro j _ b hl hb
    have h1 := hlive b hb
    have h2 := (h.own j b hl).2.1
    omega
/-- The slot's slice is not used any more. -/
theorem InvH.die (h : InvH F0 w0 E heap w) {k : Nat} (hk : k < heap.length) (c : List AV) : InvH F0 w0 E (hs heap k (.dead, c)) w :=
  h.upd hk (Evo.refl E w) (fun _ _ => rfl) (fun _ _ => rfl) (Below.refl _ w) (fun _ _ _ _ => rfl) h.fz h.sub (fun j _ b hl => (h.own j b hl).2.2) trivial (fun b hb => hb.elim) (fun _ _ _ _ hb => hb)
/-- A new slice for slot k. -/
theorem InvH.newγ (h : InvH F0 w0 E heap w) {k : Nat} (hk : k < heap.length) (hn : (hg heap k).1 = .none) {v : Value} (hbel : Below w0.heap.size w w') (hF : ∀ b, E.F b → w'.heap[b]? = w.heap[b]?)
    (hblk : ∀ j, j ≠ k → ∀ b, Live E j (hg heap j).1 b → w'.heap[b]? = w.heap[b]?) {s : Sl} {c : List AV} (hsl : SlotOk (updγ E k v) w' k s c)
    (hlive : ∀ b, Live (updγ E k v) k s b → w0.heap.size ≤ b ∧ b < w'.heap.size ∧ ¬ E.F b ∧ ∀ j, j ≠ k → ¬ Live E j (hg heap j).1 b) :
    InvH F0 w0 (updγ E k v) (hs heap k (s, c)) w' ∧ Evo E w (updγ E k v) w' := by
  obtain ⟨hβ, hγ⟩ := none_of h hn
  have he : Evo E w (updγ E k v) w' := ⟨fun _ _ e => e, fun j u e => by
    show (if j = k then _ else _) = _
    by_cases ejk : j = k
    · subst ejk; rw [hγ] at e; cases e
    · rw [if_neg ejk]; exact e, fun _ e => e, hF⟩
  refine ⟨h.upd hk he (fun _ _ => rfl) (fun j hj => if_neg hj) hbel hblk ?_ h.sub ?_ hsl ?_ ?_, he⟩
  · exact fun b hb => Nat.lt_of_lt_of_le (h.fz b hb) hbel.size
  · exact fun j _ b hl => (h.own j b hl).2.2
  · intro b hb
    obtain ⟨h1, h2, h3, _⟩ := hlive b hb
    exact ⟨h1, h2, h3⟩
  · intro j hj b hl hb
    exact (hlive b hb).2.2.2 j hj hl
/-- A block that is written no more. -/
theorem InvH.fz_new (h : InvH F0 w0 E heap w) (o : Obj) : InvH F0 w0 (updF E w.heap.size) heap (w.alloc o) ∧ Evo E w (updF E w.heap.size) (w.alloc o) := by
  have he : Evo E w (updF E w.heap.size) (w.alloc o) := ⟨fun _ _ e => e, fun _ _ e => e, fun _ e => .inl e, fun b hb => heap_old w o (h.fz b hb)⟩
  refine ⟨⟨h.below.trans (below_alloc h o), fun j => ?_, fun j b hl => ?_, h.inj, ?_, ?_, fun b hb => .inl (h.sup b hb), h.gl⟩, he⟩
  · exact SlotOk.keep (E := E) (E' := updF E w.heap.size) rfl rfl he (fun b hl => heap_old w o (h.own j b hl).2.1) (h.slot j)
  · obtain ⟨h1, h2, h3⟩ := h.own j b hl
    refine ⟨h1, by simp; omega, fun hF => ?_⟩
    rcases hF with hF | rfl
    · exact h3 hF
    · omega
  · intro b hb
    rcases hb with hb | rfl
    · have := h.fz b hb; simp; omega
    · simp
  · intro b hb
    rcases hb with hb | rfl
    · exact h.sub b hb
    · exact .inr h.below.size
/-- Cells of a live block are written; what is asked is that the slot stands again. -/
theorem InvH.write (h : InvH F0 w0 E heap w) {k g : Nat} (hk : k < heap.length) (hl : Live E k (hg heap k).1 g) (hw : ∀ b, b ≠ g → w'.heap[b]? = w.heap[b]?) (hos : w'.os = w.os) (hta : w'.tape = w.tape) (hou : w'.output = w.output) (hsz : w'.heap.size = w.heap.size)
    {s : Sl} {c : List AV} (hsl : SlotOk E w' k s c) (hlive : ∀ b, Live E k s b → Live E k (hg heap k).1 b) : InvH F0 w0 E (hs heap k (s, c)) w' ∧ Evo E w E w' := by
  obtain ⟨g1, g2, g3⟩ := h.own k g hl
  have he : Evo E w E w' := ⟨fun _ _ e => e, fun _ _ e => e, fun _ e => e, fun b hb => hw b (fun e => g3 (e ▸ hb))⟩
  refine ⟨h.upd hk he (fun _ _ => rfl) (fun _ _ => rfl) ⟨hos, hta, hou, by rw [hsz]; exact Nat.le_refl _, fun b hb => hw b (by omega)⟩ ?_ (by rw [hsz]; exact h.fz) h.sub (fun j _ b hl => (h.own j b hl).2.2) hsl ?_ ?_, he⟩
  · intro j hj b hlj
    exact hw b (fun e => hj (h.inj j k g (e ▸ hlj) hl))
  · intro b hb
    rw [hsz]
    exact h.own k b (hlive b hb)
  · intro j hj b hlj hb
    exact hj (h.inj j k b hlj (hlive b hb))
end
theorem sc_far {g : Nat} : ∀ (vs : List Value) (o : Nat) {w : World} (k : Nat), k ≠ g → (w.setCells g o vs).heap[k]? = w.heap[k]?
  | [], _, _, _, _ => rfl
  | v :: vs, o, w, k, h => by rw [World.setCells, sc_far vs (o + 1) k h, Below.heap_setCell _ _ _ _ h]
theorem sc_same (g : Nat) : ∀ (vs : List Value) (o : Nat) (w : World), (w.setCells g o vs).os = w.os ∧ (w.setCells g o vs).tape = w.tape ∧ (w.setCells g o vs).output = w.output ∧ (w.setCells g o vs).heap.size = w.heap.size
  | [], _, _ => ⟨rfl, rfl, rfl, rfl⟩
  | v :: vs, o, w => by
    obtain ⟨h1, h2, h3, h4⟩ := sc_same g vs (o + 1) (w.setCell ⟨g, o, none⟩ v)
    exact ⟨h1, h2, h3, by rw [World.setCells, h4]; simp [World.setCell]⟩
theorem sc_row {g : Nat} {e : TypeId} : ∀ (vs : List Value) (o : Nat) (w : World) (cur : Array Value), w.heap[g]? = some (.cells cur e (0, 0)) → o + vs.length ≤ cur.size →
    ∃ cur', (w.setCells g o vs).heap[g]? = some (.cells cur' e (0, 0)) ∧ cur'.size = cur.size ∧ cur'.toList = cur.toList.take o ++ vs ++ cur.toList.drop (o + vs.length)
  | [], o, w, cur, h, _ => ⟨cur, h, rfl, by simp⟩
  | v :: vs, o, w, cur, h, hl => by
    simp only [List.length_cons] at hl
    have h1 : (w.setCell ⟨g, o, none⟩ v).heap[g]? = some (.cells (cur.setIfInBounds o v) e (0, 0)) := heap_setCell_same w g o cur e v h
    obtain ⟨cur', h2, h3, h4⟩ := sc_row vs (o + 1) _ _ h1 (by simp; omega)
    refine ⟨cur', h2, by simpa using h3, ?_⟩
    rw [h4, Array.toList_setIfInBounds, List.length_cons]
    have e1 : (cur.toList.set o v).take (o + 1) = cur.toList.take o ++ [v] := by
      rw [List.take_add_one, List.take_set_of_le (Nat.le_refl o)]
      simp [List.getElem?_set]
      omega
    have e2 : (cur.toList.set o v).drop (o + 1 + vs.length) = cur.toList.drop (o + (vs.length + 1)) := by
      rw [List.drop_set_of_lt (by omega)]
      congr 1
      omega
    rw [e1, e2]
    simp
theorem hg_hs' (h : Heap) (k j : Nat) (s : Sl × List AV) (hkj : k ≠ j) : hg (hs h k s) j = hg h j := by
  by_cases hk : k < h.length
  · rw [hg_hs _ _ _ _ hk, if_neg hkj]
  · rw [hs_eq, List.set_eq_of_length_le (by omega)]
end Go.Proofs.YtkhjemahenkdiaaGreatDoor.V
