/- Code: what a piece of code does to a state; functions. -/
import Derived.Test.YtkhjemahenkdiaaGreatDoorVP
import Derived.LoopN
namespace Go.Proofs.YtkhjemahenkdiaaGreatDoor.V
open Go Go.RowKit
set_option linter.unusedVariables false
set_option linter.unusedSimpArgs false
def reg (V : Env) (ops : Array Oper) (draw : Bool) (hs : List (Nat × Hint)) (σ : St) : Option (List Prop × St) :=
  match evalL V σ.nt σ.heap.length ops.toList hs (List.range ops.toList.length) σ with
  | none => none
  | some (l, τ) => cond (!draw || (pairsOk ops.toList l && depsOk ops.toList 0)) (some (conds l, τ)) none
structure EvoN (n : Nat) (E : En) (w : World) (E' : En) (w' : World) : Prop where
  β : ∀ k b, k < n → E.β k = some b → E'.β k = some b
  γ : ∀ k v, k < n → E.γ k = some v → E'.γ k = some v
  F : ∀ b, E.F b → E'.F b
  heap : ∀ b, E.F b → w'.heap[b]? = w.heap[b]?
theorem EvoN.of {n : Nat} {E E' : En} {w w' : World} (h : Evo E w E' w') : EvoN n E w E' w' := ⟨fun k b _ => h.β k b, fun k v _ => h.γ k v, h.F, h.heap⟩
theorem EvoN.trans {n : Nat} {E1 E2 E3 : En} {w1 w2 w3 : World} (h : EvoN n E1 w1 E2 w2) (k : EvoN n E2 w2 E3 w3) : EvoN n E1 w1 E3 w3 :=
  ⟨fun a b hn e => k.β a b hn (h.β a b hn e), fun a b hn e => k.γ a b hn (h.γ a b hn e), fun b e => k.F b (h.F b e), fun b e => (k.heap b (h.F b e)).trans (h.heap b e)⟩
def Post (n : Nat) (F0 : Nat → Prop) (w0 : World) (E : En) (w : World) (Φ : Exit → St → Prop) : Exit → Act → World → Prop := fun e a' w' => ∃ σ' E', Φ e σ' ∧ Inv F0 w0 E' σ' a' w' ∧ EvoN n E w E' w'
def W (P : Program) (n : Nat) (c : Code) (σ : St) (Φ : Exit → St → Prop) : Prop := ∀ F0 w0 E a w, Inv F0 w0 E σ a w → c.wp P (Post n F0 w0 E w Φ) a w
section
variable {P : Program} {V : Env} {n : Nat} {σ τ : St} {Φ : Exit → St → Prop}
theorem Post.trans {n : Nat} {F0 : Nat → Prop} {w0 : World} {E E' : En} {w w' : World} {Φ : Exit → St → Prop} (he : EvoN n E w E' w') {e : Exit} {a : Act} {u : World} (h : Post n F0 w0 E' w' Φ e a u) : Post n F0 w0 E w Φ e a u := by
  obtain ⟨σ', E'', h1, h2, h3⟩ := h
  exact ⟨σ', E'', h1, h2, he.trans h3⟩
theorem W_region (hV : EnvOk P V) {id : Nat} {ops : Array Oper} {draw : Bool} {hs : List (Nat × Hint)} {cs : List Prop} (h : reg V ops draw hs σ = some (cs, τ)) (hc : AllP cs) (hΦ : Φ .normal τ) : W P n (.region id ops draw) σ Φ := by
  intro F0 w0 E a w hI
  unfold reg at h
  split at h
  · cases h
  · rename_i l τ' hl
    have hfin : ∀ a' w', Then F0 w0 E w τ' a' w' → τ' = τ → Post n F0 w0 E w Φ .normal a' w' := by
      rintro a' w' ⟨E', hI', he⟩ rfl
      exact ⟨_, E', hΦ, hI', .of he⟩
    cases hb : (!draw || (pairsOk ops.toList l && depsOk ops.toList 0))
    · rw [hb] at h; cases h
    · rw [hb, cond_true] at h
      simp only [Option.some.injEq, Prod.mk.injEq] at h
      obtain ⟨rfl, rfl⟩ := h
      cases draw
      · refine wp_region ?_
        rw [show ops.size = ops.toList.length by simp]
        exact ok_seq hV hI rfl hl hc (fun a' w' hT => hfin a' w' hT rfl)
      · simp only [Bool.not_true, Bool.false_or, Bool.and_eq_true] at hb
        refine wp_region_any hV.mixed ?_
        have hI' : Inv F0 w0 E σ a { w with drawn := w.drawn + 1 } := by
          have he : Evo E w E { w with drawn := w.drawn + 1 } := ⟨fun _ _ e => e, fun _ _ e => e, fun _ e => e, fun _ _ => rfl⟩
          refine hI.evo he ⟨⟨hI.heap.below.os, hI.heap.below.tape, hI.heap.below.output, hI.heap.below.size, hI.heap.below.block⟩, fun k => SlotOk.keep rfl rfl he (fun _ _ => rfl) (hI.heap.slot k), hI.heap.own, hI.heap.inj, hI.heap.fz, hI.heap.sub, hI.heap.sup, hI.heap.gl⟩
        -- the list of what was done
        have key : ∀ {is : List Nat} {σ' : St} {l : List (Nat × Res)}, evalL V σ.nt σ.heap.length ops.toList hs is σ' = some (l, τ') → AllP (conds l) → Chain V σ.nt σ.heap.length ops.toList hs τ' l σ' ∧ l.map (·.1) = is := by
          intro is
          induction is with
          | nil =>
            intro σ' l h _
            simp only [evalL, Option.some.injEq, Prod.mk.injEq] at h
            obtain ⟨rfl, rfl⟩ := h
            exact ⟨Eqv.refl _, rfl⟩
          | cons i is ih =>
            intro σ' l h hc
            unfold evalL at h
            split at h
            · cases h
            · rename_i x hx
              split at h
              · cases h
              · rename_i l' τ'' hl'
                simp only [Option.some.injEq, Prod.mk.injEq] at h
                obtain ⟨rfl, rfl⟩ := h
                obtain ⟨hc1, hc2⟩ := AllP.app.1 hc
                obtain ⟨k1, k2⟩ := ih hl' hc2
                exact ⟨⟨hx, hc1, k1⟩, by simp [k2]⟩
        obtain ⟨k1, k2⟩ := key hl hc
        have hll : l.length = ops.size := by
          have := congrArg List.length k2
          simpa using this
        rw [← hll]
        refine ok_any (E := E) (hn := σ.heap.length) hV hb.2 hI' rfl (by simp [hll]) (fun i hi => ?_) (fun q hq => ?_) ?_ (pairsOk_ok hb.1) (fun i o ho hd d hdm hdl => ?_) k1 (fun a' w' hT => ?_)
        · have h1 : (Array.replicate l.length false).getD i true = false := by
            rw [Array.getD_eq_getD_getElem?, Array.getElem?_replicate, if_pos (by omega)]; rfl
          refine ⟨fun _ => ?_, fun _ => h1⟩
          have : i ∈ l.map (·.1) := by rw [k2]; simpa using hi
          obtain ⟨q, hq, rfl⟩ := List.mem_map.1 this
          exact ⟨q.2, hq⟩
        · have : q.1 ∈ l.map (·.1) := List.mem_map.2 ⟨q, hq, rfl⟩
          rw [k2] at this
          simpa using this
        · have : (l.map (·.1)).Pairwise (· < ·) := by rw [k2]; exact List.pairwise_lt_range
          exact (List.pairwise_map.1 this)
        · have hi := (Array.getElem?_eq_some_iff.1 ho).1
          rw [Array.getD_eq_getD_getElem?, Array.getElem?_replicate, if_pos (by omega)] at hd
          cases hd
        · obtain ⟨E', hI'', he⟩ := hT
          exact hfin a' w' ⟨E', hI'', ⟨he.β, he.γ, he.F, he.heap⟩⟩ rfl
theorem W_mono {c : Code} {Φ' : Exit → St → Prop} (h : W P n c σ Φ) (hΦ : ∀ e τ, Φ e τ → Φ' e τ) : W P n c σ Φ' := fun F0 w0 E a w hI =>
  wp_mono (h F0 w0 E a w hI) (fun e a' w' ⟨σ', E', h1, h2⟩ => ⟨σ', E', hΦ e σ' h1, h2⟩)
def thenW (P : Program) (n : Nat) (c : Code) (Φ : Exit → St → Prop) : Exit → St → Prop
  | .normal, τ => W P n c τ Φ
  | e, τ => Φ e τ
theorem W_seq {c d : Code} (h : W P n c σ (thenW P n d Φ)) : W P n (.seq c d) σ Φ := fun F0 w0 E a w hI => by
  refine wp_seq (wp_mono (h F0 w0 E a w hI) fun e a' w' ⟨σ', E', h1, h2, h3⟩ => ?_)
  cases e with
  | normal => exact wp_mono (h1 F0 w0 E' a' w' h2) fun e a'' w'' hp => hp.trans h3
  | exit id => exact ⟨σ', E', h1, h2, h3⟩
  | goto l => exact ⟨σ', E', h1, h2, h3⟩
  | ret => exact ⟨σ', E', h1, h2, h3⟩
  | panic ch => exact ⟨σ', E', h1, h2, h3⟩
  | outgrown => exact ⟨σ', E', h1, h2, h3⟩
/-- A region, and what comes behind it. -/
theorem W_reg (hV : EnvOk P V) {id : Nat} {ops : Array Oper} {draw : Bool} {d : Code} (hs : List (Nat × Hint)) {cs : List Prop} (h : reg V ops draw hs σ = some (cs, τ)) (hc : AllP cs) (hd : W P n d τ Φ) : W P n (.seq (.region id ops draw) d) σ Φ := W_seq (W_region hV h hc hd)
theorem W_skip (h : Φ .normal σ) : W P n .skip σ Φ := fun F0 w0 E a w hI => wp_skip ⟨σ, E, h, hI, .of (Evo.refl E w)⟩
theorem W_label {l : Nat} (h : Φ .normal σ) : W P n (.label l) σ Φ := fun F0 w0 E a w hI => wp_label ⟨σ, E, h, hI, .of (Evo.refl E w)⟩
theorem W_exit {id : Nat} (h : Φ (.exit id) σ) : W P n (.exit id) σ Φ := fun F0 w0 E a w hI => wp_exit ⟨σ, E, h, hI, .of (Evo.refl E w)⟩
theorem W_goto {l : Nat} (h : Φ (.goto l) σ) : W P n (.goto l) σ Φ := fun F0 w0 E a w hI => wp_goto ⟨σ, E, h, hI, .of (Evo.refl E w)⟩
theorem W_ret (h : Φ .ret σ) : W P n .ret σ Φ := fun F0 w0 E a w hI => wp_ret ⟨σ, E, h, hI, .of (Evo.refl E w)⟩
theorem W_condT {t : Nat} {c d : Code} (hb : lk σ.tmps t = .cv (.one (.bool true))) (h : W P n c σ Φ) : W P n (.cond (.tmp t) c d) σ Φ := fun F0 w0 E a w hI => by
  have := hI.tmp t
  rw [hb] at this
  exact wp_cond_true this (h F0 w0 E a w hI)
theorem W_condF {t : Nat} {c d : Code} (hb : lk σ.tmps t = .cv (.one (.bool false))) (h : W P n d σ Φ) : W P n (.cond (.tmp t) c d) σ Φ := fun F0 w0 E a w hI => by
  have := hI.tmp t
  rw [hb] at this
  exact wp_cond_false this (h F0 w0 E a w hI)
theorem W_condB {t : Nat} {b : Bool} {c d : Code} (hb : lk σ.tmps t = .cv (.one (.bool b))) (h : b = true → W P n c σ Φ) (h' : b = false → W P n d σ Φ) : W P n (.cond (.tmp t) c d) σ Φ := fun F0 w0 E a w hI => by
  have := hI.tmp t
  rw [hb] at this
  exact wp_cond_split this (fun e => h e F0 w0 E a w hI) (fun e => h' e F0 w0 E a w hI)
def blockW (id : Nat) (Φ : Exit → St → Prop) : Exit → St → Prop
  | .exit id', τ => if id' = id then Φ .normal τ else Φ (.exit id') τ
  | e, τ => Φ e τ
theorem W_block {id : Nat} {c : Code} (h : W P n c σ (blockW id Φ)) : W P n (.block id c) σ Φ := fun F0 w0 E a w hI => by
  refine wp_block (wp_mono (h F0 w0 E a w hI) fun e a' w' hp => ?_)
  obtain ⟨σ', E', h1, h2⟩ := hp
  cases e with
  | exit id' =>
    show (if id' = id then Post n F0 w0 E w Φ .normal a' w' else Post n F0 w0 E w Φ (.exit id') a' w')
    replace h1 : (if id' = id then Φ .normal σ' else Φ (.exit id') σ') := h1
    by_cases hid : id' = id
    · rw [if_pos hid] at h1 ⊢; exact ⟨σ', E', h1, h2⟩
    · rw [if_neg hid] at h1 ⊢; exact ⟨σ', E', h1, h2⟩
  | normal => exact ⟨σ', E', h1, h2⟩
  | goto l => exact ⟨σ', E', h1, h2⟩
  | ret => exact ⟨σ', E', h1, h2⟩
  | panic ch => exact ⟨σ', E', h1, h2⟩
  | outgrown => exact ⟨σ', E', h1, h2⟩
/-- Rounds of a loop: at most so many. -/
def WL (P : Program) (n : Nat) (c : Code) (Φ : Exit → St → Prop) (m : Nat) (σ : St) : Prop := ∀ F0 w0 E a w, Inv F0 w0 E σ a w → Code.rounds P c (Post n F0 w0 E w Φ) m a w
theorem rounds_mono {c : Code} {Q Q' : Exit → Act → World → Prop} (hq : ∀ e a w, Q e a w → Q' e a w) : ∀ {m : Nat} {a : Act} {w : World}, Code.rounds P c Q m a w → Code.rounds P c Q' m a w
  | 0, _, _, h => h.elim
  | m + 1, a, w, h => by
    refine wp_mono h fun e a' w' he => ?_
    cases e with
    | normal => exact rounds_mono hq he
    | exit id => exact hq _ _ _ he
    | goto l => exact hq _ _ _ he
    | ret => exact hq _ _ _ he
    | panic ch => exact hq _ _ _ he
    | outgrown => exact hq _ _ _ he
theorem W_loop {c : Code} (m : Nat) (h : WL P n c Φ m σ) : W P n (.loop c) σ Φ := fun F0 w0 E a w hI => wp_loop_rounds m (h F0 w0 E a w hI)
def roundW (P : Program) (n : Nat) (c : Code) (Φ : Exit → St → Prop) (m : Nat) : Exit → St → Prop
  | .normal, τ => WL P n c Φ m τ
  | e, τ => Φ e τ
theorem WL_succ {c : Code} {m : Nat} (h : W P n c σ (roundW P n c Φ m)) : WL P n c Φ (m + 1) σ := fun F0 w0 E a w hI => by
  rw [rounds_succ]
  refine wp_mono (h F0 w0 E a w hI) fun e a' w' hp => ?_
  obtain ⟨σ', E', h1, h2, h3⟩ := hp
  cases e with
  | normal => exact rounds_mono (fun e a'' w'' hp => hp.trans h3) (h1 F0 w0 E' a' w' h2)
  | exit id => exact ⟨σ', E', h1, h2, h3⟩
  | goto l => exact ⟨σ', E', h1, h2, h3⟩
  | ret => exact ⟨σ', E', h1, h2, h3⟩
  | panic ch => exact ⟨σ', E', h1, h2, h3⟩
  | outgrown => exact ⟨σ', E', h1, h2, h3⟩
end
end Go.Proofs.YtkhjemahenkdiaaGreatDoor.V
