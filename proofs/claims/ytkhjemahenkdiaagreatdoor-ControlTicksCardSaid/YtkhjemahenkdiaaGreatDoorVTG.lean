/- A scope with one label to which the run jumps back. -/
import Derived.Test.YtkhjemahenkdiaaGreatDoorVT
import Derived.ScopeJumps
namespace Go.Proofs.YtkhjemahenkdiaaGreatDoor.V
open Go Go.RowKit
set_option linter.unusedVariables false
def jumps (P : Program) (rest : Code) (l : Nat) (Q : Exit → Act → World → Prop) : Nat → Act → World → Prop
  | 0, _, _ => False
  | m + 1, a, w => rest.wp P (Exit.jump l (jumps P rest l Q m) Q) a w
theorem jump_mono {l : Nat} {J J' : Act → World → Prop} {Q Q' : Exit → Act → World → Prop} (hj : ∀ a w, J a w → J' a w) (hq : ∀ e a w, Q e a w → Q' e a w) : ∀ e a w, Exit.jump l J Q e a w → Exit.jump l J' Q' e a w
  | .normal, a, w, h => hq _ _ _ h
  | .exit _, a, w, h => hq _ _ _ h
  | .goto _, a, w, h => ⟨h.1, hj _ _ h.2⟩
  | .ret, a, w, h => hq _ _ _ h
  | .panic _, a, w, h => hq _ _ _ h
  | .outgrown, a, w, h => hq _ _ _ h
theorem jumps_mono {P : Program} {rest : Code} {l : Nat} {Q Q' : Exit → Act → World → Prop} (hq : ∀ e a w, Q e a w → Q' e a w) : ∀ (m : Nat) (a : Act) (w : World), jumps P rest l Q m a w → jumps P rest l Q' m a w
  | 0, _, _, h => h.elim
  | m + 1, a, w, h => wp_mono h fun e a' w' he => jump_mono (jumps_mono hq m) hq e a' w' he
theorem wp_scope_n {P : Program} {Q : Exit → Act → World → Prop} {a : Act} {w : World} {c rest : Code} (l m : Nat) (hf : findLabel c l = some rest) (first : c.wp P (Exit.jump l (jumps P rest l Q m) Q) a w) : (Code.scope c).wp P Q a w := by
  intro b k cs
  have hg : gotoIn l (.inScope c :: k) = some (.code rest :: .inScope c :: k) := by simp [gotoIn, hf]
  have key : ∀ n a w, jumps P rest l Q n a w → ∃ e a' w', Q e a' w' ∧ Arrives P (lone (b.at a (.code rest :: .inScope c :: k)) cs w) b k cs e a' w' := by
    intro n
    induction n with
    | zero => intro a w h; exact h.elim
    | succ n ih =>
      intro a w h
      obtain ⟨e, a₁, w₁, hq, harr⟩ := h b (.inScope c :: k) cs
      cases e with
      | normal => exact ⟨.normal, a₁, w₁, hq, Steps.trans harr (.one step_inScope)⟩
      | exit id => exact ⟨.exit id, a₁, w₁, hq, fun k' hk => harr k' (by simp [exitTo, hk])⟩
      | goto l' =>
        obtain ⟨rfl, hJ'⟩ := hq
        obtain ⟨e₂, a₂, w₂, hq₂, harr₂⟩ := ih a₁ w₁ hJ'
        exact ⟨e₂, a₂, w₂, hq₂, .of_steps (harr _ hg) harr₂⟩
      | ret => exact ⟨_, a₁, w₁, hq, harr⟩
      | panic ch => exact ⟨_, a₁, w₁, hq, harr⟩
      | outgrown => exact ⟨_, a₁, w₁, hq, harr⟩
  obtain ⟨e, a₁, w₁, hq, harr⟩ := first b (.inScope c :: k) cs
  cases e with
  | normal => exact ⟨.normal, a₁, w₁, hq, .head step_scope (Steps.trans harr (.one step_inScope))⟩
  | exit id => exact ⟨.exit id, a₁, w₁, hq, fun k' hk => .head step_scope (harr k' (by simp [exitTo, hk]))⟩
  | goto l' =>
    obtain ⟨rfl, hJ'⟩ := hq
    obtain ⟨e₂, a₂, w₂, hq₂, harr₂⟩ := key _ a₁ w₁ hJ'
    exact ⟨e₂, a₂, w₂, hq₂, .of_steps (.head step_scope (harr _ hg)) harr₂⟩
  | ret => exact ⟨_, a₁, w₁, hq, .of_steps (.one step_scope) harr⟩
  | panic ch => exact ⟨_, a₁, w₁, hq, .of_steps (.one step_scope) harr⟩
  | outgrown => exact ⟨_, a₁, w₁, hq, .of_steps (.one step_scope) harr⟩
def WG (P : Program) (n : Nat) (b : Code) (l : Nat) (Φ : Exit → St → Prop) (m : Nat) (σ : St) : Prop := ∀ F0 w0 E a w, Inv F0 w0 E σ a w → jumps P (.seq .skip b) l (Post n F0 w0 E w Φ) m a w
def gotoW (P : Program) (n : Nat) (b : Code) (l : Nat) (Φ : Exit → St → Prop) (m : Nat) : Exit → St → Prop
  | .goto l', τ => l' = l ∧ WG P n b l Φ m τ
  | e, τ => Φ e τ
section
variable {P : Program} {n : Nat} {b c : Code} {l m : Nat} {σ τ : St} {Φ : Exit → St → Prop}
theorem post_goto {F0 : Nat → Prop} {w0 w : World} {E : En} : ∀ e a' w', Post n F0 w0 E w (gotoW P n b l Φ m) e a' w' → Exit.jump l (jumps P (.seq .skip b) l (Post n F0 w0 E w Φ) m) (Post n F0 w0 E w Φ) e a' w'
  | .normal, a', w', h => h
  | .exit _, a', w', h => h
  | .goto l', a', w', ⟨σ', E', h1, h2, h3⟩ => ⟨h1.1, jumps_mono (fun e a'' w'' hp => hp.trans h3) m a' w' (h1.2 F0 w0 E' a' w' h2)⟩
  | .ret, a', w', h => h
  | .panic _, a', w', h => h
  | .outgrown, a', w', h => h
theorem WG_succ (h : W P n b σ (gotoW P n b l Φ m)) : WG P n b l Φ (m + 1) σ := fun F0 w0 E a w hI => by
  refine wp_seq (wp_skip ?_)
  exact wp_mono (h F0 w0 E a w hI) post_goto
def isScope : Code → Bool
  | .scope _ => true
  | _ => false
theorem D_scope (hc : isScope c = true) (hf : findLabel (Code.l c) l = some (.seq .skip b)) (m : Nat) (h : W P n (Code.l c) σ (gotoW P n b l Φ m)) : W P n c σ Φ := by
  match c, hc, hf, h with
  | .scope c, _, hf, h => exact fun F0 w0 E a w hI => wp_scope_n l m hf (wp_mono (h F0 w0 E a w hI) post_goto)
def isGoto : Code → Option Nat
  | .goto l => some l
  | _ => none
theorem D_goto (hc : isGoto c = some l) (h : Φ (.goto l) σ) : W P n c σ Φ := by
  match c, hc, h with
  | .goto l', hc, h =>
    obtain rfl := Option.some.inj hc
    exact W_goto h
theorem WG_tell (t : Tell) (h : tell t σ = some τ) (hn : idN t.src n = true) (hW : WG P n b l Φ m τ) : WG P n b l Φ m σ := fun F0 w0 E a w hI => by
  obtain ⟨E', i, v⟩ := tell_inv hn hI h
  exact jumps_mono (fun e a' w' hp => hp.trans v) m a w (hW F0 w0 E' a w i)
theorem go_n (h : Φ .normal τ) : gotoW P n b l Φ m .normal τ := h
theorem go_x {id : Nat} (h : Φ (.exit id) τ) : gotoW P n b l Φ m (.exit id) τ := h
theorem go_r (h : Φ .ret τ) : gotoW P n b l Φ m .ret τ := h
theorem go_h (h : WG P n b l Φ m τ) : gotoW P n b l Φ m (.goto l) τ := ⟨rfl, h⟩
theorem th_g {d : Code} (h : Φ (.goto l) τ) : thenW P n d Φ (.goto l) τ := h
theorem bl_g {id : Nat} (h : Φ (.goto l) τ) : blockW id Φ (.goto l) τ := h
theorem ro_g (h : Φ (.goto l) τ) : roundW P n c Φ m (.goto l) τ := h
end
end Go.Proofs.YtkhjemahenkdiaaGreatDoor.V
