/- A state told anew: fewer temporaries, other numbers of slots. -/
import Derived.Test.YtkhjemahenkdiaaGreatDoorVQ
namespace Go.Proofs.YtkhjemahenkdiaaGreatDoor.V
open Go Go.RowKit
set_option linter.unusedVariables false
set_option linter.unusedSimpArgs false
/-- The new number of an old slot. -/
def fnd : List (Option Nat) → Nat → Option Nat
  | [], _ => none
  | some k' :: r, k => cond (Nat.beq k' k) (some 0) (match fnd r k with | some j => some (j + 1) | none => none)
  | none :: r, k => match fnd r k with | some j => some (j + 1) | none => none
def old : List (Option Nat) → Nat → Option Nat
  | [], _ => none
  | o :: _, 0 => o
  | _ :: r, j + 1 => old r j
theorem fnd_old : ∀ {src : List (Option Nat)} {k j : Nat}, fnd src k = some j → old src j = some k
  | [], k, j, h => by cases h
  | some k' :: r, k, j, h => by
    unfold fnd at h
    cases e : Nat.beq k' k
    · rw [e, cond_false] at h
      split at h
      · rename_i j' hj
        obtain rfl := Option.some.inj h
        exact fnd_old (src := r) hj
      · cases h
    · rw [e, cond_true] at h
      obtain rfl := Option.some.inj h
      rw [Nat.eq_of_beq_eq_true e]
      rfl
  | none :: r, k, j, h => by
    unfold fnd at h
    split at h
    · rename_i j' hj
      obtain rfl := Option.some.inj h
      exact fnd_old (src := r) hj
    · cases h
def nodupS : List (Option Nat) → Bool
  | [] => true
  | none :: r => nodupS r
  | some k :: r => (fnd r k).isNone && nodupS r
theorem old_fnd : ∀ {src : List (Option Nat)} {k j : Nat}, old src j = some k → (fnd src k).isSome = true
  | [], k, j, h => by cases h
  | o :: r, k, 0, h => by
    obtain rfl : o = some k := h
    simp [fnd]
  | o :: r, k, j + 1, h => by
    have := old_fnd (src := r) (j := j) h
    obtain ⟨q, hq⟩ := Option.isSome_iff_exists.1 this
    cases o with
    | none => simp [fnd, hq]
    | some k' =>
      unfold fnd
      cases e : Nat.beq k' k
      · simp [hq]
      · simp
theorem old_inj : ∀ {src : List (Option Nat)} {k j j' : Nat}, nodupS src = true → old src j = some k → old src j' = some k → j = j'
  | [], k, j, j', _, h, _ => by cases h
  | o :: r, k, 0, 0, _, _, _ => rfl
  | o :: r, k, 0, j' + 1, hd, h, h' => by
    obtain rfl : o = some k := h
    simp only [nodupS, Bool.and_eq_true] at hd
    have := old_fnd (src := r) (j := j') h'
    rw [Option.isNone_iff_eq_none.1 hd.1] at this
    cases this
  | o :: r, k, j + 1, 0, hd, h, h' => by
    obtain rfl : o = some k := h'
    simp only [nodupS, Bool.and_eq_true] at hd
    have := old_fnd (src := r) (j := j) h
    rw [Option.isNone_iff_eq_none.1 hd.1] at this
    cases this
  | o :: r, k, j + 1, j' + 1, hd, h, h' => by
    have : nodupS r = true := by
      cases o with
      | none => exact hd
      | some k' => simp only [nodupS, Bool.and_eq_true] at hd; exact hd.2
    rw [old_inj (src := r) this h h']
def renP (src : List (Option Nat)) : List (Nat × Nat) → Option (List (Nat × Nat))
  | [] => some []
  | (k, o) :: r => match fnd src k, renP src r with
    | some j, some l => some ((j, o) :: l)
    | _, _ => none
def renA (src : List (Option Nat)) : AV → AV
  | .own k => match fnd src k with | some j => .own j | none => .bad
  | .ptr k o => match fnd src k with | some j => .ptr j o | none => .bad
  | .eptr k e i o => match fnd src k with | some j => .eptr j e i o | none => .bad
  | .mp k => match fnd src k with | some j => .mp j | none => .bad
  | .bsl k n => match fnd src k with | some j => .bsl j n | none => .bad
  | .oview k e lo => match fnd src k with | some j => .oview j e lo | none => .bad
  | .lsl a x B => match fnd src B with | some j => .lsl a x j | none => .bad
  | .fn f a c => match renP src a, renP src c with | some a, some c => .fn f a c | _, _ => .bad
  | x => x
def renL (src : List (Option Nat)) : List AV → List AV
  | [] => []
  | x :: r => renA src x :: renL src r
def renC (src : List (Option Nat)) : CV → CV
  | .one x => .one (renA src x)
  | .agg l => .agg (renL src l)
def renCs (src : List (Option Nat)) : List CV → List CV
  | [] => []
  | x :: r => renC src x :: renCs src r
def renT (src : List (Option Nat)) : TV → TV
  | .bad => .bad
  | .cv c => .cv (renC src c)
  | .tup l => .tup (renCs src l)
def renM (src : List (Option Nat)) : List (Int × AV) → List (Int × AV)
  | [] => []
  | (i, x) :: r => (i, renA src x) :: renM src r
def renS (src : List (Option Nat)) : Sl → Sl
  | .map es => .map (renM src es)
  | .lnk et a b xs B i => match fnd src B with | some B' => .lnk et a b xs B' i | none => .dead
  | s => s
def normT (src : List (Option Nat)) (l : List (Nat × TV)) : List Nat → List (Nat × TV)
  | [] => []
  | t :: r => (t, renT src (lk l t)) :: normT src l r
def normH (src : List (Option Nat)) (h : Heap) : List (Option Nat) → Heap
  | [] => []
  | none :: r => (.none, []) :: normH src h r
  | some k :: r => (renS src (hg h k).1, renL src (hg h k).2) :: normH src h r
def norm (live : List Nat) (src : List (Option Nat)) (σ : St) : St := ⟨σ.nt, normT src σ.tmps live, normH src σ.heap src⟩
def renE (E : En) (src : List (Option Nat)) : En := ⟨fun j => (old src j).bind E.β, fun j => (old src j).bind E.γ, E.F⟩
section
variable {P : Program} {F0 : Nat → Prop} {w0 : World} {E : En} {σ : St} {a : Act} {w : World} {heap : Heap} {src : List (Option Nat)}
theorem renE_β {k j : Nat} (h : fnd src k = some j) : (renE E src).β j = E.β k := by simp [renE, fnd_old h]
theorem renE_γ {k j : Nat} (h : fnd src k = some j) : (renE E src).γ j = E.γ k := by simp [renE, fnd_old h]
theorem renP_ok : ∀ {l m : List (Nat × Nat)} {vs : List Value}, All2 (PtrOk E) vs l → renP src l = some m → All2 (PtrOk (renE E src)) vs m
  | [], m, vs, h, e => by
    obtain rfl := Option.some.inj e
    exact (show All2 _ vs [] by match vs, h with | [], _ => trivial)
  | (k, o) :: r, m, v :: vs, h, e => by
    unfold renP at e
    split at e
    · rename_i j l hj hl
      obtain rfl := Option.some.inj e
      refine ⟨?_, renP_ok h.2 hl⟩
      obtain ⟨b, hb, hv⟩ := h.1
      exact ⟨b, by rw [renE_β hj]; exact hb, hv⟩
    · cases e
theorem renA_ok {v : Value} {x : AV} (h : RepA E w v x) : RepA (renE E src) w v (renA src x) := by
  cases x <;> simp only [renA] <;> try exact h
  case own k =>
    split
    · rename_i j hj; exact ⟨by rw [renE_γ hj]; exact h.1, h.2⟩
    · exact h.one
  case ptr k o =>
    split
    · rename_i j hj
      obtain ⟨b, hb, e⟩ := h
      exact ⟨b, by rw [renE_β hj]; exact hb, e⟩
    · exact h.one
  case eptr k e i o =>
    split
    · rename_i j hj
      obtain ⟨g, p, n, c, hb, e⟩ := h
      exact ⟨g, p, n, c, by rw [renE_γ hj]; exact hb, e⟩
    · exact h.one
  case fn f p c =>
    split
    · rename_i p' c' h1 h2
      obtain ⟨u, q, e, k1, k2⟩ := h
      exact ⟨u, q, e, renP_ok k1 h1, renP_ok k2 h2⟩
    · exact h.one
  case mp k =>
    split
    · rename_i j hj
      obtain ⟨b, hb, e⟩ := h
      exact ⟨b, by rw [renE_β hj]; exact hb, e⟩
    · exact h.one
  case bsl k n =>
    split
    · rename_i j hj
      obtain ⟨b, hb, e⟩ := h
      exact ⟨b, by rw [renE_β hj]; exact hb, e⟩
    · exact h.one
  case oview k e lo =>
    split
    · rename_i j hj
      obtain ⟨A, n, c, hb, e⟩ := h
      exact ⟨A, n, c, by rw [renE_γ hj]; exact hb, e⟩
    · exact h.one
  case lsl a x B =>
    split
    · rename_i j hj
      obtain ⟨k, c1, vB, h1, e⟩ := h
      exact ⟨k, c1, vB, by rw [renE_γ hj]; exact h1, e⟩
    · exact h.one
theorem renL_ok : ∀ {l : List AV} {vs : List Value}, RepL E w vs l → RepL (renE E src) w vs (renL src l)
  | [], [], _ => trivial
  | x :: r, v :: vs, h => ⟨renA_ok h.1, renL_ok h.2⟩
theorem renC_ok {v : Value} {c : CV} (h : RepC E w v c) : RepC (renE E src) w v (renC src c) := by
  cases c with
  | one x => exact renA_ok h
  | agg l => obtain ⟨cs, e, hl⟩ := h; exact ⟨cs, e, renL_ok hl⟩
theorem renCs_ok : ∀ {l : List CV} {vs : List Value}, All2 (RepC E w) vs l → All2 (RepC (renE E src) w) vs (renCs src l)
  | [], [], _ => trivial
  | x :: r, v :: vs, h => ⟨renC_ok h.1, renCs_ok h.2⟩
theorem renT_ok {v : Value} {c : TV} (h : RepT E w v c) : RepT (renE E src) w v (renT src c) := by
  cases c with
  | bad => trivial
  | cv c => exact renC_ok h
  | tup l => obtain ⟨vs, e, hl⟩ := h; exact ⟨vs, e, renCs_ok hl⟩
theorem renM_ok : ∀ {l : List (Int × AV)} {vs : List MapEntry}, All2 (fun (m : MapEntry) (x : Int × AV) => m.key = .int .i64 x.1 ∧ RepA E w m.val x.2) vs l → All2 (fun (m : MapEntry) (x : Int × AV) => m.key = .int .i64 x.1 ∧ RepA (renE E src) w m.val x.2) vs (renM src l)
  | [], [], _ => trivial
  | (i, x) :: r, v :: vs, h => ⟨⟨h.1.1, renA_ok h.1.2⟩, renM_ok h.2⟩
theorem renS_ok {k j : Nat} (hj : old src j = some k) {s : Sl} {c : List AV} (h : SlotOk E w k s c) : SlotOk (renE E src) w j (renS src s) (renL src c) := by
  have hβ : (renE E src).β j = E.β k := by simp [renE, hj]
  have hγ : (renE E src).γ j = E.γ k := by simp [renE, hj]
  cases s with
  | none => exact ⟨hβ.trans h.1, hγ.trans h.2⟩
  | dead => trivial
  | box n =>
    obtain ⟨b, cs, ty, h1, h2, h3, h4⟩ := h
    have := (renL_ok (src := src) h4).len
    have h5 := h4.len
    exact ⟨b, cs, ty, hβ.trans h1, h2, by rw [← this, h5]; exact h3, renL_ok h4⟩
  | buf et e xs => obtain ⟨v, inner, h1, h2⟩ := h; exact ⟨v, inner, hγ.trans h1, h2⟩
  | frz e xs => obtain ⟨v, h1, h2⟩ := h; exact ⟨v, hγ.trans h1, h2⟩
  | dm va K V xs => obtain ⟨b, h1, h2⟩ := h; exact ⟨b, hβ.trans h1, h2⟩
  | map es => obtain ⟨b, ents, cl, h1, h2, h3⟩ := h; exact ⟨b, ents, cl, hβ.trans h1, h2, renM_ok h3⟩
  | lnk et a b xs B i =>
    simp only [renS]
    split
    · rename_i B' hB
      obtain ⟨v, vB, i1, c1, i2, x, h1, h2, h3⟩ := h
      exact ⟨v, vB, i1, c1, i2, x, hγ.trans h1, by rw [renE_γ hB]; exact h2, h3⟩
    · trivial
theorem normH_get (h : Heap) : ∀ (l : List (Option Nat)) (j : Nat), hg (normH src h l) j = match old l j with
    | some k => (renS src (hg h k).1, renL src (hg h k).2)
    | none => (.none, [])
  | [], j => by simp [normH, hg, old]
  | none :: r, 0 => by simp [normH, hg, old]
  | some k :: r, 0 => by simp [normH, hg, old]
  | none :: r, j + 1 => by simpa [normH, hg, old] using normH_get h r j
  | some k :: r, j + 1 => by simpa [normH, hg, old] using normH_get h r j
theorem live_ren {k j b : Nat} (hj : old src j = some k) {s : Sl} (h : Live (renE E src) j (renS src s) b) : Live E k s b := by
  have hβ : (renE E src).β j = E.β k := by simp [renE, hj]
  have hγ : (renE E src).γ j = E.γ k := by simp [renE, hj]
  cases s
  case lnk et a b' xs B i =>
    simp only [renS] at h
    split at h
    · simp only [Live, hγ] at h ⊢; exact h
    · exact h.elim
  all_goals simp only [renS, Live, hβ, hγ] at h ⊢ <;> exact h
theorem norm_inv (hI : Inv F0 w0 E σ a w) (live : List Nat) (hd : nodupS src = true) : Inv F0 w0 (renE E src) (norm live src σ) a w := by
  refine ⟨hI.nt, hI.df, fun t => ?_, ⟨hI.heap.below, fun j => ?_, fun j b hl => ?_, fun j j' b hl hl' => ?_, hI.heap.fz, hI.heap.sub, hI.heap.sup, hI.heap.gl⟩⟩
  · simp only [norm]
    induction live with
    | nil => trivial
    | cons u r ih =>
      simp only [normT, lk]
      by_cases e : u = t
      · subst e; rw [Nat.beq_refl]; exact renT_ok (hI.tmp u)
      · rw [beq_f e]; exact ih
  · simp only [norm]
    rw [normH_get]
    cases ho : old src j with
    | none => exact ⟨by simp [renE, ho], by simp [renE, ho]⟩
    | some k => exact renS_ok ho (hI.heap.slot k)
  · simp only [norm] at hl
    rw [normH_get] at hl
    cases ho : old src j with
    | none => rw [ho] at hl; exact hl.elim
    | some k => rw [ho] at hl; exact hI.heap.own k b (live_ren ho hl)
  · simp only [norm] at hl hl'
    rw [normH_get] at hl hl'
    cases ho : old src j with
    | none => rw [ho] at hl; exact hl.elim
    | some k =>
      cases ho' : old src j' with
      | none => rw [ho'] at hl'; exact hl'.elim
      | some k' =>
        rw [ho] at hl
        rw [ho'] at hl'
        have := hI.heap.inj k k' b (live_ren ho hl) (live_ren ho' hl')
        subst this
        exact old_inj hd ho ho'
def idN (src : List (Option Nat)) : Nat → Bool
  | 0 => true
  | n + 1 => (match old src n with | some k => Nat.beq k n | none => false) && idN src n
theorem idN_ok : ∀ {n k : Nat}, idN src n = true → k < n → old src k = some k
  | n + 1, k, h, hk => by
    simp only [idN, Bool.and_eq_true] at h
    by_cases e : k = n
    · subst e
      have h1 := h.1
      split at h1
      · rename_i k' hk'; rw [hk', Nat.eq_of_beq_eq_true h1]
      · cases h1
    · exact idN_ok h.2 (by omega)
theorem norm_evo {n : Nat} (hn : idN src n = true) : EvoN n E w (renE E src) w :=
  ⟨fun k b hk e => by simp [renE, idN_ok hn hk, e], fun k v hk e => by simp [renE, idN_ok hn hk, e], fun _ e => e, fun _ _ => rfl⟩
variable {n : Nat} {Φ : Exit → St → Prop} {τ : St} {c : Code}
/-- The state may be told anew. -/
theorem W_norm (live : List Nat) (src : List (Option Nat)) (h1 : norm live src σ = τ) (h2 : (nodupS src && idN src n) = true) (h : W P n c τ Φ) : W P n c σ Φ := fun F0 w0 E a w hI => by
  subst h1
  simp only [Bool.and_eq_true] at h2
  exact wp_mono (h F0 w0 _ a w (norm_inv hI live h2.1)) fun e a' w' hp => hp.trans (norm_evo h2.2)
theorem WL_norm {m : Nat} (live : List Nat) (src : List (Option Nat)) (h1 : norm live src σ = τ) (h2 : (nodupS src && idN src n) = true) (h : WL P n c Φ m τ) : WL P n c Φ m σ := fun F0 w0 E a w hI => by
  subst h1
  simp only [Bool.and_eq_true] at h2
  exact rounds_mono (fun e a' w' hp => hp.trans (norm_evo h2.2)) (h F0 w0 _ a w (norm_inv hI live h2.1))
end
end Go.Proofs.YtkhjemahenkdiaaGreatDoor.V
