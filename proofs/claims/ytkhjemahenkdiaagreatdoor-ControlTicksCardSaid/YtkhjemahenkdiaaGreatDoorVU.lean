/- Small lemmas for the texts that vgen.py prints. -/
import Derived.Test.YtkhjemahenkdiaaGreatDoorVTG
namespace Go.Proofs.YtkhjemahenkdiaaGreatDoor.V
open Go Go.RowKit
set_option linter.unusedVariables false
theorem of_if {c : Prop} [Decidable c] {α : Type} {A : Option α} {r : α} (h : (if c then A else none) = some r) : c ∧ A = some r := by
  by_cases hc : c
  · rw [if_pos hc] at h; exact ⟨hc, h⟩
  · rw [if_neg hc] at h; cases h
theorem of_ite {b : Bool} {α : Type} {A B : Option α} {r : α} (h : (if b = true then A else B) = some r) : (b = true ∧ A = some r) ∨ (b = false ∧ B = some r) := by
  cases b
  · exact .inr ⟨rfl, by simpa using h⟩
  · exact .inl ⟨rfl, by simpa using h⟩
theorem of_ifx {c : Prop} [Decidable c] {α : Type} {A B : Option α} {r : α} (h : (if c then A else B) = some r) : (c ∧ A = some r) ∨ (¬ c ∧ B = some r) := by
  by_cases hc : c
  · rw [if_pos hc] at h; exact .inl ⟨hc, h⟩
  · rw [if_neg hc] at h; exact .inr ⟨hc, h⟩
theorem of_bind {α β : Type} {a : Option α} {f : α → Option β} {r : β} (h : a.bind f = some r) : ∃ x, a = some x ∧ f x = some r := by
  cases a with
  | none => cases h
  | some x => exact ⟨x, rfl, h⟩
theorem bool_lk {σ : St} {t : Nat} {b c : Bool} (h : lk σ.tmps t = .cv (.one (.bool b))) (e : b = c) : lk σ.tmps t = .cv (.one (.bool c)) := by rw [h, e]
def Qr (tt : TT) (rs : Array ResultVar) (s : Spec) (r : Tup s.rs) : Exit → St → Prop := fun e σ' => (e = .normal ∨ e = .ret) ∧ ret tt rs σ' s = some r
theorem lf_n {tt : TT} {rs : Array ResultVar} {s : Spec} {r : Tup s.rs} {σ : St} (h : ret tt rs σ s = some r) : Qr tt rs s r .normal σ := ⟨.inl rfl, h⟩
theorem lf_r {tt : TT} {rs : Array ResultVar} {s : Spec} {r : Tup s.rs} {σ : St} (h : ret tt rs σ s = some r) : Qr tt rs s r .ret σ := ⟨.inr rfl, h⟩
def QrO (rs : Array ResultVar) (et : Nat) (τ : Ty) (r : List τ.T × Unit) : Exit → St → Prop := fun e σ' => (e = .normal ∨ e = .ret) ∧ ∃ t k, rs = #[.tmp t] ∧ lk σ'.tmps t = .cv (.one (.own k)) ∧ (hg σ'.heap k).1 = .buf et τ r.1
theorem lfO_n {rs : Array ResultVar} {et : Nat} {τ : Ty} {r : List τ.T × Unit} {σ : St} (t k : Nat) (h1 : rs = #[.tmp t]) (h2 : lk σ.tmps t = .cv (.one (.own k))) (h3 : (hg σ.heap k).1 = .buf et τ r.1) : QrO rs et τ r .normal σ := ⟨.inl rfl, t, k, h1, h2, h3⟩
theorem lfO_r {rs : Array ResultVar} {et : Nat} {τ : Ty} {r : List τ.T × Unit} {σ : St} (t k : Nat) (h1 : rs = #[.tmp t]) (h2 : lk σ.tmps t = .cv (.one (.own k))) (h3 : (hg σ.heap k).1 = .buf et τ r.1) : QrO rs et τ r .ret σ := ⟨.inr rfl, t, k, h1, h2, h3⟩
/-- The contract of a function that answers with a slice that is then the caller's own. -/
theorem fits_ofO {P : Program} {V : Env} (hV : EnvOk P V) {f : Nat} {fn : Func} {c : Code} {ps : Sg} {et : Nat} {τ : Ty} {rel : Tup ps → Tup [(false, .slice τ)] → Prop} (hf : P.funcs[f]? = some fn) (hb : fn.body = some c) (hn : fn.name ≠ "runtime.NumGoroutine") (hps : ps.length ≤ fn.ntmps)
    (h : ∀ x r, rel x r → W P 0 c (start fn.ntmps ⟨ps, [(false, .slice τ)], .any, some et, rel⟩ x) (QrO fn.results et τ r)) : Fits P f ⟨ps, [(false, .slice τ)], .any, some et, rel⟩ := by
  refine ⟨fun args w => ?_, fun x r hrel F w args hF hargs => ?_⟩
  · simp [callFunc, hf, hb, hn]
  · have hlen : args.size = ps.length := by
      have h1 := hargs.len
      have h2 : ∀ (s : Sg) (x : Tup s), (mkCVs .any s x).length = s.length := by
        intro s
        induction s with
        | nil => intro _; rfl
        | cons p r ih => intro x; simp [mkCVs, ih]
      rw [h2, Array.length_toList] at h1
      exact h1
    refine calls_of_wp hf hb (wp_mono (h x r hrel F w (E0 F) { tmps := args ++ Array.replicate (fn.ntmps - args.size) undef, defers := [] } w ⟨?_, rfl, fun t => ?_, ⟨Below.refl _ _, fun k => ⟨rfl, rfl⟩, fun k b hl => hl.elim, fun k k' b hl => hl.elim, hF.1, fun b hb => .inl hb, fun b hb => hb, hF⟩⟩) ?_)
    · simp [start]
      omega
    · refine ptmps_lk hargs (fun t => (args ++ Array.replicate (fn.ntmps - args.size) undef).getD t undef) (fun j v hv => ?_)
      have hj : args[j]? = some v := by simpa using hv
      have hjl := (Array.getElem?_eq_some_iff.1 hj).1
      simp only [Nat.zero_add, Array.getD_eq_getD_getElem?]
      rw [Array.getElem?_append_left hjl, hj]
      rfl
    · rintro e a' w' ⟨σ', E', ⟨he, t, k, hrs, hlk, hsl⟩, hI, hev⟩
      have ht := hI.tmp t
      rw [hlk] at ht
      have hk := hI.heap.slot k
      rw [hsl] at hk
      obtain ⟨v, inner, g1, g2, g3⟩ := hk
      have hv : E'.γ k = some (a'.tmps.getD t undef) := ht.1
      rw [g1] at hv
      have hv := Option.some.inj hv
      have hrun : (results fn a'.tmps).run P w' = .ok v w' := by
        rw [results_eq, hrs, hv]
        simp [resF]
      have hR : ∃ v, (results fn a'.tmps).run P w' = .ok v w' ∧ ∃ v', Ending.returned v = .returned v' ∧ Below w.heap.size w w' ∧ Told F w w' v' ⟨ps, [(false, .slice τ)], .any, some et, rel⟩ r := by
        refine ⟨v, hrun, v, rfl, hI.heap.below, E'.F, hI.heap.sup, hI.heap.sub, hI.heap.fz, ?_⟩
        refine ⟨τ, r.1, inner, v, [], rfl, rfl, g2, g3, fun b o n c e hc => ?_⟩
        exact hI.heap.own k b (by rw [hsl]; exact ⟨o, n, c, by rw [g1, e], hc⟩)
      rcases he with rfl | rfl
      · exact ⟨hI.df, hR⟩
      · exact ⟨hI.df, hR⟩
def QrO2 (rs : Array ResultVar) (et : Nat) (τ : Ty) (kd : IntKind) (r : List τ.T × Int × Unit) : Exit → St → Prop := fun e σ' => (e = .normal ∨ e = .ret) ∧ ∃ t k t2, rs = #[.tmp t, .tmp t2] ∧ lk σ'.tmps t = .cv (.one (.own k)) ∧ (hg σ'.heap k).1 = .buf et τ r.1 ∧ lk σ'.tmps t2 = .cv (.one (.int kd r.2.1))
theorem lfO2_n {rs : Array ResultVar} {et : Nat} {τ : Ty} {kd : IntKind} {r : List τ.T × Int × Unit} {σ : St} (t k t2 : Nat) (h1 : rs = #[.tmp t, .tmp t2]) (h2 : lk σ.tmps t = .cv (.one (.own k))) (h3 : (hg σ.heap k).1 = .buf et τ r.1) (h4 : lk σ.tmps t2 = .cv (.one (.int kd r.2.1))) : QrO2 rs et τ kd r .normal σ := ⟨.inl rfl, t, k, t2, h1, h2, h3, h4⟩
theorem lfO2_r {rs : Array ResultVar} {et : Nat} {τ : Ty} {kd : IntKind} {r : List τ.T × Int × Unit} {σ : St} (t k t2 : Nat) (h1 : rs = #[.tmp t, .tmp t2]) (h2 : lk σ.tmps t = .cv (.one (.own k))) (h3 : (hg σ.heap k).1 = .buf et τ r.1) (h4 : lk σ.tmps t2 = .cv (.one (.int kd r.2.1))) : QrO2 rs et τ kd r .ret σ := ⟨.inr rfl, t, k, t2, h1, h2, h3, h4⟩
/-- The same with a whole number beside. -/
theorem fits_ofO2 {P : Program} {V : Env} (hV : EnvOk P V) {f : Nat} {fn : Func} {c : Code} {ps : Sg} {et : Nat} {τ : Ty} {kd : IntKind} {rel : Tup ps → Tup [(false, .slice τ), (false, .int kd)] → Prop} (hf : P.funcs[f]? = some fn) (hb : fn.body = some c) (hn : fn.name ≠ "runtime.NumGoroutine") (hps : ps.length ≤ fn.ntmps)
    (h : ∀ x r, rel x r → W P 0 c (start fn.ntmps ⟨ps, [(false, .slice τ), (false, .int kd)], .any, some et, rel⟩ x) (QrO2 fn.results et τ kd r)) : Fits P f ⟨ps, [(false, .slice τ), (false, .int kd)], .any, some et, rel⟩ := by
  refine ⟨fun args w => ?_, fun x r hrel F w args hF hargs => ?_⟩
  · simp [callFunc, hf, hb, hn]
  · have hlen : args.size = ps.length := by
      have h1 := hargs.len
      have h2 : ∀ (s : Sg) (x : Tup s), (mkCVs .any s x).length = s.length := by
        intro s
        induction s with
        | nil => intro _; rfl
        | cons p r ih => intro x; simp [mkCVs, ih]
      rw [h2, Array.length_toList] at h1
      exact h1
    refine calls_of_wp hf hb (wp_mono (h x r hrel F w (E0 F) { tmps := args ++ Array.replicate (fn.ntmps - args.size) undef, defers := [] } w ⟨?_, rfl, fun t => ?_, ⟨Below.refl _ _, fun k => ⟨rfl, rfl⟩, fun k b hl => hl.elim, fun k k' b hl => hl.elim, hF.1, fun b hb => .inl hb, fun b hb => hb, hF⟩⟩) ?_)
    · simp [start]
      omega
    · refine ptmps_lk hargs (fun t => (args ++ Array.replicate (fn.ntmps - args.size) undef).getD t undef) (fun j v hv => ?_)
      have hj : args[j]? = some v := by simpa using hv
      have hjl := (Array.getElem?_eq_some_iff.1 hj).1
      simp only [Nat.zero_add, Array.getD_eq_getD_getElem?]
      rw [Array.getElem?_append_left hjl, hj]
      rfl
    · rintro e a' w' ⟨σ', E', ⟨he, t, k, t2, hrs, hlk, hsl, hlk2⟩, hI, hev⟩
      have ht2 := hI.tmp t2
      rw [hlk2] at ht2
      have ht2 : a'.tmps.getD t2 undef = .int kd r.2.1 := ht2
      have ht := hI.tmp t
      rw [hlk] at ht
      have hk := hI.heap.slot k
      rw [hsl] at hk
      obtain ⟨v, inner, g1, g2, g3⟩ := hk
      have hv : E'.γ k = some (a'.tmps.getD t undef) := ht.1
      rw [g1] at hv
      have hv := Option.some.inj hv
      have hrun : (results fn a'.tmps).run P w' = .ok (.tuple #[v, .int kd r.2.1]) w' := by
        rw [results_eq, hrs]
        simp [resF, ← hv, ht2]
      have hR : ∃ v, (results fn a'.tmps).run P w' = .ok v w' ∧ ∃ v', Ending.returned v = .returned v' ∧ Below w.heap.size w w' ∧ Told F w w' v' ⟨ps, [(false, .slice τ), (false, .int kd)], .any, some et, rel⟩ r := by
        refine ⟨_, hrun, _, rfl, hI.heap.below, E'.F, hI.heap.sup, hI.heap.sub, hI.heap.fz, ?_⟩
        refine ⟨τ, r.1, inner, v, _, rfl, ⟨[.int kd r.2.1], rfl, rfl, trivial⟩, g2, g3, fun b o n c e hc => ?_⟩
        exact hI.heap.own k b (by rw [hsl]; exact ⟨o, n, c, by rw [g1, e], hc⟩)
      rcases he with rfl | rfl
      · exact ⟨hI.df, hR⟩
      · exact ⟨hI.df, hR⟩
def slk : List (Nat × Spec) → Nat → Option Spec
  | [], _ => none
  | (j, s) :: r, i => cond (Nat.beq j i) (some s) (slk r i)
theorem slk_nil {P : Program} : ∀ f s, slk [] f = some s → Fits P f s := fun f s h => by cases h
theorem slk_cons {P : Program} {j : Nat} {s : Spec} {l : List (Nat × Spec)} (h : Fits P j s) (hl : ∀ f s, slk l f = some s → Fits P f s) : ∀ f s', slk ((j, s) :: l) f = some s' → Fits P f s' := fun f s' e => by
  unfold slk at e
  cases hb : Nat.beq j f
  · rw [hb] at e; exact hl f s' e
  · rw [hb] at e
    obtain rfl := Option.some.inj e
    obtain rfl := Nat.eq_of_beq_eq_true hb
    exact h
def plk : List (Nat × Prim) → Nat → Option Prim
  | [], _ => none
  | (j, s) :: r, i => cond (Nat.beq j i) (some s) (plk r i)
theorem plk_nil {P : Program} : ∀ f p, plk [] f = some p → PrimOk P f p := fun f p h => by cases h
theorem plk_cons {P : Program} {j : Nat} {s : Prim} {l : List (Nat × Prim)} (h : PrimOk P j s) (hl : ∀ f p, plk l f = some p → PrimOk P f p) : ∀ f p, plk ((j, s) :: l) f = some p → PrimOk P f p := fun f p e => by
  unfold plk at e
  cases hb : Nat.beq j f
  · rw [hb] at e; exact hl f p e
  · rw [hb] at e
    obtain rfl := Option.some.inj e
    obtain rfl := Nat.eq_of_beq_eq_true hb
    exact h
end Go.Proofs.YtkhjemahenkdiaaGreatDoor.V
