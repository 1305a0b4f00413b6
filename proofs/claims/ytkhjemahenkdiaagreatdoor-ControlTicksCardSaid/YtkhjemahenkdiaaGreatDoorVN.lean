/- Calls of functions whose contract is known. -/
import Derived.Test.YtkhjemahenkdiaaGreatDoorVMC
namespace Go.Proofs.YtkhjemahenkdiaaGreatDoor.V
open Go Go.RowKit
set_option linter.unusedVariables false
set_option linter.unusedSimpArgs false
abbrev Sg := List (Bool × Ty)
@[reducible] def Tup : Sg → Type
  | [] => Unit
  | (_, τ) :: r => τ.T × Tup r
/-- The cells of a thing of type t, with what is known of the slices' room. -/
def encC (c : Cap) : (t : Ty) → t.T → List AV
  | .int k, n => [.int k n]
  | .bool, b => [.bool b]
  | .slice e, xs => [.sl e xs c]
  | .pair a b, x => encC c a x.1 ++ encC c b x.2
def cvOf (b : Bool) (l : List AV) : CV := match b, l with
  | false, [a] => .one a
  | _, l => .agg l
def mkCVs (c : Cap) : (s : Sg) → Tup s → List CV
  | [], _ => []
  | (b, τ) :: r, x => cvOf b (encC c τ x.1) :: mkCVs c r x.2
def mkTV (c : Cap) (s : Sg) (x : Tup s) : TV := match mkCVs c s x with
  | [v] => .cv v
  | l => .tup l
def E0 (F : Nat → Prop) : En := ⟨fun _ => none, fun _ => none, F⟩
structure Spec where
  ps : Sg
  rs : Sg
  rc : Cap
  own : Option Nat
  rel : Tup ps → Tup rs → Prop
def ownBuf (s : Sg) (et : Nat) (r : Tup s) : Option (Sl × List CV) := match s, r with
  | (false, .slice τ) :: rest, r => some (.buf et τ r.1, mkCVs .any rest r.2)
  | _, _ => none
/-- The result, the first of which is a slice of one's own. -/
def OwnV (F' : Nat → Prop) (w' : World) (v v1 : Value) : List CV → Prop
  | [] => v = v1
  | c :: l => ∃ vs, v = .tuple (v1 :: vs).toArray ∧ All2 (RepC (E0 F') w') vs (c :: l)
def mkOT (sb : Nat) : List CV → TV
  | [] => .cv (.one (.own sb))
  | c :: l => .tup (.one (.own sb) :: c :: l)
/-- What is known of a call's result. -/
def Told (F : Nat → Prop) (w w' : World) (v : Value) (s : Spec) (r : Tup s.rs) : Prop :=
  ∃ F', (∀ b, F b → F' b) ∧ (∀ b, F' b → F b ∨ w.heap.size ≤ b) ∧ (∀ b, F' b → b < w'.heap.size) ∧ match s.own with
  | none => RepT (E0 F') w' v (mkTV s.rc s.rs r)
  | some et => ∃ τ xs inner v1 l, ownBuf s.rs et r = some (.buf et τ xs, l) ∧ OwnV F' w' v v1 l ∧ Own w' et τ.sz v1 xs.length inner ∧ El (RepD F' w' τ) xs inner ∧
        ∀ b o n c, v1 = .slice (some ⟨b, o, none⟩) n c → 0 < c → w.heap.size ≤ b ∧ b < w'.heap.size ∧ ¬ F' b
/-- A function's contract. -/
structure Fits (P : Program) (f : Nat) (s : Spec) : Prop where
  enter : ∀ args w, (callFunc f args).run P w = .ok (.enter f args) w
  calls : ∀ x r, s.rel x r → ∀ (F : Nat → Prop) (w : World) (args : Array Value), Globs F w → All2 (RepC (E0 F) w) args.toList (mkCVs .any s.ps x) →
    Calls P f args w fun e w' => ∃ v, e = .returned v ∧ Below w.heap.size w w' ∧ Told F w w' v s r
def decs : (s : Sg) → List CV → Option (Tup s)
  | [], [] => some ()
  | (b, τ) :: r, c :: l => if b = c.isAgg then match dec τ c.cells, decs r l with
    | some x, some y => some (x, y)
    | _, _ => none
    else none
  | _, _ => none
section
variable {P : Program} {F0 : Nat → Prop} {w0 : World} {E : En} {σ : St} {a : Act} {w : World} {tt : TT} {heap : Heap}
theorem RepD.encC_any {F : Nat → Prop} : ∀ {t : Ty} {x : t.T} {vs : List Value}, RepD F w t x vs → RepL (E0 F) w vs (encC .any t x)
  | .int _, _, _, h => by rw [show _ = _ from h]; exact ⟨rfl, trivial⟩
  | .bool, _, _, h => by rw [show _ = _ from h]; exact ⟨rfl, trivial⟩
  | .slice e, xs, vs, h => by
    have h' := h
    obtain ⟨A, c, i, rfl, _⟩ := h'
    exact ⟨⟨h, trivial⟩, trivial⟩
  | .pair a b, _, _, h => by
    obtain ⟨v1, v2, rfl, h1, h2⟩ := h
    exact h1.encC_any.app h2.encC_any
theorem cvOf_true (l : List AV) : cvOf true l = .agg l := by
  cases l with
  | nil => rfl
  | cons a r => cases r <;> rfl
theorem decs_ok : ∀ {s : Sg} {l : List CV} {x : Tup s} {vs : List Value}, All2 (RepC E w) vs l → decs s l = some x → All2 (RepC (E0 E.F) w) vs (mkCVs .any s x)
  | [], [], _, [], hl, _ => trivial
  | (b, τ) :: r, c :: l, x, v :: vs, hl, h => by
    unfold decs at h
    split at h
    · rename_i hb
      split at h
      · rename_i x1 y1 h1 h2
        obtain rfl := Option.some.inj h
        refine ⟨?_, decs_ok hl.2 h2⟩
        have hr := (RepD.dec hl.1.cells h1).encC_any
        cases c with
        | one u =>
          have hone := RepA.one hl.1
          have hc : v.cells.toList = [v] := by cases v <;> simp_all [Value.oneCell', Value.cells]
          rw [hc] at hr
          obtain rfl : b = false := hb
          have key : ∀ L, RepL (E0 E.F) w [v] L → RepC (E0 E.F) w v (cvOf false L) := fun L hL => by
            match L, hL with
            | [q], hL => exact hL.1
          exact key _ hr
        | agg u =>
          obtain ⟨cs, rfl, _⟩ := hl.1
          obtain rfl : b = true := hb
          have key : ∀ L, RepL (E0 E.F) w cs.toList L → RepC (E0 E.F) w (.agg cs) (cvOf true L) := fun L hL => by
            rw [cvOf_true]; exact ⟨cs, rfl, hL⟩
          exact key _ hr
      · cases h
    · cases h
  | [], _ :: _, _, _, _, h => by simp [decs] at h
  | (_, _) :: _, [], _, _, _, h => by simp [decs] at h
theorem RepA.grow {E : En} {F' : Nat → Prop} {v : Value} {x : AV} (h : RepA (E0 F') w v x) : RepA ⟨E.β, E.γ, F'⟩ w v x := by
  cases x <;> simp only [RepA] at h ⊢ <;> try exact h
  case own => simp [E0] at h
  case ptr => obtain ⟨b, hb, _⟩ := h; simp [E0] at hb
  case eptr => obtain ⟨g, o, n, c, hb, _⟩ := h; simp [E0] at hb
  case fn =>
    obtain ⟨p, q, e, h1, h2⟩ := h
    have key : ∀ {l : List Value} {m : List (Nat × Nat)}, All2 (PtrOk (E0 F')) l m → All2 (PtrOk ⟨E.β, E.γ, F'⟩) l m := fun h => h.imp (fun _ _ hp => by obtain ⟨b, hb, _⟩ := hp; simp [E0] at hb)
    exact ⟨p, q, e, key h1, key h2⟩
  case mp => obtain ⟨b, hb, _⟩ := h; simp [E0] at hb
  case bsl => obtain ⟨b, hb, _⟩ := h; simp [E0] at hb
  case oview => obtain ⟨A, n, c, hb, _⟩ := h; simp [E0] at hb
  case lsl => obtain ⟨k, c1, vB, hb, _⟩ := h; simp [E0] at hb
theorem RepC.grow {E : En} {F' : Nat → Prop} {v : Value} {c : CV} (h : RepC (E0 F') w v c) : RepC ⟨E.β, E.γ, F'⟩ w v c := by
  cases c with
  | one x => exact RepA.grow h
  | agg l => obtain ⟨cs, e, hl⟩ := h; exact ⟨cs, e, hl.imp (fun _ _ => RepA.grow)⟩
theorem RepT.grow {E : En} {F' : Nat → Prop} {v : Value} {c : TV} (h : RepT (E0 F') w v c) : RepT ⟨E.β, E.γ, F'⟩ w v c := by
  cases c with
  | bad => trivial
  | cv c => exact RepC.grow h
  | tup l => obtain ⟨vs, e, hl⟩ := h; exact ⟨vs, e, hl.imp (fun _ _ => RepC.grow)⟩
/-- Behind a call that writes nothing that was there. -/
theorem InvH.called (h : InvH F0 w0 E heap w) {w' : World} {F' : Nat → Prop} (hb : Below w.heap.size w w') (h1 : ∀ b, E.F b → F' b) (h2 : ∀ b, F' b → E.F b ∨ w.heap.size ≤ b) (h3 : ∀ b, F' b → b < w'.heap.size) :
    InvH F0 w0 ⟨E.β, E.γ, F'⟩ heap w' ∧ Evo E w ⟨E.β, E.γ, F'⟩ w' := by
  have he : Evo E w ⟨E.β, E.γ, F'⟩ w' := ⟨fun _ _ e => e, fun _ _ e => e, h1, fun b hF => hb.block b (h.fz b hF)⟩
  refine ⟨⟨h.below.trans (hb.mono h.below.size), fun j => ?_, fun j b hl => ?_, h.inj, h3, fun b hF => ?_, fun b hF => h1 b (h.sup b hF), h.gl⟩, he⟩
  · exact SlotOk.keep (E := E) (E' := ⟨E.β, E.γ, F'⟩) rfl rfl he (fun b hl => hb.block b (h.own j b hl).2.1) (h.slot j)
  · obtain ⟨q1, q2, q3⟩ := h.own j b hl
    refine ⟨q1, Nat.lt_of_lt_of_le q2 hb.size, fun hF => ?_⟩
    rcases h2 b hF with hF | hF
    · exact q3 hF
    · omega
  · rcases h2 b hF with hF | hF
    · exact h.sub b hF
    · exact .inr (Nat.le_trans h.below.size hF)
def resolC (c : CV) (k : CV → Rd) : Rd := match c with
  | .one x => resol [x] fun l => match l with
    | [y] => k (.one y)
    | _ => .fail
  | .agg l => resol l fun m => k (.agg m)
theorem resolC_gives (hI : Inv F0 w0 E σ a w) {c : CV} {v : Value} {k : CV → Rd} {ws : List Wr} (hc : RepC E w v c) (h : (resolC c k).gives σ ws) : ∃ d, RepC E w v d ∧ (k d).gives σ ws := by
  cases c with
  | one x =>
    obtain ⟨m, hm, h⟩ := resol_gives hI (vs := [v]) (show RepL E w [v] [x] from ⟨hc, trivial⟩) h
    split at h
    · exact ⟨.one _, hm.1, h⟩
    · exact absurd h Rd.gives_fail
  | agg l =>
    obtain ⟨cs, rfl, hl⟩ := hc
    obtain ⟨m, hm, h⟩ := resol_gives hI hl h
    exact ⟨.agg m, ⟨cs, rfl, hm⟩, h⟩
def evcs : List Operand → (List CV → Rd) → Rd
  | [], k => k []
  | x :: r, k => evc x fun c => resolC c fun c => evcs r fun l => k (c :: l)
theorem evcs_gives (hI : Inv F0 w0 E σ a w) : ∀ {xs : List Operand} {k : List CV → Rd} {ws : List Wr}, (evcs xs k).gives σ ws → ∃ l, All2 (RepC E w) (xs.map a.eval) l ∧ (k l).gives σ ws
  | [], k, ws, h => ⟨[], trivial, h⟩
  | x :: r, k, ws, h => by
    obtain ⟨c, hc, h⟩ := evc_gives hI h
    obtain ⟨d, hd, h⟩ := resolC_gives hI hc h
    obtain ⟨l, hl, h⟩ := evcs_gives hI h
    exact ⟨d :: l, ⟨hd, hl⟩, h⟩
def lendC (c : CV) (k : CV → Rd) : Rd := match c with
  | .one x => lend [x] fun l => match l with
    | [y] => k (.one y)
    | _ => .fail
  | .agg l => lend l fun m => k (.agg m)
theorem lendC_gives (hI : Inv F0 w0 E σ a w) {c : CV} {v : Value} {k : CV → Rd} {ws : List Wr} (hc : RepC E w v c) (h : (lendC c k).gives σ ws) : ∃ d, RepC (lendE E σ.heap) w v d ∧ (k d).gives σ ws := by
  cases c with
  | one x =>
    obtain ⟨m, hm, h⟩ := lend_gives hI (vs := [v]) (show RepL E w [v] [x] from ⟨hc, trivial⟩) h
    split at h
    · exact ⟨.one _, hm.1, h⟩
    · exact absurd h Rd.gives_fail
  | agg l =>
    obtain ⟨cs, rfl, hl⟩ := hc
    obtain ⟨m, hm, h⟩ := lend_gives hI hl h
    exact ⟨.agg m, ⟨cs, rfl, hm⟩, h⟩
def evlc : List Operand → (List CV → Rd) → Rd
  | [], k => k []
  | x :: r, k => evc x fun c => lendC c fun c => evlc r fun l => k (c :: l)
theorem evlc_gives (hI : Inv F0 w0 E σ a w) : ∀ {xs : List Operand} {k : List CV → Rd} {ws : List Wr}, (evlc xs k).gives σ ws → ∃ l, All2 (RepC (lendE E σ.heap) w) (xs.map a.eval) l ∧ (k l).gives σ ws
  | [], k, ws, h => ⟨[], trivial, h⟩
  | x :: r, k, ws, h => by
    obtain ⟨c, hc, h⟩ := evc_gives hI h
    obtain ⟨d, hd, h⟩ := lendC_gives hI hc h
    obtain ⟨l, hl, h⟩ := evlc_gives hI h
    exact ⟨d :: l, ⟨hd, hl⟩, h⟩
def flatT : Ty → Bool
  | .int _ => true
  | .bool => true
  | .slice _ => false
  | .pair a b => flatT a && flatT b
def flatS : Sg → Bool
  | [] => true
  | (_, τ) :: r => flatT τ && flatS r
def flatA : AV → Prop
  | .int _ _ => True
  | .bool _ => True
  | _ => False
theorem encC_flat {rc : Cap} : ∀ {t : Ty} {x : t.T}, flatT t = true → ∀ u ∈ encC rc t x, flatA u
  | .int _, _, _, u, hu => by rw [List.mem_singleton.1 hu]; trivial
  | .bool, _, _, u, hu => by rw [List.mem_singleton.1 hu]; trivial
  | .slice _, _, h, _, _ => by cases h
  | .pair a b, x, h, u, hu => by
    simp only [flatT, Bool.and_eq_true] at h
    rcases List.mem_append.1 hu with hu | hu
    · exact encC_flat h.1 u hu
    · exact encC_flat h.2 u hu
theorem RepL.flat {E' : En} {w' : World} : ∀ {l : List AV} {vs : List Value}, (∀ u ∈ l, flatA u) → RepL E w vs l → RepL E' w' vs l
  | [], [], _, _ => trivial
  | x :: r, v :: vs, h, hl => by
    refine ⟨?_, RepL.flat (fun u hu => h u (List.mem_cons_of_mem _ hu)) hl.2⟩
    have hx := h x List.mem_cons_self
    have h1 := hl.1
    cases x <;> first | exact h1 | exact hx.elim
theorem cvOf_flat {E' : En} {w' : World} {v : Value} {b : Bool} {l : List AV} (h : ∀ u ∈ l, flatA u) (hv : RepC E w v (cvOf b l)) : RepC E' w' v (cvOf b l) := by
  have key : ∀ c : CV, (∀ u ∈ c.cells, flatA u) → RepC E w v c → RepC E' w' v c := by
    intro c hc hv
    cases c with
    | one x => exact (RepL.flat (vs := [v]) (l := [x]) hc (show RepL E w [v] [x] from ⟨hv, trivial⟩)).1
    | agg l => obtain ⟨cs, e, hl⟩ := hv; exact ⟨cs, e, RepL.flat hc hl⟩
  refine key _ ?_ hv
  intro u hu
  apply h
  unfold cvOf at hu
  split at hu
  · exact hu
  · exact hu
theorem mkCVs_flat {E' : En} {w' : World} {rc : Cap} : ∀ {s : Sg} {x : Tup s} {vs : List Value}, flatS s = true → All2 (RepC E w) vs (mkCVs rc s x) → All2 (RepC E' w') vs (mkCVs rc s x)
  | [], _, [], _, _ => trivial
  | (b, τ) :: r, x, v :: vs, h, hl => by
    simp only [flatS, Bool.and_eq_true] at h
    exact ⟨cvOf_flat (encC_flat h.1) hl.1, mkCVs_flat h.2 hl.2⟩
theorem mkTV_flat {E' : En} {w' : World} {rc : Cap} {s : Sg} {x : Tup s} {v : Value} (h : flatS s = true) (hv : RepT E w v (mkTV rc s x)) : RepT E' w' v (mkTV rc s x) := by
  unfold mkTV at hv ⊢
  have key : ∀ (L : List CV), L = mkCVs rc s x → RepT E w v (match L with | [c] => .cv c | l => .tup l) → RepT E' w' v (match L with | [c] => .cv c | l => .tup l) := by
    intro L hL hv
    match L, hL, hv with
    | [], hL, hv => obtain ⟨vs, e, hl⟩ := hv; exact ⟨vs, e, by rw [hL] at hl ⊢; exact mkCVs_flat h hl⟩
    | [c], hL, hv =>
      have h1 : All2 (RepC E w) [v] (mkCVs rc s x) := by rw [← hL]; exact ⟨hv, trivial⟩
      have h2 := mkCVs_flat (E' := E') (w' := w') h h1
      rw [← hL] at h2
      exact h2.1
    | c :: d :: l, hL, hv => obtain ⟨vs, e, hl⟩ := hv; exact ⟨vs, e, by rw [hL] at hl ⊢; exact mkCVs_flat h hl⟩
  exact key _ rfl hv
abbrev RV := (s : Sg) × Tup s
def castR (s : Sg) (r : RV) : Option (Tup s) := if h : r.1 = s then some (h ▸ r.2) else none
def semCall (nt hn sb : Nat) (dst : Option Nat) (s : Spec) (rv : RV) (args : Array Operand) : Rd := cond (flatS s.rs && s.own.isNone) (evlc args.toList fun l => match decs s.ps l, castR s.rs rv with
  | some x, some r => .need (s.rel x r) (fin nt dst [] (mkTV s.rc s.rs r))
  | _, _ => .fail) (evcs args.toList fun l => match decs s.ps l, castR s.rs rv with
  | some x, some r => .need (s.rel x r) (match s.own with
    | none => fin nt dst [] (mkTV s.rc s.rs r)
    | some et => match ownBuf s.rs et r with
      | some (b, l) => free hn sb (fin nt dst [.slot sb b []] (mkOT sb l))
      | none => .fail)
  | _, _ => .fail)
theorem ok_call {o : Oper} {f sb : Nat} {s : Spec} {rv : RV} {args : Array Operand} {ts : Array Nat} {Q : Exit → Act → World → Prop} {ws : List Wr} (hs : Fits P f s) (ho : o.op = .call { callee := .value (.func f), args := args, argTypes := ts }) (hI : Inv F0 w0 E σ a w)
    (h : (semCall σ.nt σ.heap.length sb o.dst s rv args).gives σ ws) : Good P F0 w0 E o a w (σ.aps ws) Q := by
  have hrun : (execOp a.eval o).run P w = .ok (.enter f (args.map a.eval)) w := by
    have := hs.enter (args.map a.eval) w
    simp [execOp, ho, resolve, Act.eval, Deferred.ofValue, invoke, this]
  unfold semCall at h
  cases hfl : (flatS s.rs && s.own.isNone)
  case true =>
    rw [hfl, cond_true] at h
    simp only [Bool.and_eq_true] at hfl
    replace h := evlc_gives hI h
    obtain ⟨l, hl, h⟩ := h
    split at h
    · rename_i x r hx hr
      replace h := Rd.gives_need.1 h
      obtain ⟨hrel, h⟩ := h
      have hargs := decs_ok hl hx
      have hc := hs.calls x r hrel (lendE E σ.heap).F w (args.map a.eval) (hI.globs.step (fun b hb => .inl hb) (fun _ _ => rfl) (fun b hb => hb.elim (hI.heap.fz b) (fun ⟨j, hj⟩ => (hI.heap.own j b hj).2.1))) (by simpa using hargs)
      unfold Good Oper.wp
      rw [hrun]
      simp only [Oper.upon]
      refine hc.mono ?_
      rintro e w' ⟨v, rfl, hbel, F', h1, h2, h3, htold⟩
      show ∃ E', _
      have hown : s.own = none := by cases ho : s.own <;> simp_all
      rw [hown] at htold
      obtain ⟨q1, q2⟩ := hI.heap.called (F' := E.F) hbel (fun _ h => h) (fun _ h => .inl h) (fun b hb => Nat.lt_of_lt_of_le (hI.heap.fz b hb) hbel.size)
      have hv : RepT E w' v (mkTV s.rc s.rs r) := mkTV_flat hfl.1 htold
      rcases fin_gives h with ⟨hd, rfl⟩ | ⟨t, hd, hlt, rfl⟩
      · rw [hd]; exact ⟨E, hI.evo q2 q1, q2⟩
      · rw [hd, St.aps_app]
        exact ⟨E, (hI.evo q2 q1).put hlt hv, q2⟩
    · exact absurd h Rd.gives_fail
  rw [hfl, cond_false] at h
  replace h := evcs_gives hI h
  obtain ⟨l, hl, h⟩ := h
  split at h
  · rename_i x r hx hr
    replace h := Rd.gives_need.1 h
    obtain ⟨hrel, h⟩ := h
    have hargs := decs_ok hl hx
    have hc := hs.calls x r hrel E.F w (args.map a.eval) hI.globs (by simpa using hargs)
    unfold Good Oper.wp
    rw [hrun]
    simp only [Oper.upon]
    refine hc.mono ?_
    rintro e w' ⟨v, rfl, hbel, htold⟩
    show ∃ E', _
    have done : ∀ {E' : En} {hw : List Wr} {tv : TV}, Inv F0 w0 E' (σ.aps hw) a w' → Evo E w E' w' → RepT E' w' v tv → (σ.aps hw).nt = σ.nt → (fin σ.nt o.dst hw tv).gives σ ws → ∃ E', Inv F0 w0 E' (σ.aps ws) (a.put o.dst v) w' ∧ Evo E w E' w' := by
      intro E' hw tv hI' he hv hnt hg
      rcases fin_gives hg with ⟨hd, rfl⟩ | ⟨t, hd, hlt, rfl⟩
      · rw [hd]; exact ⟨E', hI', he⟩
      · rw [hd, St.aps_app]
        exact ⟨E', hI'.put (by rw [hnt]; exact hlt) hv, he⟩
    obtain ⟨F', h1, h2, h3, htold⟩ := htold
    obtain ⟨q1, q2⟩ := hI.heap.called hbel h1 h2 h3
    split at h
    · rename_i hown
      rw [hown] at htold
      exact done (hw := []) (hI.evo q2 q1) q2 (RepT.grow htold) rfl h
    · rename_i et hown
      rw [hown] at htold
      obtain ⟨τ, xs, inner, v1, l1, hbuf, hOV, hO, hEl, hfree⟩ := htold
      rw [hbuf] at h
      obtain ⟨g1, g2, h⟩ := free_gives h
      obtain ⟨E', p1, p2, p3⟩ := own_same q1 g1 g2 hO hEl (fun b o' n c e hc => by
        obtain ⟨f1, f2, f3⟩ := hfree b o' n c e hc
        refine ⟨Nat.le_trans hI.heap.below.size f1, f2, f3, fun j hj => ?_⟩
        have hj' : Live E j (hg σ.heap j).1 b := hj
        have := (hI.heap.own j b hj').2.1
        omega)
      have hsl : ∃ A n c, v1 = .slice A n c := by
        rcases hO with ⟨A, e, _⟩ | ⟨g, cap, cur, e, _⟩
        · exact ⟨_, _, _, e⟩
        · exact ⟨_, _, _, e⟩
      exact done (hw := [.slot sb (.buf et τ xs) []]) ((hI.evo q2 q1).evo p2 p1) (q2.trans p2) (show RepT E' w' v (mkOT sb l1) from by
        cases l1 with
        | nil => obtain rfl : v = v1 := hOV; exact ⟨p3, hsl⟩
        | cons c l2 =>
          obtain ⟨vs, rfl, hvs⟩ := hOV
          exact ⟨_, rfl, by
            rw [List.toList_toArray]
            exact ⟨⟨p3, hsl⟩, hvs.imp fun u c hc => (RepC.grow (E := E) hc).evo p2⟩⟩) rfl h
  · exact absurd h Rd.gives_fail
end
end Go.Proofs.YtkhjemahenkdiaaGreatDoor.V
